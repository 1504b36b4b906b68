/- Which entries are right. -/
import Derived.Test.YtblcklaeejienaaGreatP34dbe400e
set_option linter.defProp false
set_option linter.unusedSectionVars false
set_option linter.unusedSimpArgs false
set_option linter.unusedVariables false
namespace Go.CP
open Go
variable [Fuel]
def d9(c:aM)(e:aP):Prop:=0<=e.aI/\e.aI<(c.aH.length:Int)
def fI(c:aM)(e:aP):Prop:=0<=e.aJ/\e.aJ<(c.aK.length:Int)
def oN(e:aP):Prop:=e.dh= -1
def eN(e:aP):Prop:=e.bP=0/\e.From=0/\e.bY=0
def iq(c:aM)(e:aP):Prop:=0<=e.N/\e.N<(c.fG.length:Int)
inductive qy(c:aM)(e:aP):Prop
 |place (k:e.aL=1) (t:d9 c e) (ce:fI c e) (o: -1<=e.dh/\e.dh<(c.aK.length:Int)/\e.dh≠e.aJ) (w:eN e) (n:e.N=0)
 |grant (k:e.aL=2) (t:d9 c e) (ce:fI c e) (o:oN e) (ep:1<=e.bP/\e.bP<=1048576) (w:0<=e.From/\e.From<=1073741824/\0<=e.bY/\e.bY<=1073741824) (n:iq c e)
 |cut (k:e.aL=3) (t:d9 c e) (ce:e.aJ= -1) (o:oN e) (ep:1<=e.bP/\e.bP<=1048576) (w:e.From=0/\e.bY=0) (n:e.N=0)
 |jB (k:e.aL=4) (t:d9 c e) (ce: -1<=e.aJ/\e.aJ<(c.aK.length:Int)) (o:oN e) (w:eN e) (n:e.N=0)
 |ready (k:e.aL=5) (t:d9 c e) (ce:fI c e) (o:oN e) (w:eN e) (n:e.N=0)
 |migrate (k:e.aL=6) (t:d9 c e) (ce:fI c e) (o:oN e) (w:eN e) (n:e.N=0)
 |abandon (k:e.aL=7) (t:d9 c e) (ce:e.aJ= -1) (o:oN e) (w:eN e) (n:e.N=0)
 |shed (k:e.aL=8) (t:d9 c e) (ce:e.aJ= -1) (o:oN e) (w:eN e) (n:e.N=0\/e.N=1)
 |mode (k:e.aL=9) (t:e.aI= -1) (ce:fI c e) (o:oN e) (w:eN e) (n:1<=e.N/\e.N<=3)
 |want (k:e.aL=10) (t:e.aI= -1) (ce:fI c e) (o:oN e) (w:eN e) (n:iq c e)
 |runs (k:e.aL=11) (t:e.aI= -1) (ce:fI c e) (o:oN e) (w:eN e) (n:iq c e)
 |prove (k:e.aL=12) (t:e.aI= -1) (ce:e.aJ= -1) (o:oN e) (w:eN e) (n:iq c e)
 |mM (k:e.aL=13) (t:e.aI= -1) (ce:e.aJ= -1) (o:0<=e.dh/\e.dh<c.gK) (w:eN e) (n:e.N=0\/e.N=1)
 |expand (k:e.aL=14) (t:e.aI= -1) (ce:e.aJ= -1) (o:oN e) (w:eN e) (n:e.N=0)
 |contract (k:e.aL=15) (t:e.aI= -1) (ce:e.aJ= -1) (o:oN e) (w:eN e) (n:e.N=0)
 |note (k:e.aL=16) (t:e.aI= -1) (ce:e.aJ= -1) (o:oN e) (w:eN e) (n:0<=e.N/\e.N<=1073741824)
def abm(c:aM)(e:aP):Prop:=(0<=e.aZ/\e.aZ<=1073741824)/\qy c e
section
variable {c:aM} {e:aP}
def aMn(k:Int):List Int:=([[],[116,99,111],[116,99,101,119,118],[116,101],[116,67],[116,99],[116,99],[116],[116,98],[99,109],[99,118],[99,118],[118],[114,98],[],[],[110]]:List (List Int)).getD k.toNat []
def jL(k b:Int):Bool:=(aMn k).contains b
theorem aqL{k:Int}(h:1<=k/\k<=16):k=1\/k=2\/k=3\/k=4\/k=5\/k=6\/k=7\/k=8\/k=9\/k=10\/k=11\/k=12\/k=13\/k=14\/k=15\/k=16:=ah
theorem aJ3{k b:Int}{r:Option Bool}(h:((agT k).bind λx=>Zl b x 18446744073709551616 0)=r):rG k b=r:=by unfold rG;rw[iP];exact h
theorem Cy{k:Int}(h:1<=k/\k<=16){b:Int}(hb:b=116\/b=99\/b=67\/b=111\/b=114\/b=101\/b=119\/b=118\/b=98\/b=109\/b=110):rG k b=some (jL k b):=by rcases aqL h with rfl|rfl|rfl|rfl|rfl|rfl|rfl|rfl|rfl|rfl|rfl|rfl|rfl|rfl|rfl|rfl<;>rcases hb with rfl|rfl|rfl|rfl|rfl|rfl|rfl|rfl|rfl|rfl|rfl<;>exact aJ3 rfl
def rQ(x a b:Int):Bool:=decide (a<=x)&&decide (x<=b)
theorem aua(x a b:Int):wK x a b=some (rQ x a b):=rfl
def Xk(c:aM)(e:aP)(t g G o r:Bool):Bool:=
 !(!(t==(e.aI !=(-1)))||(t&& !rQ e.aI 0 ((c.aH.length:Int)-1)))&& !(g&& !rQ e.aJ 0 ((c.aK.length:Int)-1))&& !(G&& !rQ e.aJ (-1) ((c.aK.length:Int)-1))&& !((!g&& !G)&&(e.aJ !=(-1)))
  && !(o&&(!rQ e.dh (-1) ((c.aK.length:Int)-1)||(e.dh==e.aJ)))&& !(r&& !rQ e.dh 0 (c.gK-1))&& !((!o&& !r)&&(e.dh !=(-1)))
def lastB(c:aM)(e:aP)(v b m n:Bool):Bool:=bif v then rQ e.N 0 ((c.fG.length:Int)-1)else bif b then rQ e.N 0 1 else bif m then rQ e.N 1 3 else bif n then rQ e.N 0 1073741824 else(e.N==0)
def nuB(c:aM)(e:aP)(p w v b m n:Bool):Bool:=
 !(p&& !rQ e.bP 1 1048576)&& !(!p&&(e.bP !=0))&& !(w&&(!rQ e.From 0 1073741824|| !rQ e.bY 0 1073741824))&& !(!w&&((e.From !=0)||(e.bY !=0)))&&lastB c e v b m n
def uK(c:aM)(e:aP)(t g G o r p w v b m n:Bool):Bool:=Xk c e t g G o r&&nuB c e p w v b m n
theorem aJn(h:VC c)(hk:1<=e.aL/\e.aL<=16):Oy e (c.aH.length:Int) (c.aK.length:Int) c.gK=some (Xk c e (jL e.aL 116) (jL e.aL 99) (jL e.aL 67) (jL e.aL 111) (jL e.aL 114)):=by have htl:=h.tl;have hcl:=h.cl;have ql:=h.reg;unfold Oy Te Td Xk;rw[bI (x:=(c.aH.length:Int)-1) ah ah,bI (x:=(c.aK.length:Int)-1) ah ah,bI (x:=c.gK-1) ah ah];rw[Cy hk (b:=116) aj,Cy hk (b:=99) aj,Cy hk (b:=67) aj,Cy hk (b:=111) aj,Cy hk (b:=114) aj];simp only[aua];generalize jL e.aL 116=f1;generalize jL e.aL 99=f2;generalize jL e.aL 67=f3;generalize jL e.aL 111=f4;generalize jL e.aL 114=f5;generalize (e.aI !=(-1))=a0;generalize rQ e.aI 0 ((c.aH.length:Int)-1)=a1;generalize rQ e.aJ 0 ((c.aK.length:Int)-1)=a2;generalize rQ e.aJ (-1) ((c.aK.length:Int)-1)=a3;generalize (e.aJ !=(-1))=a4;generalize rQ e.dh (-1) ((c.aK.length:Int)-1)=a5;generalize (e.dh==e.aJ)=a6;generalize rQ e.dh 0 (c.gK-1)=a7;generalize (e.dh !=(-1))=a8;revert f1 f2 f3 f4 f5 a0 a1 a2 a3 a4 a5 a6 a7 a8;decide+kernel
theorem aIn(h:VC c)(hk:1<=e.aL/\e.aL<=16):Oo e (c.fG.length:Int)=some (nuB c e (jL e.aL 101) (jL e.aL 119) (jL e.aL 118) (jL e.aL 98) (jL e.aL 109) (jL e.aL 110)):=by
 have hvl:=h.vl;have k1:∀x:Bool,SI e (c.fG.length:Int) e.aL x=some (!x&&lastB c e (jL e.aL 118) (jL e.aL 98) (jL e.aL 109) (jL e.aL 110)):=by intro x;unfold SI lastB;rw[bI (x:=(c.fG.length:Int)-1) ah ah];rw[Cy hk (b:=118) aj,Cy hk (b:=98) aj,Cy hk (b:=109) aj,Cy hk (b:=110) aj];generalize jL e.aL 118=f1;generalize jL e.aL 98=f2;generalize jL e.aL 109=f3;generalize jL e.aL 110=f4;cases x<;>cases f1<;>cases f2<;>cases f3<;>cases f4<;>rfl
 unfold Oo YA nuB;simp only[k1];rw[Cy hk (b:=101) aj,Cy hk (b:=119) aj];simp only[aua];generalize jL e.aL 101=f1;generalize jL e.aL 119=f2;generalize lastB c e (jL e.aL 118) (jL e.aL 98) (jL e.aL 109) (jL e.aL 110)=a0;generalize rQ e.bP 1 1048576=a1;generalize (e.bP !=0)=a2;generalize rQ e.From 0 1073741824=a3;generalize rQ e.bY 0 1073741824=a4;generalize (e.From !=0)=a5;generalize (e.bY !=0)=a6;revert f1 f2 a0 a1 a2 a3 a4 a5 a6;decide+kernel
theorem tB(b:Bool):(true==b)=b:=by cases b<;>rfl
theorem fB(b:Bool):(false==b)= !b:=by cases b<;>rfl
theorem aJ4:(e.aL=1->(uK c e true true false true false false false false false false false=true ↔ qy c e))∧
  (e.aL=2->(uK c e true true false false false true true true false false false=true ↔ qy c e))∧
  (e.aL=3->(uK c e true false false false false true false false false false false=true ↔ qy c e))∧
  (e.aL=4->(uK c e true false true false false false false false false false false=true ↔ qy c e))∧
  (e.aL=5->(uK c e true true false false false false false false false false false=true ↔ qy c e))∧
  (e.aL=6->(uK c e true true false false false false false false false false false=true ↔ qy c e))∧
  (e.aL=7->(uK c e true false false false false false false false false false false=true ↔ qy c e))∧
  (e.aL=8->(uK c e true false false false false false false false true false false=true ↔ qy c e))∧
  (e.aL=9->(uK c e false true false false false false false false false true false=true ↔ qy c e))∧
  (e.aL=10->(uK c e false true false false false false false true false false false=true ↔ qy c e))∧
  (e.aL=11->(uK c e false true false false false false false true false false false=true ↔ qy c e))∧
  (e.aL=12->(uK c e false false false false false false false true false false false=true ↔ qy c e))∧
  (e.aL=13->(uK c e false false false false true false false false true false false=true ↔ qy c e))∧
  (e.aL=14->(uK c e false false false false false false false false false false false=true ↔ qy c e))∧
  (e.aL=15->(uK c e false false false false false false false false false false false=true ↔ qy c e))∧
  (e.aL=16->(uK c e false false false false false false false false false false true=true ↔ qy c e)):=by
 refine⟨λhk=> ?_,λhk=> ?_,λhk=> ?_,λhk=> ?_,λhk=> ?_,λhk=> ?_,λhk=> ?_,λhk=> ?_,λhk=> ?_,λhk=> ?_,λhk=> ?_,λhk=> ?_,λhk=> ?_,λhk=> ?_,λhk=> ?_,λhk=> ?_⟩<;>unfold uK Xk nuB lastB rQ<;>
  simp only[dQ,ow,wQ,AX,ne_eq,Cn,sG,Gu,l6,nu,Gx,gI,jQ,qc,kW,aY,aX,nW,Bf,tB,fB,sI,and_true]<;>constructor<;>intro q
 .refine .place hk ?_ ?_ ?_ ?_ ?_<;>first|(simp only[d9,fI,oN,eN,iq];omega)|omega
 .cases q<;>simp only[d9,fI,oN,eN,iq]at* <;>omega
 .refine .grant hk ?_ ?_ ?_ ?_ ?_ ?_<;>first|(simp only[d9,fI,oN,eN,iq];omega)|omega
 .cases q<;>simp only[d9,fI,oN,eN,iq]at* <;>omega
 .refine .cut hk ?_ ?_ ?_ ?_ ?_ ?_<;>first|(simp only[d9,fI,oN,eN,iq];omega)|omega
 .cases q<;>simp only[d9,fI,oN,eN,iq]at* <;>omega
 .refine .jB hk ?_ ?_ ?_ ?_ ?_<;>first|(simp only[d9,fI,oN,eN,iq];omega)|omega
 .cases q<;>simp only[d9,fI,oN,eN,iq]at* <;>omega
 .refine .ready hk ?_ ?_ ?_ ?_ ?_<;>first|(simp only[d9,fI,oN,eN,iq];omega)|omega
 .cases q<;>simp only[d9,fI,oN,eN,iq]at* <;>omega
 .refine .migrate hk ?_ ?_ ?_ ?_ ?_<;>first|(simp only[d9,fI,oN,eN,iq];omega)|omega
 .cases q<;>simp only[d9,fI,oN,eN,iq]at* <;>omega
 .refine .abandon hk ?_ ?_ ?_ ?_ ?_<;>first|(simp only[d9,fI,oN,eN,iq];omega)|omega
 .cases q<;>simp only[d9,fI,oN,eN,iq]at* <;>omega
 .refine .shed hk ?_ ?_ ?_ ?_ ?_<;>first|(simp only[d9,fI,oN,eN,iq];omega)|omega
 .cases q<;>simp only[d9,fI,oN,eN,iq]at* <;>omega
 .refine .mode hk ?_ ?_ ?_ ?_ ?_<;>first|(simp only[d9,fI,oN,eN,iq];omega)|omega
 .cases q<;>simp only[d9,fI,oN,eN,iq]at* <;>omega
 .refine .want hk ?_ ?_ ?_ ?_ ?_<;>first|(simp only[d9,fI,oN,eN,iq];omega)|omega
 .cases q<;>simp only[d9,fI,oN,eN,iq]at* <;>omega
 .refine .runs hk ?_ ?_ ?_ ?_ ?_<;>first|(simp only[d9,fI,oN,eN,iq];omega)|omega
 .cases q<;>simp only[d9,fI,oN,eN,iq]at* <;>omega
 .refine .prove hk ?_ ?_ ?_ ?_ ?_<;>first|(simp only[d9,fI,oN,eN,iq];omega)|omega
 .cases q<;>simp only[d9,fI,oN,eN,iq]at* <;>omega
 .refine .mM hk ?_ ?_ ?_ ?_ ?_<;>first|(simp only[d9,fI,oN,eN,iq];omega)|omega
 .cases q<;>simp only[d9,fI,oN,eN,iq]at* <;>omega
 .refine .expand hk ?_ ?_ ?_ ?_ ?_<;>first|(simp only[d9,fI,oN,eN,iq];omega)|omega
 .cases q<;>simp only[d9,fI,oN,eN,iq]at* <;>omega
 .refine .contract hk ?_ ?_ ?_ ?_ ?_<;>first|(simp only[d9,fI,oN,eN,iq];omega)|omega
 .cases q<;>simp only[d9,fI,oN,eN,iq]at* <;>omega
 .refine .note hk ?_ ?_ ?_ ?_ ?_<;>first|(simp only[d9,fI,oN,eN,iq];omega)|omega
 .cases q<;>simp only[d9,fI,oN,eN,iq]at* <;>omega
theorem aIZ(h:VC c)(hk:1<=e.aL/\e.aL<=16):∃b,(Option.bind (Oy e (c.aH.length:Int) (c.aK.length:Int) c.gK) λx8=>Option.bind (bif x8 then Oo e (c.fG.length:Int)else some aG) λx9=>some (x8&&x9))=some b/\(b=true ↔ qy c e):=by
 rw[aJn h hk,aIn h hk];refine⟨uK c e (jL e.aL 116) (jL e.aL 99) (jL e.aL 67) (jL e.aL 111) (jL e.aL 114) (jL e.aL 101) (jL e.aL 119) (jL e.aL 118) (jL e.aL 98) (jL e.aL 109) (jL e.aL 110),?_,?_⟩
 .unfold uK;rw[bE];cases Xk c e (jL e.aL 116) (jL e.aL 99) (jL e.aL 67) (jL e.aL 111) (jL e.aL 114)<;>rfl
 .obtain⟨h1,h2,h3,h4,h5,h6,h7,h8,h9,h10,h11,h12,h13,h14,h15,h16⟩:=aJ4 (c:=c) (e:=e);rcases aqL hk with hk|hk|hk|hk|hk|hk|hk|hk|hk|hk|hk|hk|hk|hk|hk|hk<;>rw[hk]
  .exact h1 hk
  .exact h2 hk
  .exact h3 hk
  .exact h4 hk
  .exact h5 hk
  .exact h6 hk
  .exact h7 hk
  .exact h8 hk
  .exact h9 hk
  .exact h10 hk
  .exact h11 hk
  .exact h12 hk
  .exact h13 hk
  .exact h14 hk
  .exact h15 hk
  .exact h16 hk
theorem qy.range(h:qy c e):1<=e.aL/\e.aL<=16:=by cases h<;>omega
theorem aGD(h:VC c):∃b,OE c e=some b/\(b=true ↔ abm c e):=by
 have htl:=h.tl;have hcl:=h.cl;have hvl:=h.vl;have ql:=h.reg;have m1:ji (c.aH.length:Int) 32=(c.aH.length:Int):=by unfold ji;split<;>omega
 have m2:ji (c.aK.length:Int) 16=(c.aK.length:Int):=by unfold ji;split<;>omega
 have m3:ji c.gK 4=c.gK:=by unfold ji;split<;>omega
 have m4:ji (c.fG.length:Int) 30=(c.fG.length:Int):=by unfold ji;split<;>omega
 unfold OE agy wK;(try simp only[gN,bG])
 simp only[m1,m2,m3,m4,bE];by_cases hk:1<=e.aL/\e.aL<=16
 .have ek:(decide (1<=e.aL)&&decide (e.aL<=16))=true:=ay
  by_cases ht:0<=e.aZ/\e.aZ<=1073741824
  .have et:(decide (0<=e.aZ)&&decide (e.aZ<=1073741824))=true:=ay;obtain⟨b,hb,hiff⟩:=aIZ h hk;simp only[ek,et,aY,l6,bE];refine⟨b,?_,by rw[hiff];exact⟨λq=>⟨ht,q⟩,λq=>q.2⟩⟩;generalize Oy e (c.aH.length:Int) (c.aK.length:Int) c.gK=A at hb⊢;rcases A with _|x;cases hb;simp only[bE]at hb⊢;rw[<-hb];cases x<;>cases Oo e (c.fG.length:Int)<;>rfl
  .have et:(decide (0<=e.aZ)&&decide (e.aZ<=1073741824))=false:=ay;simp only[ek,et,aY,aX,Em,nu,bE];exact⟨false,rfl,λq=>Bool.noConfusion q,λq=>absurd q.1 ht⟩
 .have ek:(decide (1<=e.aL)&&decide (e.aL<=16))=false:=ay
  simp only[ek,aX,nu,bE];exact⟨false,rfl,λq=>Bool.noConfusion q,λq=>absurd q.2.range hk⟩
end
def ajS:aN:={aZ:=0,eP:=0,aH:=[],aK:=[],jP:=0,eH:=0,gP:=0,dP:=0}
def iZ(e:Int):aN×Int:=(ajS,e)
def nP(c:aM)(s:aN):aN×Int:=bif decide (0<(((pQ c s).length:Nat):Int))then iZ 10 else(s,0)
def aO(s:aN)(i:Int):bM:=s.aH.getD i.toNat aG
def dw(s:aN)(i:Int):gG:=s.aK.getD i.toNat aG
def gX(s:aN)(i:Int)(t:bM):aN:={s with aH:=s.aH.set i.toNat t}
def tV(s:aN)(i:Int)(t:gG):aN:={s with aK:=s.aK.set i.toNat t}
def o9(c:aM)(s:aN)(i:Int):Bool:=hasB s.eH (jG c i)
structure TS(c:aM)(x:bM):Prop where
 lU: -1<=x.bL/\x.bL<(c.aK.length:Int)
 sb: -1<=x.bB/\x.bB<(c.aK.length:Int)
 nx: -1<=x.Next/\x.Next<(c.aK.length:Int)
 tg: -1<=x.dN/\x.dN<(c.aK.length:Int)
 wc: -1<=x.dV.aJ/\x.dV.aJ<(c.aK.length:Int)
 pl:x.dZ=true->0<=x.bL
 sh:x.fC=true->x.dZ=true
 ep:0<=x.bP/\x.bP<=1048576
 we:0<=x.dV.bP/\x.dV.bP<=1048576
 wv:0<=x.dV.sW/\x.dV.sW<(c.fG.length:Int)
 wf:0<=x.dV.From/\x.dV.From<=x.dV.bY/\x.dV.bY<=1073741824
structure CS(c:aM)(x:gG):Prop where
 mode:1<=x.ig/\x.ig<=3
 run:0<=x.fZ/\x.fZ<(c.fG.length:Int)
 wan:0<=x.iY/\x.iY<(c.fG.length:Int)
 sin:0<=x.qd/\x.qd<=1073741824
structure VS(c:aM)(s:aN):Prop where
 tl:s.aH.length=c.aH.length
 cl:s.aK.length=c.aK.length
 t:∀x∈s.aH,TS c x
 oK:∀x∈s.aK,CS c x
 bS:0<=s.aZ/\s.aZ<=1073741824
 cnt:0<=s.eP/\s.eP<=4096
 Bw:0<=s.jP/\s.jP<1073741824
 mM:0<=s.eH/\s.eH<8
 lh:0<=s.gP/\s.gP<=s.dP/\s.dP<=30
section
variable {α:Type} [Inhabited α]
theorem pY{xs:List α}{i:Nat}{a:α}(h:i<xs.length):(xs.set i a).getD i aG=a:=by simp[fD,h]
end
theorem Pp{α:Type}{xs:List α}{i:Nat}{a:α}:(xs.set i a).length=xs.length:=oQ
theorem wV(e:Int):jK e=some (iZ e):=rfl
theorem pX{α:Type}(b:Bool)(x y:α):(bif b then some x else some y)=some (bif b then x else y):=by cases b<;>rfl
theorem xg{α β:Type}(x:α×β):(x.1,x.2)=x:=rfl
section
variable {c:aM} {s:aN} {e:aP}
theorem aK1(h:VC c)(hl:s.aH.length=c.aH.length):Gf c s=some (nP c s):=by
 unfold Gf nP;(try simp only[gN,bG])
 rw[aHr h hl];simp only[bE];rw[<-pX];rfl
def Eh(c:aM)(s:aN)(e:aP):aN×Int:=
 bif(aO s e.aI).dZ then iZ 4
 else bif((dw s e.aJ).ig !=1)||(decide (0<=e.dh)&&((dw s e.dh).ig !=1))then iZ 6
 else bif o9 c s e.aJ||(decide (0<=e.dh)&&o9 c s e.dh)then iZ 12
 else bif !oH c e.aI e.aJ||(decide (0<=e.dh)&&(!oH c e.aI e.dh||j5 c e.aJ e.dh))then iZ 11
 else nP c (gX s e.aI {aO s e.aI with dZ:=true,bL:=e.aJ,bB:=e.dh})
theorem nQ(hv:VS c s)(ht:d9 c e):0<=e.aI/\e.aI<(s.aH.length:Int):=by have:=hv.tl;unfold d9 at ht;omega
theorem sO(hv:VS c s)(ht:fI c e):0<=e.aJ/\e.aJ<(s.aK.length:Int):=by have:=hv.cl;unfold fI at ht;omega
theorem Pm(h:VC c)(hv:VS c s)(i:Nat)(t:bM):Gf c {s with aH:=s.aH.set i t}=some (nP c {s with aH:=s.aH.set i t}):=
 aK1 h (by show(s.aH.set i t).length=_;rw[Pp,hv.tl])
theorem ahH(h:VC c)(hv:VS c s)(ht:d9 c e)(hc:fI c e)(ho: -1<=e.dh/\e.dh<(c.aK.length:Int)):ZE c s e=some (Eh c s e):=by
 have h1:=nQ hv ht;have h2:=sO hv hc;have hcl:=hv.cl;have hn:e.aI.toNat<s.aH.length:=ah
 have h3:∀{b:Bool},(b&&decide (0<=e.dh))=true->0<=e.dh/\e.dh<(s.aK.length:Int):=λq=>by simp only[dQ,ow]at q;omega
 unfold ZE Eh o9 aO dw gX;(try simp only[gN,bG])
 simp only[idx_eq h1,aY,bE,wV,xg,idx_eq h2,aby h3,ahg h hv.mM.1,UQ h,ahh h,pY hn,Pp,tu,Pm h hv,pX];cases decide (0<=e.dh)<;>cases oH c e.aI e.dh<;>cases oH c e.aI e.aJ<;>cases hasB s.eH (jG c e.aJ)<;>rfl
def AR(c:aM)(s:aN)(e:aP):Int:=
 let x4:=aO s e.aI
 let x5:=dw s e.aJ
 bif((x5.ig==3)||((x5.ig==2)&&(!(e.aJ==x4.bL))))then 6
 else bif((((e.aJ==x4.bL)&&(e.bP !=x4.bP))&&(e.bP !=x4.bP+1))||((!(e.aJ==x4.bL))&&(e.bP !=x4.bP+1)))then 7
 else bif((e.N !=x5.fZ)||(x5.fZ !=x5.iY))then 8
 else bif(((((decide (e.From<e.aZ))||(decide (e.aZ+c.iQ<e.From)))||(decide (e.bY<=e.From)))||(decide (c.iQ<e.bY-e.From)))||(decide (e.From<x4.dV.bY)))then 9
 else bif((!(e.aJ==x4.bL))&&(decide (e.aZ<x4.dV.bY)))then 9
 else 0
theorem wW(hv:VS c s){i:Int}(h:0<=i/\i<(s.aH.length:Int)):TS c (aO s i):=hv.t _ (jw)
theorem VX(hv:VS c s){i:Int}(h:0<=i/\i<(s.aK.length:Int)):CS c (dw s i):=hv.oK _ (jw)
theorem aHk(h:VC c)(hv:VS c s)(ht:d9 c e)(hc:fI c e)(hk:0<=e.aZ/\e.aZ<=1073741824)(hw:0<=e.From/\e.From<=1073741824/\0<=e.bY/\e.bY<=1073741824):Y7 c s e=some (AR c s e):=by
 have h1:=nQ hv ht;have h2:=sO hv hc;have hle:=h.yt;have hT:=wW hv h1;have hep:=hT.ep;unfold aO at hep;unfold Y7 AR aO dw;(try simp only[gN,bG])
 rw[idx_eq h1,idx_eq h2];simp only[bE];rw[bI (x:=(s.aH.getD e.aI.toNat aG).bP+1) ah ah,bI (x:=e.aZ+c.iQ) ah ah,bI (x:=e.bY-e.From) ah ah];simp only[pX]
def wH(t:bM)(e:aP):bM:=
 let u:={t with dV:={aJ:=e.aJ,bP:=e.bP,sW:=e.N,From:=e.From,bY:=e.bY:iC},bP:=e.bP}
 bif e.aJ==t.bL then u
 else bif e.aJ==t.bB then {u with bL:=e.aJ,bB:= -1,Next:= -1,dN:= -1,fC:=false}
 else {u with bL:=e.aJ,dN:= -1}
def AZ(c:aM)(s:aN)(e:aP):aN×Int:=
 let t:=aO s e.aI
 bif(!t.dZ)||(t.fC&&(e.aJ !=t.bB))then iZ 4
 else bif((e.aJ !=t.bL)&&(e.aJ !=t.bB))&&(e.aJ !=t.dN)then iZ 5
 else bif AR c s e !=0 then iZ (AR c s e)
 else nP c (gX s e.aI (wH t e))
theorem aI9(h:VC c)(hv:VS c s)(ht:d9 c e)(hc:fI c e)(hk:0<=e.aZ/\e.aZ<=1073741824)(hw:0<=e.From/\e.From<=1073741824/\0<=e.bY/\e.bY<=1073741824):ZB c s e=some (AZ c s e):=by
 have h1:=nQ hv ht;have hn:e.aI.toNat<s.aH.length:=ah
 unfold ZB Tz AZ aO gX;(try simp only[gN,bG])
 simp only[idx_eq h1,aY,bE,wV,xg,aHk h hv ht hc hk hw,pY hn,Pp,tu,Pm h hv,pX];unfold wH;cases (e.aJ==(s.aH.getD e.aI.toNat aG).bL)<;>cases (e.aJ==(s.aH.getD e.aI.toNat aG).bB)<;>rfl
def Ah(w:iC)(bS:Int):iC:={w with From:=ji w.From (ji w.bY (bS+1)),bY:=ji w.bY (bS+1)}
def ED(s:aN)(e:aP):aN×Int:=
 let t:=aO s e.aI
 bif !t.dZ then iZ 4 else bif e.bP !=t.bP then iZ 7 else(gX s e.aI {t with dV:=Ah t.dV e.aZ},0)
theorem aKP(hv:VS c s)(ht:d9 c e)(hk:0<=e.aZ/\e.aZ<=1073741824):aaj s e=some (ED s e):=by
 have h1:=nQ hv ht;unfold aaj ahf ED aO gX Ah;(try simp only[gN,bG])
 rw[bI (x:=e.aZ+1) ah ah];simp only[idx_eq h1,aY,bE,wV,xg,pX]
def DZ(c:aM)(s:aN)(e:aP):aN×Int:=
 let t:=aO s e.aI
 let ok:=nP c (gX s e.aI {t with Next:=e.aJ})
 bif !t.dZ then iZ 4
 else bif decide (e.aJ<0)then ok
 else bif((e.aJ==t.bL)||(e.aJ==t.bB))||(e.aJ==t.dN)then iZ 5
 else bif(dw s e.aJ).ig !=1 then iZ 6
 else bif o9 c s e.aJ then iZ 12
 else bif(!oH c e.aI e.aJ||j5 c e.aJ t.bL)||j5 c e.aJ t.dN then iZ 11
 else ok
theorem aHT(h:VC c)(hv:VS c s)(ht:d9 c e)(hc: -1<=e.aJ/\e.aJ<(c.aK.length:Int)):Y9 c s e=some (DZ c s e):=by
 have h1:=nQ hv ht;have hcl:=hv.cl;unfold Y9 YB DZ aO dw gX o9;(try simp only[gN,bG])
 by_cases h0:e.aJ<0
 .rw[eY h0];simp only[idx_eq h1,aY,bE,wV,xg,Pm h hv,pX]
 .have h2:0<=e.aJ/\e.aJ<(s.aK.length:Int):=ah
  rw[fV h0];simp only[idx_eq h1,aY,aX,bE,wV,xg,idx_eq h2,ahg h hv.mM.1,UQ h,ahh h,Pm h hv,pX];cases oH c e.aI e.aJ<;>cases j5 c e.aJ (s.aH.getD e.aI.toNat aG).bL<;>rfl
def Ej(s:aN)(e:aP):aN×Int:=
 let t:=aO s e.aI
 bif !t.dZ then iZ 4 else bif e.aJ !=t.Next then iZ 5 else bif(dw s e.aJ).ig==3 then iZ 6
 else(gX s e.aI {t with bB:=e.aJ,Next:= -1},0)
theorem ready_eq(hv:VS c s)(ht:d9 c e)(hc:fI c e):ZG s e=some (Ej s e):=by
 have h1:=nQ hv ht;have h2:=sO hv hc;have hn:e.aI.toNat<s.aH.length:=ah
 unfold ZG Ej aO dw gX;(try simp only[gN,bG])
 simp only[idx_eq h1,aY,bE,wV,xg,idx_eq h2,pY hn,tu,pX]
def DY(c:aM)(s:aN)(e:aP):aN×Int:=
 let t:=aO s e.aI
 bif((!t.dZ)||t.fC)||decide (0<=t.dN)then iZ 4
 else bif((e.aJ==t.bL)||(e.aJ==t.bB))||(e.aJ==t.Next)then iZ 5
 else bif(dw s e.aJ).ig !=1 then iZ 6
 else bif o9 c s e.aJ then iZ 12
 else bif(!oH c e.aI e.aJ||j5 c e.aJ t.bB)||j5 c e.aJ t.Next then iZ 11
 else nP c (gX s e.aI {t with dN:=e.aJ})
theorem aHl(h:VC c)(hv:VS c s)(ht:d9 c e)(hc:fI c e):Y8 c s e=some (DY c s e):=by
 have h1:=nQ hv ht;have h2:=sO hv hc;unfold Y8 DY aO dw gX o9;(try simp only[gN,bG])
 simp only[idx_eq h1,aY,bE,wV,xg,idx_eq h2,ahg h hv.mM.1,UQ h,ahh h,Pm h hv,pX];cases oH c e.aI e.aJ<;>cases j5 c e.aJ (s.aH.getD e.aI.toNat aG).bB<;>rfl
def DW(s:aN)(e:aP):aN×Int:=
 let t:=aO s e.aI
 bif(!t.dZ)||decide (t.dN<0)then iZ 4 else(gX s e.aI {t with dN:= -1},0)
theorem aHa(hv:VS c s)(ht:d9 c e):Y6 s e=some (DW s e):=by
 have h1:=nQ hv ht;unfold Y6 DW aO gX;(try simp only[gN,bG])
 simp only[idx_eq h1,aY,bE,wV,xg,pX]
def Bo(c:aM)(s:aN)(e:aP):aN×Int:=
 let t:=aO s e.aI
 bif e.N==1 then
  (bif(!t.dZ)||t.fC then iZ 4 else bif decide (e.aZ<t.dV.bY)then iZ 9 else(gX s e.aI {t with fC:=true,dN:= -1},0))
 else bif !t.fC then iZ 4 else bif(dw s t.bL).ig==3 then iZ 6 else nP c (gX s e.aI {t with fC:=false})
theorem aKE(h:VC c)(hv:VS c s)(ht:d9 c e):Z4 c s e=some (Bo c s e):=by
 have h1:=nQ hv ht;have hn:e.aI.toNat<s.aH.length:=ah
 have hT:=wW hv h1;have hcl:=hv.cl;unfold Z4 Bo aO dw gX;(try simp only[gN,bG])
 unfold aO at hT;simp only[idx_eq h1,aY,bE,wV,xg,pY hn,tu,pX];cases hN:(e.N==1)with
 |true=>rfl
 |false=>
  simp only[aX];rcases hs:(s.aH.getD e.aI.toNat aG).fC with _|_;rfl;have hp:=hT.pl (hT.sh hs);have hh:=hT.lU;have h2:0<=(s.aH.getD e.aI.toNat aG).bL/\(s.aH.getD e.aI.toNat aG).bL<(s.aK.length:Int):=ah
  simp only[gI,aX,idx_eq h2,bE,Pm h hv,pX]
end
theorem drop_cons{α:Type} [Inhabited α]{xs:List α}{k:Nat}(h:k<xs.length):xs.drop k=xs.getD k aG::xs.drop (k+1):=by rw[D9 h];simp[fD,h]
def vg(s:aN)(v:Int):Bool:=hasB s.jP v
def Cz(s:aN)(i:Int):Bool:= !vg s (dw s i).fZ|| !vg s (dw s i).iY
def uZ(s:aN)(cell:Int):Nat->Int
 |0=>0
 |k+1=>bif((k:Int) !=cell)&&Cz s k then uZ s cell k+1 else uZ s cell k
theorem aox(s:aN)(cell:Int):∀k,0<=uZ s cell k/\uZ s cell k<=k
 |0=>by simp[uZ]
 |k+1=>by have:=aox s cell k;rw[uZ];cases ((k:Int) !=cell)&&Cz s k<;>simp only[aY,aX]<;>omega
section
variable {c:aM} {s:aN} {e:aP}
theorem aah(hv:VS c s)(v:Int):F7 s v=some (vg s v):=by unfold F7 vg;(try simp only[gN,bG]);rw[UO hv.Bw.1];rfl
theorem aKk(hv:VS c s){i:Int}(h:0<=i/\i<(s.aK.length:Int)):ZY s i=some (Cz s i):=by
 unfold ZY Cz dw;(try simp only[gN,bG])
 rw[idx_eq h];simp only[bE,aah hv,pX,VE h];cases vg s (s.aK.getD i.toNat aG).fZ<;>rfl
def CF(c:aM)(s:aN)(e:aP):aN×Int:=
 let x:=dw s e.aJ
 let v:=c.fG.getD e.N.toNat aG
 bif x.iY==e.N then iZ 4
 else bif decide (s.gP<v.gP)||decide (v.dP<s.dP)then iZ 13
 else bif((e.N !=x.fZ)&& !vg s e.N)&&(s.eH !=0)then iZ 12
 else bif((e.N !=x.fZ)&& !vg s e.N)&&decide (c.oz<=uZ s e.aJ s.aK.length)then iZ 14
 else(tV s e.aJ {x with iY:=e.N},0)
theorem asf(h:VC c)(hv:VS c s)(hc:fI c e):∀(m k:Nat),s.aK.length-k<m->k<=s.aK.length→
  Ot c s e (c.fG.getD e.N.toNat aG) e.aJ.toNat m (uZ s e.aJ k) (k:Int)=some (CF c s e)
 |0,_,hm,_=>absurd hm (kJ _)
 |m+1,k,hm,hk=>by
  have hcl:=h.cl;have hl:=hv.cl;have hb:=aox s e.aJ k;rw[Ot];(try simp only[gN,bG])
  by_cases hlt:k<s.aK.length
  .rw[eY (show(k:Int)<(s.aK.length:Int)by omega)];have i1:0<=(k:Int)/\(k:Int)<(s.aK.length:Int):=ah;simp only[aY,aKk hv i1,pX,bE];unfold Za;(try simp only[gN,bG])
   rw[bI (x:=(k:Int)+1) ah ah,bI (x:=uZ s e.aJ k+1) ah ah];have next:=asf h hv hc m (k+1) ah ah
   rw[uZ]at next
   have ec:((k+1:Nat):Int)=(k:Int)+1:=ah;rw[ec]at next
   cases hne:((k:Int) !=e.aJ)<;>cases ho:Cz s k<;>simp only[hne,ho,aY,aX,l6,nu,Gx,Em]at next⊢<;>exact next
  .rw[fV (show¬(k:Int)<(s.aK.length:Int)by omega)];have:k=s.aK.length:=ah;subst this;unfold CF dw tV;simp only[aX,bE,wV,xg,aah hv,pX];cases (e.N !=(s.aK.getD e.aJ.toNat aG).fZ)<;>rfl
theorem aKM(h:VC c)(hv:VS c s)(hc:fI c e)(hn:iq c e):Z5 c s e=some (CF c s e):=by
 have h2:=sO hv hc;have hl:=hv.cl;have hcl:=h.cl;unfold Z5;(try simp only[gN,bG])
 rw[idx_eq h2,idx_eq hn];simp only[bE];have:=asf h hv hc fuel 0 aB ah;simpa[uZ]using this
def Ae(e:aP)(t:bM):Bool:=(t.dV.aJ==e.aJ)&&decide (e.aZ<t.dV.bY)
def EB(s:aN)(e:aP):aN×Int:=
 let x:=dw s e.aJ
 bif(e.N !=x.iY)||(x.fZ==x.iY)then iZ 4
 else bif !vg s e.N&&(s.eH !=0)then iZ 12
 else bif s.aH.any (Ae e)then iZ 9
 else(tV s e.aJ {x with fZ:=e.N,qd:=e.aZ},0)
theorem ar6(h:VC c)(hv:VS c s)(hc:fI c e):∀(m k:Nat),s.aH.length-k<m->k<=s.aH.length→
  Oq s e e.aJ.toNat m (k:Int)=some (bif(s.aH.drop k).any (Ae e)then iZ 9 else(tV s e.aJ {dw s e.aJ with fZ:=e.N,qd:=e.aZ},0))
 |0,_,hm,_=>absurd hm (kJ _)
 |m+1,k,hm,hk=>by
  have htl:=h.tl;have hl:=hv.tl;have h2:=sO hv hc;have hn:e.aJ.toNat<s.aK.length:=ah
  rw[Oq];(try simp only[gN,bG])
  by_cases hlt:k<s.aH.length
  .rw[eY (show(k:Int)<(s.aH.length:Int)by omega)];have i1:0<=(k:Int)/\(k:Int)<(s.aH.length:Int):=ah;simp only[aY,idx_eq i1,bE,gL,wV,xg];rw[drop_cons hlt,ajq,bI (x:=(k:Int)+1) ah ah];have next:=ar6 h hv hc m (k+1) ah ah
   have ec:((k+1:Nat):Int)=(k:Int)+1:=ah;rw[ec]at next
   rw[next];unfold Ae;cases ((s.aH.getD k aG).dV.aJ==e.aJ)&&decide (e.aZ<(s.aH.getD k aG).dV.bY)<;>rfl
  .rw[fV (show¬(k:Int)<(s.aH.length:Int)by omega)];have:k=s.aH.length:=ah;subst this;unfold dw tV;simp only[aX,bE,pY hn,tu,Pv,aiA]
theorem aKy(h:VC c)(hv:VS c s)(hc:fI c e):Z0 s e=some (EB s e):=by
 have h2:=sO hv hc;have hl:=hv.tl;have htl:=h.tl;unfold Z0 EB;(try simp only[gN,bG])
 rw[idx_eq h2];have:=ar6 h hv hc fuel 0 aB ah;unfold dw at this⊢;simp only[aiB]at this;simp only[bq,aY,bE,wV,xg,aah hv,pX];have t2:Oq s e e.aJ.toNat fuel 0=_:=this;rw[t2];simp only[pX]
def Aa(c:aM)(e:aP)(x:gG):Bool:=(((x.ig !=3)&&(x.fZ==e.N))&&(x.iY==e.N))&&decide (c.o7<=e.aZ-x.qd)
def Ei(c:aM)(s:aN)(e:aP):aN×Int:=
 bif vg s e.N then iZ 4 else bif s.aK.any (Aa c e)then({s with jP:=ug .i64 s.jP (iL .i64 1 (IntKind.u64.wrap e.N))},0)else iZ 15
theorem aqZ(h:VC c)(hv:VS c s)(hn:iq c e)(hk:0<=e.aZ/\e.aZ<=1073741824):∀(m k:Nat),s.aK.length-k<m->k<=s.aK.length→
  Oc c s e m (k:Int)=some (bif(s.aK.drop k).any (Aa c e)then({s with jP:=ug .i64 s.jP (iL .i64 1 (IntKind.u64.wrap e.N))},0)else iZ 15)
 |0,_,hm,_=>absurd hm (kJ _)
 |m+1,k,hm,hk2=>by
  have hcl:=h.cl;have hvl:=h.vl;have hl:=hv.cl;unfold iq at hn;have hu:(0:Int)<=IntKind.u64.wrap e.N:=by rw[Lv ah ah];omega
  rw[Oc];(try simp only[gN,bG])
  by_cases hlt:k<s.aK.length
  .rw[eY (show(k:Int)<(s.aK.length:Int)by omega)];have i1:0<=(k:Int)/\(k:Int)<(s.aK.length:Int):=ah;have hC:=VX hv i1;have at1:=hC.sin;unfold dw at at1;simp only[gL]at at1;simp only[aY,idx_eq i1,bE,gL];rw[drop_cons hlt,ajq,bI (x:=(k:Int)+1) ah ah,bI (x:=e.aZ-(s.aK.getD k aG).qd) ah ah,eY hu];have next:=aqZ h hv (show iq c e from hn) hk m (k+1) ah ah
   have ec:((k+1:Nat):Int)=(k:Int)+1:=ah;rw[ec]at next
   rw[next];unfold Aa;cases ((((s.aK.getD k aG).ig !=3)&&((s.aK.getD k aG).fZ==e.N))&&((s.aK.getD k aG).iY==e.N))&&decide (c.o7<=e.aZ-(s.aK.getD k aG).qd)<;>rfl
  .rw[fV (show¬(k:Int)<(s.aK.length:Int)by omega)];have:k=s.aK.length:=ah;subst this;simp only[aX,bE,wV,xg,Pv,aiA]
theorem aJp(h:VC c)(hv:VS c s)(hn:iq c e)(hk:0<=e.aZ/\e.aZ<=1073741824):ZF c s e=some (Ei c s e):=by
 have hl:=hv.cl;have hcl:=h.cl;unfold ZF Ei;(try simp only[gN,bG])
 have:=aqZ h hv hn hk fuel 0 aB ah;simp only[aiB]at this;have t2:Oc c s e fuel 0=_:=this;simp only[bE,wV,xg,aah hv,t2,pX]
def yC(c:aM)(s:aN)(x:gG):Bool:=decide ((c.fG.getD x.fZ.toNat aG).dP<=s.dP)||decide ((c.fG.getD x.iY.toNat aG).dP<=s.dP)
def D7(c:aM)(s:aN):aN×Int:=
 bif decide (s.gP<s.dP)then iZ 4 else bif decide (30<=s.dP)then iZ 2 else bif s.aK.any (yC c s)then iZ 13 else({s with dP:=s.dP+1},0)
theorem apL(h:VC c)(hv:VS c s):∀(m k:Nat),s.aK.length-k<m->k<=s.aK.length→
  NZ c s m (k:Int)=some (bif(s.aK.drop k).any (yC c s)then iZ 13 else({s with dP:=s.dP+1},0))
 |0,_,hm,_=>absurd hm (kJ _)
 |m+1,k,hm,hk2=>by
  have hcl:=h.cl;have hl:=hv.cl;have hlh:=hv.lh;rw[NZ];(try simp only[gN,bG])
  by_cases hlt:k<s.aK.length
  .rw[eY (show(k:Int)<(s.aK.length:Int)by omega)];have i1:0<=(k:Int)/\(k:Int)<(s.aK.length:Int):=ah;have hC:=VX hv i1;have hr:=hC.run;have hw:=hC.wan;unfold dw at hr hw;simp only[gL]at hr hw;simp only[aY,idx_eq i1,bE,gL,idx_eq hr,aby (λ_=>hw),wV,xg];rw[drop_cons hlt,ajq,bI (x:=(k:Int)+1) ah ah];have next:=apL h hv m (k+1) ah ah
   have ec:((k+1:Nat):Int)=(k:Int)+1:=ah;rw[ec]at next
   rw[next];unfold yC;cases decide ((c.fG.getD (s.aK.getD k aG).fZ.toNat aG).dP<=s.dP)with|true=>rfl|false=>simp only[jQ,aY,kW];cases decide ((c.fG.getD (s.aK.getD k aG).iY.toNat aG).dP<=s.dP)<;>rfl
  .rw[fV (show¬(k:Int)<(s.aK.length:Int)by omega)];have:k=s.aK.length:=ah;subst this;rw[bI (x:=s.dP+1) ah ah];simp only[aX,Pv,aiA]
theorem aIa(h:VC c)(hv:VS c s):Zo c s=some (D7 c s):=by
 have hl:=hv.cl;have hcl:=h.cl;unfold Zo D7;(try simp only[gN,bG])
 have:=apL h hv fuel 0 aB ah;simp only[aiB]at this;have t2:NZ c s fuel 0=_:=this;simp only[bE,wV,xg,t2,pX]
end
def Bb(c:aM)(e:aP):Bool:=(OE c e).getD false
def bump(s:aN)(e:aP):aN:={s with aZ:=e.aZ,eP:=s.eP+1}
def Ey(s:aN)(e:aP):aN×Int:=
 bif(dw s e.aJ).ig==e.N then iZ 4 else(tV s e.aJ {dw s e.aJ with ig:=e.N,qd:=e.aZ},0)
def Eu(s:aN)(e:aP):aN×Int:=
 bif hasB s.eH e.dh==(e.N==1)then iZ 4 else({s with eH:=wm .i64 s.eH (iL .i64 1 (IntKind.u64.wrap e.dh))},0)
def I5(s:aN):aN×Int:=bif s.dP==s.gP then iZ 4 else({s with gP:=s.dP},0)
def Af(c:aM)(s:aN)(e:aP):aN×Int:=
 bif e.aL==1 then Eh c s e else bif e.aL==2 then AZ c s e else bif e.aL==3 then ED s e else bif e.aL==4 then DZ c s e
 else bif e.aL==5 then Ej s e else bif e.aL==6 then DY c s e else bif e.aL==7 then DW s e else bif e.aL==8 then Bo c s e
 else bif e.aL==9 then Ey s e else bif e.aL==10 then CF c s e else bif e.aL==11 then EB s e else bif e.aL==12 then Ei c s e
 else bif e.aL==13 then Eu s e else bif e.aL==14 then D7 c s else bif e.aL==15 then I5 s else(s,0)
def iB(c:aM)(s:aN)(e:aP):aN×Int:=
 bif !Bb c e then iZ 1 else bif decide (4096<=s.eP)then iZ 2 else bif decide (e.aZ<s.aZ)then iZ 3 else Af c (bump s e) e
section
variable {c:aM} {s:aN} {e:aP}
theorem valid_eq(h:VC c):OE c e=some (Bb c e)/\(Bb c e=true ↔ abm c e):=by
 obtain⟨b,h1,h2⟩:=aGD (e:=e) h;have:Bb c e=b:=by unfold Bb;rw[h1];rfl
 rw[this];exact⟨h1,h2⟩
theorem VS.bump(hv:VS c s)(hk:0<=e.aZ/\e.aZ<=1073741824)(hc:s.eP<4096):VS c (bump s e):=
 ⟨hv.tl,hv.cl,hv.t,hv.oK,hk,by have:=hv.cnt;constructor<;>(show _<=_;simp only[CP.bump];omega),hv.Bw,hv.mM,hv.lh⟩
theorem VS.gX(hv:VS c s){i:Int}{t:bM}(ht:TS c t):VS c (gX s i t):=by
 refine⟨by show(s.aH.set _ _).length=_;rw[Pp,hv.tl],hv.cl,λx hx=> ?_,hv.oK,hv.bS,hv.cnt,hv.Bw,hv.mM,hv.lh⟩;rcases Gs hx with h1|h1
 .exact hv.t x h1
 .rw[h1];exact ht
theorem VS.tV(hv:VS c s){i:Int}{t:gG}(ht:CS c t):VS c (tV s i t):=by
 refine⟨hv.tl,by show(s.aK.set _ _).length=_;rw[Pp,hv.cl],hv.t,λx hx=> ?_,hv.bS,hv.cnt,hv.Bw,hv.mM,hv.lh⟩;rcases Gs hx with h1|h1
 .exact hv.oK x h1
 .rw[h1];exact ht
theorem aIP(h:VC c)(hv:VS c s):ZA c s e=some (iB c s e):=by
 obtain⟨v1,v2⟩:=valid_eq (e:=e) h;have hcnt:=hv.cnt;have htl:=hv.tl;have hcl:=hv.cl;have ctl:=h.tl;have ccl:=h.cl;unfold ZA iB;(try simp only[gN,bG])
 simp only[v1,bE,wV,xg];rcases hb:Bb c e with _|_;rfl;obtain⟨hk,hkind⟩:=v2.1 hb;simp only[gI,aX];by_cases h4:4096<=s.eP
 .rw[eY h4];rfl
 .rw[fV h4];by_cases h5:e.aZ<s.aZ
  .rw[eY h5];rfl
  .rw[fV h5];simp only[aX];have hcp:Zn s=some s:=by
    unfold Zn;(try simp only[gN,bG])
    rw[eY (show(([]:List bM).length+s.aH.length)*88<=140737488355328 by simp;omega),eY (show(([]:List gG).length+s.aK.length)*32<=140737488355328 by simp;omega)];rfl
   rw[hcp];simp only[bE];rw[bI (x:=s.eP+1) ah ah];have hv':VS c (bump s e):=hv.bump hk ah;have hs:{s with aZ:=e.aZ,eP:=s.eP+1}=bump s e:=rfl;have hc:{c with aK:=c.aK,aH:=c.aH}=c:=rfl;rw[hs,hc];unfold Af;cases hkind with
   |place k t ce o w n=>simp only[k,ahH h hv' t ce ⟨o.1,o.2.1⟩];rfl
   |grant k t ce o ep w n=>simp only[k,aI9 h hv' t ce hk w];rfl
   |cut k t ce o ep w n=>simp only[k,aKP hv' t hk];rfl
   |jB k t ce o w n=>simp only[k,aHT h hv' t ce];rfl
   |ready k t ce o w n=>simp only[k,ready_eq hv' t ce];rfl
   |migrate k t ce o w n=>simp only[k,aHl h hv' t ce];rfl
   |abandon k t ce o w n=>simp only[k,aHa hv' t];rfl
   |shed k t ce o w n=>simp only[k,aKE h hv' t];rfl
   |mode k t ce o w n=>
    have h2:=sO hv ce;have hn:e.aJ.toNat<s.aK.length:=ah;have h3:∀a,idx (s.aK.set e.aJ.toNat a) e.aJ=some a:=λa=>(by rw[idx_eq (by rw[Pp];exact h2),pY hn]);rw[k];simp only[idx_eq h2,h3,aY,bE,pY hn,tu,pX];unfold FW;(try simp only[gN,bG])
    simp only[pX];rfl
   |want k t ce o w n=>simp only[k,aKM h hv' ce n];rfl
   |runs k t ce o w n=>simp only[k,aKy h hv' ce];rfl
   |prove k t ce o w n=>simp only[k,aJp h hv' n hk];rfl
   |mM k t ce o w n=>
    have ql:=h.reg;have hu:(0:Int)<=IntKind.u64.wrap e.dh:=(by rw[Lv ah ah];omega);unfold FW;(try simp only[gN,bG])
    rw[k,UO hv.mM.1,eY hu];simp only[bq,aY,bE,pX];rfl
   |expand k t ce o w n=>simp only[k,aIa h hv'];rfl
   |contract k t ce o w n=>
    unfold FW;(try simp only[gN,bG])
    rw[k];simp only[pX];rfl
   |note k t ce o w n=>
    unfold FW;(try simp only[gN,bG])
    rw[k];rfl
end
section
variable {a n:Int}
def Good(c:aM)(r:aN×Int):Prop:=r.2=0->VS c r.1
section
variable {c:aM} {s:aN} {e:aP}
theorem Good.bif{b:Bool}{x y:aN×Int}(hx:b=true->Good c x)(hy:b=false->Good c y):Good c (bif b then x else y):=by cases b with|true=>exact hx rfl|false=>exact hy rfl
theorem Good.no{k:Int}(h:k≠0):Good c (iZ k):=λq=>absurd q h
theorem Good.ok(h:VS c s):Good c (s,0):=λ_=>h
theorem Good.fit(h:VS c s):Good c (nP c s):=Good.bif (λ_=>Good.no ak) (λ_=>Good.ok h)
theorem anB(h0:0<=a:=by omega)(h1:a<18446744073709551616:=by omega):(BitVec.ofInt 64 a).toNat=a.toNat:=by rw[ajm];have:a%((2:Nat)^64:Nat)=a:=Int.emod_eq_of_lt h0 (aD h1);rw[this]
theorem aKF(h:0<=n/\n<62):iL .i64 1 (IntKind.u64.wrap n)=2^n.toNat:=by
 rw[Lv h.1 ah];unfold iL;rw[show min n.toNat IntKind.i64.bits=n.toNat from Cm (by show _<=64;omega),Int.one_mul];have hp:(0:Int)<2^n.toNat:=abO ak;have hlt:(2:Int)^n.toNat<9223372036854775808:=by
  have hh:(2:Nat)^n.toNat<=2^62:=aiT ak ah;have e1:((2:Int)^n.toNat)=((2^n.toNat:Nat):Int):=aj
  rw[e1];have:(2:Nat)^62=4611686018427387904:=rfl;omega
 exact bI ah hlt
theorem aJk(ha:0<=a/\a<1073741824)(hn:0<=n/\n<30):0<=ug .i64 a (iL .i64 1 (IntKind.u64.wrap n))/\ug .i64 a (iL .i64 1 (IntKind.u64.wrap n))<1073741824:=by
 rw[aKF ⟨hn.1,ah⟩];have hpn:(2:Nat)^n.toNat<2^30:=aru ak ah;obtain⟨q,hq⟩:∃q:Nat,q=2^n.toNat:=⟨_,rfl⟩;rw[<-hq]at hpn;have e1:((2:Int)^n.toNat)=(q:Int):=by rw[hq];simp
 have h30:(2:Nat)^30=1073741824:=rfl;rw[e1];unfold ug;have e2:(BitVec.ofInt IntKind.i64.bits a|||BitVec.ofInt IntKind.i64.bits (q:Int)).toNat=a.toNat|||q:=by show(BitVec.ofInt 64 a|||BitVec.ofInt 64 (q:Int)).toNat=_;rw[BitVec.toNat_or,anB ha.1,anB,gL]
 rw[e2];have hlt:a.toNat|||q<2^30:=aiS ah hpn;generalize a.toNat|||q=z at hlt⊢;have hw:IntKind.i64.wrap (z:Int)=(z:Int):=bIZ;rw[hw];omega
theorem aIN(ha:0<=a/\a<8)(hn:0<=n/\n<3):0<=wm .i64 a (iL .i64 1 (IntKind.u64.wrap n))/\wm .i64 a (iL .i64 1 (IntKind.u64.wrap n))<8:=by
 have h1:a=0\/a=1\/a=2\/a=3\/a=4\/a=5\/a=6\/a=7:=ah
 have h2:n=0\/n=1\/n=2:=ah
 rcases h1 with rfl|rfl|rfl|rfl|rfl|rfl|rfl|rfl<;>rcases h2 with rfl|rfl|rfl<;>decide
theorem aLT{w:iC}{bS:Int}(h:0<=w.From/\w.From<=w.bY/\w.bY<=1073741824)(ht:0<=bS):0<=(Ah w bS).From/\(Ah w bS).From<=(Ah w bS).bY/\(Ah w bS).bY<=1073741824:=by
 unfold Ah ji;simp only
 (repeat' split)<;>omega
theorem aIg(h:VC c)(hv:VS c s)(hk:0<=e.aZ/\e.aZ<=1073741824)(hkind:qy c e):Good c (Af c s e):=by unfold Af;have hcl:=hv.cl;have hvl:=h.vl;cases hkind with
 |place k t ce o w n=>rw[k];show Good c (Eh c s e);unfold Eh;have hT:=wW hv (nQ hv t);unfold fI at ce;refine Good.bif (λ_=>Good.no ak) (λ_=>Good.bif (λ_=>Good.no ak) (λ_=>Good.bif (λ_=>Good.no ak) (λ_=>Good.bif (λ_=>Good.no ak) (λ_=>Good.fit (hv.gX ?_)))));exact⟨⟨by show _<=e.aJ;omega,ce.2⟩,⟨o.1,o.2.1⟩,hT.nx,hT.tg,hT.wc,λ_=>ce.1,λ_=>rfl,hT.ep,hT.we,hT.wv,hT.wf⟩
 | grant k t ce o ep w n=>
  rw[k];show Good c (AZ c s e);unfold AZ;have hT:=wW hv (nQ hv t);unfold fI at ce;unfold iq at n;refine Good.bif (λ_=>Good.no ak) (λhpl=>Good.bif (λ_=>Good.no ak) (λ_=>Good.bif (λhg=>Good.no (aD hg)) (λhg=>Good.fit (hv.gX ?_))));have hg0:AR c s e=0:=aD hg
  have hwin:e.From<e.bY:=by unfold AR at hg0;simp only at hg0;revert hg0;cases ((dw s e.aJ).ig==3||(dw s e.aJ).ig==2&& !(e.aJ==(aO s e.aI).bL))with
   |true=>intro q;cases q
   |false=>cases (((e.aJ==(aO s e.aI).bL)&&(e.bP !=(aO s e.aI).bP))&&(e.bP !=(aO s e.aI).bP+1))||((!(e.aJ==(aO s e.aI).bL))&&(e.bP !=(aO s e.aI).bP+1))with
    |true=>intro q;cases q
    |false=>cases ((e.N !=(dw s e.aJ).fZ)||((dw s e.aJ).fZ !=(dw s e.aJ).iY))with
     |true=>intro q;cases q
     |false=>
      simp only[aX];by_cases hu:e.bY<=e.From
      .rw[eY hu];simp
      .intro _;omega
  have hpl':(aO s e.aI).dZ=true:=by cases hp:(aO s e.aI).dZ with|true=>rfl|false=>rw[hp]at hpl;cases hpl
  unfold wH;simp only;have hW:0<=e.From/\e.From<=e.bY/\e.bY<=1073741824:=ah
  cases (e.aJ==(aO s e.aI).bL)with
  |true=>exact⟨hT.lU,hT.sb,hT.nx,hT.tg,⟨by show _<=e.aJ;omega,ce.2⟩,hT.pl,hT.sh,⟨by show 0<=e.bP;omega,ep.2⟩,⟨by show 0<=e.bP;omega,ep.2⟩,n,hW⟩
  |false=>cases (e.aJ==(aO s e.aI).bB)with
   |true=>exact⟨⟨by show _<=e.aJ;omega,ce.2⟩,⟨by show(-1:Int)≤-1;decide,by show(-1:Int)<_;omega⟩,⟨by show(-1:Int)≤-1;decide,by show(-1:Int)<_;omega⟩,⟨by show(-1:Int)≤-1;decide,by show(-1:Int)<_;omega⟩,⟨by show _<=e.aJ;omega,ce.2⟩,λ_=>ce.1,(λq=>by cases q),⟨by show 0<=e.bP;omega,ep.2⟩,⟨by show 0<=e.bP;omega,ep.2⟩,n,hW⟩
   |false=>exact⟨⟨by show _<=e.aJ;omega,ce.2⟩,hT.sb,hT.nx,⟨by show(-1:Int)≤-1;decide,by show(-1:Int)<_;omega⟩,⟨by show _<=e.aJ;omega,ce.2⟩,λ_=>ce.1,hT.sh,⟨by show 0<=e.bP;omega,ep.2⟩,⟨by show 0<=e.bP;omega,ep.2⟩,n,hW⟩
 |cut k t ce o ep w n=>rw[k];show Good c (ED s e);unfold ED;have hT:=wW hv (nQ hv t);refine Good.bif (λ_=>Good.no ak) (λ_=>Good.bif (λ_=>Good.no ak) (λ_=>Good.ok (hv.gX ?_)));exact⟨hT.lU,hT.sb,hT.nx,hT.tg,hT.wc,hT.pl,hT.sh,hT.ep,hT.we,hT.wv,aLT hT.wf hk.1⟩
 |jB k t ce o w n=>rw[k];show Good c (DZ c s e);unfold DZ;have hT:=wW hv (nQ hv t);have hok:Good c (nP c (CP.gX s e.aI {aO s e.aI with Next:=e.aJ})):=Good.fit (hv.gX ⟨hT.lU,hT.sb,ce,hT.tg,hT.wc,hT.pl,hT.sh,hT.ep,hT.we,hT.wv,hT.wf⟩);exact Good.bif (λ_=>Good.no ak) (λ_=>Good.bif (λ_=>hok) (λ_=>Good.bif (λ_=>Good.no ak) (λ_=>Good.bif (λ_=>Good.no ak) (λ_=>Good.bif (λ_=>Good.no ak) (λ_=>Good.bif (λ_=>Good.no ak) (λ_=>hok))))))
 |ready k t ce o w n=>rw[k];show Good c (Ej s e);unfold Ej;have hT:=wW hv (nQ hv t);unfold fI at ce;refine Good.bif (λ_=>Good.no ak) (λ_=>Good.bif (λ_=>Good.no ak) (λ_=>Good.bif (λ_=>Good.no ak) (λ_=>Good.ok (hv.gX ?_))));exact⟨hT.lU,⟨by show _<=e.aJ;omega,ce.2⟩,⟨by show(-1:Int)≤-1;decide,by show(-1:Int)<_;omega⟩,hT.tg,hT.wc,hT.pl,hT.sh,hT.ep,hT.we,hT.wv,hT.wf⟩
 |migrate k t ce o w n=>rw[k];show Good c (DY c s e);unfold DY;have hT:=wW hv (nQ hv t);unfold fI at ce;refine Good.bif (λ_=>Good.no ak) (λ_=>Good.bif (λ_=>Good.no ak) (λ_=>Good.bif (λ_=>Good.no ak) (λ_=>Good.bif (λ_=>Good.no ak) (λ_=>Good.bif (λ_=>Good.no ak) (λ_=>Good.fit (hv.gX ?_))))));exact⟨hT.lU,hT.sb,hT.nx,⟨by show _<=e.aJ;omega,ce.2⟩,hT.wc,hT.pl,hT.sh,hT.ep,hT.we,hT.wv,hT.wf⟩
 |abandon k t ce o w n=>rw[k];show Good c (DW s e);unfold DW;have hT:=wW hv (nQ hv t);have:=h.cl;refine Good.bif (λ_=>Good.no ak) (λ_=>Good.ok (hv.gX ?_));exact⟨hT.lU,hT.sb,hT.nx,⟨by show(-1:Int)≤-1;decide,by show(-1:Int)<_;omega⟩,hT.wc,hT.pl,hT.sh,hT.ep,hT.we,hT.wv,hT.wf⟩
 |shed k t ce o w n=>
  rw[k];show Good c (Bo c s e);unfold Bo;have hT:=wW hv (nQ hv t);have:=h.cl;refine Good.bif (λ_=>Good.bif (λ_=>Good.no ak) (λhp=>Good.bif (λ_=>Good.no ak) (λ_=>Good.ok (hv.gX ?_)))) (λ_=>Good.bif (λ_=>Good.no ak) (λ_=>Good.bif (λ_=>Good.no ak) (λ_=>Good.fit (hv.gX ?_))))
  .have hpl:(aO s e.aI).dZ=true:=(by cases hq:(aO s e.aI).dZ with|true=>rfl|false=>rw[hq]at hp;cases hp);exact⟨hT.lU,hT.sb,hT.nx,⟨by show(-1:Int)≤-1;decide,by show(-1:Int)<_;omega⟩,hT.wc,hT.pl,λ_=>hpl,hT.ep,hT.we,hT.wv,hT.wf⟩
  .exact⟨hT.lU,hT.sb,hT.nx,hT.tg,hT.wc,hT.pl,λq=>(by cases q),hT.ep,hT.we,hT.wv,hT.wf⟩
 |mode k t ce o w n=>rw[k];show Good c (Ey s e);unfold Ey;have hC:=VX hv (sO hv ce);exact Good.bif (λ_=>Good.no ak) (λ_=>Good.ok (hv.tV ⟨n,hC.run,hC.wan,hk⟩))
 |want k t ce o w n=>rw[k];show Good c (CF c s e);unfold CF;have hC:=VX hv (sO hv ce);exact Good.bif (λ_=>Good.no ak) (λ_=>Good.bif (λ_=>Good.no ak) (λ_=>Good.bif (λ_=>Good.no ak) (λ_=>Good.bif (λ_=>Good.no ak) (λ_=>Good.ok (hv.tV ⟨hC.mode,hC.run,n,hC.sin⟩)))))
 |runs k t ce o w n=>rw[k];show Good c (EB s e);unfold EB;have hC:=VX hv (sO hv ce);exact Good.bif (λ_=>Good.no ak) (λ_=>Good.bif (λ_=>Good.no ak) (λ_=>Good.bif (λ_=>Good.no ak) (λ_=>Good.ok (hv.tV ⟨hC.mode,n,hC.wan,hk⟩))))
 |prove k t ce o w n=>rw[k];show Good c (Ei c s e);unfold Ei;unfold iq at n;have hb:=aJk hv.Bw ⟨n.1,ah⟩;exact Good.bif (λ_=>Good.no ak) (λ_=>Good.bif (λ_=>Good.ok ⟨hv.tl,hv.cl,hv.t,hv.oK,hv.bS,hv.cnt,hb,hv.mM,hv.lh⟩) (λ_=>Good.no ak))
 |mM k t ce o w n=>rw[k];show Good c (Eu s e);unfold Eu;have ql:=h.reg;have hb:=aIN hv.mM ⟨o.1,ah⟩;exact Good.bif (λ_=>Good.no ak) (λ_=>Good.ok ⟨hv.tl,hv.cl,hv.t,hv.oK,hv.bS,hv.cnt,hv.Bw,hb,hv.lh⟩)
 |expand k t ce o w n=>rw[k];show Good c (D7 c s);unfold D7;have hlh:=hv.lh;refine Good.bif (λ_=>Good.no ak) (λh1=>Good.bif (λ_=>Good.no ak) (λh2=>Good.bif (λ_=>Good.no ak) (λ_=>Good.ok ⟨hv.tl,hv.cl,hv.t,hv.oK,hv.bS,hv.cnt,hv.Bw,hv.mM,?_⟩)));have h2:=wO h2;exact⟨hlh.1,by show s.gP<=s.dP+1;omega,by show s.dP+1<=30;omega⟩
 |contract k t ce o w n=>rw[k];show Good c (I5 s);unfold I5;have hlh:=hv.lh;exact Good.bif (λ_=>Good.no ak) (λ_=>Good.ok ⟨hv.tl,hv.cl,hv.t,hv.oK,hv.bS,hv.cnt,hv.Bw,hv.mM,by show 0<=s.dP;omega,jh _,hlh.2.2⟩)
 |note k t ce o w n=>rw[k];exact Good.ok hv
theorem aod(h:VC c)(hv:VS c s):Good c (iB c s e):=by unfold iB;refine Good.bif (λ_=>Good.no ak) (λhb=>Good.bif (λ_=>Good.no ak) (λh4=>Good.bif (λ_=>Good.no ak) (λ_=> ?_)));have hV:=((valid_eq (e:=e) h).2).1 (aD hb);have h4:=wO h4;exact aIg h (hv.bump hV.1 ah) hV.1 hV.2
end
end
structure TR(t0:eU)(t:eU)(b:Int):Prop where
 tb:TB t b
 l:t.L=t0.L
 at_:t0.At<=t.At
theorem TR.eta{t0 t:eU}{b:Int}(h:TR t0 t b):TR t0 {L:=t.L,At:=t.At} b:=h
theorem TR.up{t0 t:eU}{b b':Int}(h:TR t0 t b)(hb:b<=b'):TR t0 t b':=⟨h.tb.up hb,h.l,h.at_⟩
theorem apd{t:eU}{b n:Int}(h:TB t b)(h1:1<=n)(h2:n<=4611686018427387904)(hb:b<=1000000000){r:Int×eU}(hr:lX t n=some r):
  r.2.L=t.L/\t.At<=r.2.At/\(t.L.length≠0->t.At+1<=r.2.At):=by
 have hlo:=h.lo;have hhi:=h.hi;unfold lX at hr;simp only[gN,bG]at hr;by_cases h0:(t.L.length:Int)=0
 .have:(((t.L.length:Int))==0)=true:=aD h0
  rw[this]at hr;cases hr;exact⟨rfl,jh _,λq=>absurd ah q⟩
 .have e:(((t.L.length:Int))==0)=false:=aD h0
  rw[e]at hr;simp only[aX]at hr;obtain⟨_,hr⟩:=LV hr;obtain⟨x,_,hr⟩:=DT hr;obtain⟨_,hr⟩:=LV hr;obtain⟨y,_,hr⟩:=DT hr;obtain⟨z,_,hr⟩:=DT hr;have hr:=rM hr;subst hr;rw[bI (x:=t.At+1) ah ah];exact⟨rfl,by show t.At<=t.At+1;omega,λ_=>jh _⟩
section
variable {t0 t:eU} {b:Int}
theorem yO{n:Int}(h:TR t0 t b)(h1:1<=n:=by omega)(h2:n<=4611686018427387904:=by omega)(hb:b<=1000000000:=by omega):
  Ok (lX t n) (λr=>0<=r.1/\r.1<n/\TR t0 r.2 (b+1)):=by
 obtain⟨r,hr,q1,q2,q3⟩:=wL h.tb h1 h2 hb;obtain⟨s1,s2,_⟩:=apd h.tb h1 h2 hb hr;exact⟨r,hr,q1,q2,q3,by rw[s1,h.l],wR h.at_ s2⟩
theorem ap0{lo hi:Int}(h:TR t0 t b)(h1:lo<=hi:=by omega)(h2: -1000000000<=lo:=by omega)(h3:hi<=1000000000:=by omega)(hb:b<=1000000000:=by omega):
  Ok (zm t lo hi) (λr=>lo<=r.1/\r.1<=hi/\TR t0 r.2 (b+1)):=by
 unfold zm;(try simp only[gN,bG])
 rw[bI (x:=hi-lo) ah ah,bI (x:=hi-lo+1) ah ah];refine Ok.bind (yO h ah ah hb) (λr hr=>Ok.some ?_);rw[bIZ];exact⟨by show lo<=lo+r.1;omega,by show lo+r.1<=hi;omega,hr.2.2⟩
theorem Lx{n:Int}(h:TR t0 t b)(h1:1<=n:=by omega)(h2:n<=4611686018427387904:=by omega)(hb:b<=1000000000:=by omega):
  Ok (qH t n) (λr=>TR t0 r.2 (b+1)):=by
 unfold qH;(try simp only[gN,bG])
 exact Ok.bind (yO h h1 h2 hb) (λr hr=>Ok.some hr.2.2)
theorem aaW{l:List Int}(h:TR t0 t b)(hl:l.length<=1000:=by omega)(hb:b<=1000000000:=by omega):Ok (K7 t l) (λr=>TR t0 r.2 (b+1)):=by
 unfold K7;(try simp only[gN,bG])
 refine Ok.cond (λ_=>Ok.some (h.up ah)) (λh0=> ?_);have:(l.length:Int)≠0:=aD h0
 exact Ok.bind (yO h ah ah hb) (λr hr=>Ok.idx ⟨hr.1,hr.2.1⟩ (λx _ _=>Ok.some hr.2.2))
end
section
variable {c:aM} {s:aN}
theorem aia(h:VC c)(t:Int):∀(m k:Nat) (l:List Int),c.aK.length-k<m->k<=c.aK.length->l.length<=k->Ok (Ob c t m l (k:Int)) (λr=>r.length<=c.aK.length)
 |0,_,_,hm,_,_=>absurd hm (kJ _)
 |m+1,k,l,hm,hk,hl=>by
  have hcl:=h.cl;rw[Ob];(try simp only[gN,bG])
  refine Ok.cond (λhlt=> ?_) (λ_=>Ok.some ah);have hlt:=iX hlt;refine Ok.zy (UQ h t k) ?_;unfold YR;(try simp only[gN,bG])
  rw[bI (x:=(k:Int)+1) ah ah];have ec:(k:Int)+1=((k+1:Nat):Int):=ah
  rw[ec];exact Ok.cond (λ_=>Ok.bq (dT (by show _<=140737488355328;simp;omega)) (aia h t m (k+1) _ ah ah ay)) (λ_=>aia h t m (k+1) _ ah ah ah)
theorem apP(h:VC c)(t:Int):Ok (Ut c t) (λr=>r.length<=16):=by
 have hcl:=h.cl;unfold Ut;(try simp only[gN,bG])
 exact(aia h t fuel 0 [] aB ah aj).mono (λr hr=>ah)
theorem agW(h:VC c)(t hm0:Int):∀(m k:Nat) (l:List Int),c.aK.length-k<m->k<=c.aK.length->l.length<=k->Ok (NK c t hm0 m l (k:Int)) (λr=>r.length<=c.aK.length)
 |0,_,_,hm,_,_=>absurd hm (kJ _)
 |m+1,k,l,hm,hk,hl=>by
  have hcl:=h.cl;rw[NK];(try simp only[gN,bG])
  refine Ok.cond (λhlt=> ?_) (λ_=>Ok.some ah);have hlt:=iX hlt;refine Ok.zy (UQ h t k) ?_;simp only[anX h,pX,bE];unfold Yu;(try simp only[gN,bG])
  rw[bI (x:=(k:Int)+1) ah ah];have ec:(k:Int)+1=((k+1:Nat):Int):=ah
  rw[ec];exact Ok.cond (λ_=>Ok.bq (dT (by show _<=140737488355328;simp;omega)) (agW h t hm0 m (k+1) _ ah ah ay)) (λ_=>agW h t hm0 m (k+1) _ ah ah ah)
theorem an6(h:VC c)(t hm0:Int):Ok (Tx c t hm0) (λr=>r.length<=16):=by
 have hcl:=h.cl;unfold Tx;(try simp only[gN,bG])
 exact(agW h t hm0 fuel 0 [] aB ah aj).mono (λr hr=>ah)
abbrev ER(t0:eU)(B b:Int)(r:aP×eU):Prop:=TR t0 r.2 b/\r.1.aZ<=B
theorem aGC(h:VC c)(hv:VS c s){t0 t:eU}{b:Int}(hT:TR t0 t b)(hb:b<=1000000)(bS:Int)(htk:0<=bS/\bS<=1100000000):Ok (Y4 t c s bS) (ER t0 (bS+10001) (b+3)):=by
 have hcl:=h.cl;have hvl:=h.vl;have hle:=h.yt;have hba:=h.bake;have ql:=h.reg;have hl:=hv.cl;unfold Y4 K6;(try simp only[gN,bG])
 refine Ok.zy rfl (Ok.bind (yO hT) (λr6 q6=>Ok.idx ⟨q6.1,ah⟩ (λx7 _ _=>Ok.bind (yO q6.2.2) (λr8 q8=> ?_))));have k3:∀(x5:aP) (t':eU) (b':Int),TR t0 t' b'->b'<=b+3->x5.aZ<=bS+10001->Ok (Aw t' x5) (ER t0 (bS+10001) (b+3)):=λx5 t' b' ht hb' hx=>Ok.some ⟨ht.up hb',hx⟩;have Hw:=q8.2.2;have k1:∀(x5:aP) (g:Bool),x5.aZ<=bS+10001->Ok (NQ c s bS x5 x7 r8.2 r6.1 r8.1 g) (ER t0 (bS+10001) (b+3)):=by
  intro x5 g hx;unfold NQ;(try simp only[gN,bG])
  refine Ok.cond (λ_=>Ok.bind (yO Hw) (λr q=>k3 _ _ _ q.2.2 ah (by show aQ (bS+r.1)<=_;rw[bIZ];omega))) (λ_=> ?_);refine Ok.cond (λ_=> ?_) (λ_=> ?_)
  .rw[bI (x:=c.o7+1) ah ah];exact Ok.bind (yO Hw) (λr q=>k3 _ _ _ q.2.2 ah (by show aQ (bS+r.1)<=_;rw[bIZ];omega))
  .refine Ok.cond (λ_=> ?_) (λ_=> ?_)
   .refine Ok.bind (yO Hw) (λr q=>Ok.zy (UO hv.mM.1) ?_);exact Ok.cond (λ_=>k3 _ _ _ q.2.2 ah hx) (λ_=>k3 _ _ _ q.2.2 ah hx)
   .refine Ok.cond (λ_=> ?_) (λ_=> ?_)
    .exact Ok.cond (λ_=>k3 _ _ _ Hw ah hx) (λ_=>k3 _ _ _ Hw ah hx)
    .exact Ok.bind (yO Hw) (λr q=>k3 _ _ _ q.2.2 ah hx)
 have k2:∀(x5:aP) (g:Bool),x5.aZ<=bS+10001->Ok (NR c s bS x5 x7 r8.2 r6.1 r8.1 g) (ER t0 (bS+10001) (b+3)):=by
  intro x5 g hx;unfold NR;(try simp only[gN,bG])
  refine Ok.cond (λ_=>Ok.bind (yO Hw) (λr q=>k3 _ _ _ q.2.2 ah hx)) (λ_=> ?_);exact Ok.cond (λ_=>k1 _ _ hx) (λ_=>Ok.cond (λ_=>k1 _ _ hx) (λ_=>k1 _ _ hx))
 refine Ok.cond (λ_=>Ok.bind (ap0 Hw) (λr q=>k3 _ _ _ q.2.2 ah (by show bS<=_;omega))) (λ_=> ?_);refine Ok.cond (λ_=>k3 _ _ _ Hw ah (by show bS<=_;omega)) (λ_=> ?_);exact Ok.cond (λ_=>k2 _ _ (by show bS<=_;omega)) (λ_=>Ok.cond (λ_=>k2 _ _ (by show bS<=_;omega)) (λ_=>k2 _ _ (by show bS<=_;omega)))
theorem aJa(h:VC c)(hv:VS c s){t0 t:eU}{b:Int}(hT:TR t0 t b)(hb:b<=1000000){e:aP}(ht:d9 c e)(hp:(aO s e.aI).dZ=true){B:Int}(hB1:e.aZ<=B)(hB2:(aO s e.aI).dV.bY<=B):Ok (ZV t c s e) (ER t0 B (b+9)):=by
 have hle:=h.yt;have hl:=hv.cl;have h1:=nQ hv ht;have QV:=wW hv h1;unfold ZV;(try simp only[gN,bG])
 refine Ok.zy (idx_eq h1) ?_;show Ok (Option.bind (bif(decide (0<=(aO s e.aI).dN))then qH t 2 else some (aG,t)) _) _;have k1:∀(p4:aP) (t':eU) (b':Int),TR t0 t' b'->b'<=b+9->p4.aZ<=B->Ok (Y3 t' p4) (ER t0 B (b+9)):=λ_ t' b' ht hb' hx=>Ok.some ⟨ht.up hb',hx⟩;have k2:∀(p4:aP) (t':eU) (b':Int),0<=p4.aJ->p4.aJ<(s.aK.length:Int)->TR t0 t' b'->b'<=b+6->p4.aZ<=B->Ok (TQ c s t' p4) (ER t0 B (b+9)):=by
  intro p4 t' b' g1 g2 ht' hb' hx;unfold TQ;(try simp only[gN,bG])
  refine Ok.bind (ap0 ht') (λr q=>Ok.idx ⟨g1,g2⟩ (λx _ _=>Ok.bind (Lx q.2.2) (λr2 q2=> ?_)));exact Ok.cond (λ_=>Ok.bind (yO q2) (λr3 q3=>k1 _ _ _ q3.2.2 ah hx)) (λ_=>k1 _ _ _ q2 ah hx)
 have k3:∀(p4:aP) (x5:bM) (t':eU) (b':Int),0<=p4.aJ->p4.aJ<(s.aK.length:Int)->TR t0 t' b'->b'<=b+4->p4.aZ<=B->Ok (TT c s x5 t' p4) (ER t0 B (b+9)):=by
  intro p4 x5 t' b' g1 g2 ht' hb' hx;unfold TT;(try simp only[gN,bG])
  refine Ok.bind (Lx ht') (λr q=> ?_);exact Ok.cond (λ_=>Ok.bind (yO q) (λr3 q3=>k2 _ _ _ g1 g2 q3.2.2 ah hx)) (λ_=>k2 _ _ _ g1 g2 q ah hx)
 have k4:∀(p4:aP) (x5:bM) (t':eU) (b':Int),0<=p4.aJ->p4.aJ<(s.aK.length:Int)->TR t0 t' b'->b'<=b+3->p4.aZ<=B->x5.dV.bY<=B->Ok (TU c s x5 t' p4) (ER t0 B (b+9)):=by
  intro p4 x5 t' b' g1 g2 ht' hb' hx hu;unfold TU;(try simp only[gN,bG])
  have step:Ok (bif(p4.aJ !=x5.bL)then lX t' 4 else some (aG,t')) (λr=>TR t0 r.2 (b'+1)):=
   Ok.cond (λ_=>(yO ht').mono (λr q=>q.2.2)) (λ_=>Ok.some (ht'.up ah))
  refine Ok.bind step (λr q=> ?_);exact Ok.cond (λ_=>k3 _ _ _ _ g1 g2 q ah (by show jD _ _<=B;unfold jD;split<;>omega)) (λ_=>k3 _ _ _ _ g1 g2 q ah hx)
 have k5:∀(p4:aP) (x5:bM) (t':eU) (b':Int),0<=p4.aJ->p4.aJ<(s.aK.length:Int)->TR t0 t' b'->b'<=b+2->p4.aZ<=B->x5.dV.bY<=B->Ok (Ol c s x5 t' p4) (ER t0 B (b+9)):=by
  intro p4 x5 t' b' g1 g2 ht' hb' hx hu;unfold Ol;(try simp only[gN,bG])
  have step:Ok (bif(!((p4.aJ !=x5.bL)||(x5.bP==0)))then qH t' 4 else some (aG,t')) (λr=>TR t0 r.2 (b'+1)):=
   Ok.cond (λ_=>Lx ht') (λ_=>Ok.some (ht'.up ah))
  refine Ok.bind step (λr q=> ?_);exact Ok.cond (λ_=>k4 _ _ _ _ g1 g2 q ah hx hu) (λ_=>k4 _ _ _ _ g1 g2 q ah hx hu)
 have htg:=QV.tg;have hsb:=QV.sb;have hho:=QV.lU;have hpl:=QV.pl hp;have step1:Ok (bif(decide (0<=(aO s e.aI).dN))then qH t 2 else some (aG,t)) (λr=>TR t0 r.2 (b+1)):=
  Ok.cond (λ_=>Lx hT) (λ_=>Ok.some (hT.up ah))
 refine Ok.bind step1 (λr6 q6=> ?_);refine Ok.cond (λhc=> ?_) (λ_=> ?_)
 .simp only[dQ]at hc;have:=iX hc.1;exact k5 _ _ _ _ this (by show(aO s e.aI).dN<_;omega) q6 ah hB1 hB2
 .have step2:Ok (bif(decide (0<=(aO s e.aI).bB))then qH r6.2 5 else some (aG,r6.2)) (λr=>TR t0 r.2 (b+1+1)):=
   Ok.cond (λ_=>Lx q6) (λ_=>Ok.some (q6.up ah))
  refine Ok.bind step2 (λr7 q7=> ?_);refine Ok.cond (λhc=> ?_) (λ_=> ?_)
  .simp only[dQ]at hc;have:=iX hc.1;exact k5 _ _ _ _ this (by show(aO s e.aI).bB<_;omega) q7 ah hB1 hB2
  .exact k5 _ _ _ _ hpl (by show(aO s e.aI).bL<_;omega) q7 ah hB1 hB2
theorem anP(h:VC c)(hv:VS c s){t0 t:eU}{b:Int}(hT:TR t0 t b)(hb:b<=100000)(bS:Int)(htk:0<=bS/\bS<=1100000000){B:Int}(hB:bS+10001<=B)(hU:∀x∈s.aH,x.dV.bY<=B):Ok (TP c s t bS) (ER t0 B (b+12)):=by
 have htl:=hv.tl;have ctl:=h.tl;unfold TP;(try simp only[gN,bG])
 have step:Ok (bif(!((c.aH.length:Int)==0))then qH t 4 else some (aG,t)) (λr=>TR t0 r.2 (b+1)):=
  Ok.cond (λ_=>Lx hT.eta) (λ_=>Ok.some (hT.up ah))
 refine Ok.bind step (λr9 q9=> ?_);refine Ok.cond (λ_=> ?_) (λhn=> ?_)
 .exact Ok.bind (aGC h hv q9 ah bS htk) (λr q=>Ok.some ⟨q.1.up ah,by have:=q.2;show r.1.aZ<=B;omega⟩)
 .have hne:(c.aH.length:Int)≠0:=by simp only[nW]at hn;simpa using hn.1
  refine Ok.bind (yO q9) (λQ5 q11=> ?_);have i1:0<=Q5.1/\Q5.1<(s.aH.length:Int):=ah
  refine Ok.zy (idx_eq i1) ?_;show Ok (bif(!(aO s Q5.1).dZ)then _ else _) _;refine Ok.cond (λ_=> ?_) (λhp=> ?_)
  .unfold K6;(try simp only[gN,bG])
   refine Ok.zy rfl (Ok.bind (apP h _) (λdD q14=>Ok.bind (aaW q11.2.2) (λfu q15=>Ok.bind (an6 h _ _) (λgZ q16=>Ok.bind (aaW q15) (λiE q17=>Ok.some ⟨q17.up ah,by show bS<=B;omega⟩)))))
  .have hp:(aO s Q5.1).dZ=true:=(aD hp);unfold K6;(try simp only[gN,bG])
   refine Ok.zy rfl (Ok.bind (yO q11.2.2) (λr19 q19=> ?_));have JE:=q19.2.2;have k1:∀(x18:aP) (t':eU) (b':Int),TR t0 t' b'->b'<=b+12->x18.aZ<=B->Ok (F3 t' x18) (ER t0 B (b+12)):=λ_ t' b' ht hb' hx=>Ok.some ⟨ht.up hb',hx⟩;refine Ok.cond (λ_=>k1 _ _ _ JE ah (by show bS<=B;omega)) (λ_=> ?_);refine Ok.cond (λ_=>Ok.bind (an6 h _ _) (λx20 q20=>Ok.bind (aaW JE) (λx21 q21=>k1 _ _ _ q21 ah (by show bS<=B;omega)))) (λ_=> ?_);refine Ok.cond (λ_=>k1 _ _ _ JE ah (by show bS<=B;omega)) (λ_=> ?_);refine Ok.cond (λ_=>Ok.bind (apP h _) (λx20 q20=>Ok.bind (aaW JE) (λx21 q21=>k1 _ _ _ q21 ah (by show bS<=B;omega)))) (λ_=> ?_);refine Ok.cond (λ_=>k1 _ _ _ JE ah (by show bS<=B;omega)) (λ_=> ?_);refine Ok.cond (λ_=>Ok.cond (λ_=>k1 _ _ _ JE ah (by show bS<=B;omega)) (λ_=>k1 _ _ _ JE ah (by show bS<=B;omega))) (λ_=> ?_);exact Ok.bind (aJa h hv JE ah (show d9 c _ from⟨i1.1,by show Q5.1<_;omega⟩) hp (B:=B) (by show bS<=B;omega) (hU _ (jw (by show Q5.1.toNat<_;omega)))) (λr q=>Ok.some ⟨q.1.up ah,q.2⟩)
theorem aI4(h:VC c)(hv:VS c s){t:eU}{b:Int}(hT:TB t b)(hb:b<=10000){B:Int}(hB:s.aZ+10004<=B)(hU:∀x∈s.aH,x.dV.bY<=B):Ok (ZU t c s) (λr=>TB r.2 (b+14)/\r.2.L=t.L/\(t.L.length≠0->t.At+1<=r.2.At)/\r.1.aZ<=B):=by
 have htk:=hv.bS;unfold ZU;(try simp only[gN,bG])
 obtain⟨r4,e4,q4⟩:=wL hT (n:=4) ah ah ah;obtain⟨s1,s2,s3⟩:=apd hT ah ah ah e4;have hR:TR r4.2 r4.2 (b+1):=⟨q4.2.2,rfl,jh _⟩;have fin:∀r:aP×eU,ER r4.2 B (b+1+1+12) r->TB r.2 (b+14)/\r.2.L=t.L/\(t.L.length≠0->t.At+1<=r.2.At)/\r.1.aZ<=B:=by rintro r ⟨hr,hrt⟩;refine⟨hr.tb.up ah,by rw[hr.l,s1],λhn=> ?_,hrt⟩;have:=s3 hn;have:=hr.at_;omega
 refine Ok.zy e4 (Ok.bind (Lx hR) (λr5 q5=> ?_));rw[bI (x:=s.aZ+r4.1) ah ah,bI (x:=s.aZ-1) ah ah];exact Ok.cond (λ_=>(anP h hv q5 ah _ (by unfold jD;split<;>omega) (B:=B) (by unfold jD;split<;>omega) hU).mono fin) (λ_=>(anP h hv q5 ah _ ah (B:=B) ah hU).mono fin)
end
def uU:bM:={dZ:=false,fC:=false,bL:=(-1),bB:=(-1),Next:=(-1),dN:=(-1),bP:=0,dV:={aJ:=(-1),bP:=0,sW:=0,From:=0,bY:=0:iC}}
def EZ:gG:={ig:=1,fZ:=0,iY:=0,qd:=0}
def newS(c:aM):aN:={aZ:=0,eP:=0,aH:=List.replicate c.aH.length uU,aK:=List.replicate c.aK.length EZ,jP:=1,eH:=0,gP:=0,dP:=0}
section
variable {c:aM} {s:aN}
theorem aMk(h:VC c):TS c uU:=by have hcl:=h.cl;have hvl:=h.vl;refine⟨?_,?_,?_,?_,?_,λq=>(by cases q),λq=>(by cases q),?_,?_,?_,?_⟩<;>simp only[uU]<;>omega
theorem aLL(h:VC c):CS c EZ:=by have hvl:=h.vl;refine⟨?_,?_,?_,?_⟩<;>simp only[EZ]<;>omega
theorem arY(h:VC c):VS c (newS c):=by
 refine⟨by simp[newS],by simp[newS],λx hx=> ?_,λx hx=> ?_,?_,?_,?_,?_,?_⟩
 .rw[Li hx];exact aMk h
 .rw[Li hx];exact aLL h
 all_goals (simp only[newS];omega)
theorem apm{α:Type}(n:Nat)(a:α):List.replicate n a++ [a]=List.replicate (n+1) a:=by rw[List.replicate_succ']
theorem arX(h:VC c)(ts:List bM):∀(m k:Nat),c.aK.length-k<m->k<=c.aK.length→
  Ue c m {aZ:=0,eP:=0,aH:=ts,aK:=List.replicate k EZ,jP:=1,eH:=0,gP:=0,dP:=0} (k:Int)=some {aZ:=0,eP:=0,aH:=ts,aK:=List.replicate c.aK.length EZ,jP:=1,eH:=0,gP:=0,dP:=0}
 |0,_,hm,_=>absurd hm (kJ _)
 |m+1,k,hm,hk=>by
  have hcl:=h.cl;rw[Ue];dsimp only;by_cases hlt:k<c.aK.length
  .rw[eY (show(k:Int)<(c.aK.length:Int)by omega),eY (show((List.replicate k EZ).length+ [{ig:=1,fZ:=0,iY:=0,qd:=0:gG}].length)*32<=140737488355328 by simp;omega),bI (x:=(k:Int)+1) ah ah];have:=arX h ts m (k+1) ah ah;rw[<-apm]at this;simpa[bq,EZ]using this
  .rw[fV (show¬(k:Int)<(c.aK.length:Int)by omega)];have:k=c.aK.length:=ah;subst this;rfl
theorem arW(h:VC c):∀(m k:Nat),c.aH.length-k<m->k<=c.aH.length->Uf c m {aZ:=0,eP:=0,aH:=List.replicate k uU,aK:=[],jP:=1,eH:=0,gP:=0,dP:=0} (k:Int)=some (newS c)
 |0,_,hm,_=>absurd hm (kJ _)
 |m+1,k,hm,hk=>by
  have hcl:=h.cl;have htl:=h.tl;rw[Uf];dsimp only;by_cases hlt:k<c.aH.length
  .rw[eY (show(k:Int)<(c.aH.length:Int)by omega),eY (show((List.replicate k uU).length+ [{dZ:=false,fC:=false,bL:= -1,bB:= -1,Next:= -1,dN:= -1,bP:=0,dV:={aJ:= -1,bP:=0,sW:=0,From:=0,bY:=0}:bM}].length)*88<=140737488355328 by simp;omega),bI (x:=(k:Int)+1) ah ah];have:=arW h m (k+1) ah ah;rw[<-apm]at this;simpa[bq,uU]using this
  .rw[fV (show¬(k:Int)<(c.aH.length:Int)by omega)];have:k=c.aH.length:=ah;subst this;have:=arX h (List.replicate c.aH.length uU) fuel 0 aB ah;simpa[newS]using this
theorem aLi(h:VC c):aai c=some (newS c):=by
 have htl:=h.tl;unfold aai;(try simp only[gN,bG])
 have:=arW h fuel 0 aB ah;simpa using this
def yD(c:aM):aN->List aP->aN
 |s,[]=>s
 |s,e::r=>yD c (iB c s e).1 r
def yJ(c:aM):aN->List aP->Prop
 |_,[]=>True
 |s,e::r=>(iB c s e).2=0/\yJ c (iB c s e).1 r
theorem aay(l:List aP)(e:aP):∀s,yD c s (l++ [e])=(iB c (yD c s l) e).1:=by induction l with|nil=>intro s;rfl|cons a l ih=>intro s;exact ih _
theorem aKj(l:List aP)(e:aP):∀s,yJ c s l->(iB c (yD c s l) e).2=0->yJ c s (l++ [e]):=by induction l with|nil=>intro s _ h;exact⟨h,trivial⟩|cons a l ih=>intro s h h2;exact⟨h.1,ih _ h.2 h2⟩
theorem aLt(h:VC c)(l:List aP):∀s,VS c s->yJ c s l->VS c (yD c s l):=by induction l with|nil=>intro s hv _;exact hv|cons a l ih=>intro s hv ho;exact ih _ (aod h hv ho.1) ho.2
end
def abF(t:bM)(e:aP):bM:={t with dZ:=true,bL:=e.aJ,bB:=e.dh}
inductive Step(c:aM)(s:aN)(e:aP):aN->Prop
 |place (k:e.aL=1) (t:d9 c e) (ce:fI c e) (o: -1<=e.dh/\e.dh<(c.aK.length:Int)/\e.dh≠e.aJ)
   (np:(aO s e.aI).dZ=false) (m1:(dw s e.aJ).ig=1) (m2:0<=e.dh->(dw s e.dh).ig=1)
   (f1:o9 c s e.aJ=false) (f2:0<=e.dh->o9 c s e.dh=false)
   (y1:oH c e.aI e.aJ=true) (y2:0<=e.dh->oH c e.aI e.dh=true/\j5 c e.aJ e.dh=false)
   (fit:pQ c (gX (bump s e) e.aI (abF (aO s e.aI) e))=[]):
   Step c s e (gX (bump s e) e.aI (abF (aO s e.aI) e))
 |grant (k:e.aL=2) (t:d9 c e) (ce:fI c e) (ep:1<=e.bP/\e.bP<=1048576) (w:0<=e.From/\e.From<=1073741824/\0<=e.bY/\e.bY<=1073741824) (n:iq c e)
   (pl:(aO s e.aI).dZ=true) (sh:(aO s e.aI).fC=true->e.aJ=(aO s e.aI).bB)
   (cl:e.aJ=(aO s e.aI).bL\/e.aJ=(aO s e.aI).bB\/e.aJ=(aO s e.aI).dN)
   (m1:(dw s e.aJ).ig≠3) (m2:(dw s e.aJ).ig=2->e.aJ=(aO s e.aI).bL)
   (eq:(e.aJ=(aO s e.aI).bL/\e.bP=(aO s e.aI).bP)\/e.bP=(aO s e.aI).bP+1)
   (v1:e.N=(dw s e.aJ).fZ) (v2:(dw s e.aJ).fZ=(dw s e.aJ).iY)
   (w1:e.aZ<=e.From) (w2:e.From<=e.aZ+c.iQ) (w3:e.From<e.bY) (w4:e.bY-e.From<=c.iQ) (w5:(aO s e.aI).dV.bY<=e.From)
   (w6:e.aJ≠(aO s e.aI).bL->(aO s e.aI).dV.bY<=e.aZ)
   (fit:pQ c (gX (bump s e) e.aI (wH (aO s e.aI) e))=[]):
   Step c s e (gX (bump s e) e.aI (wH (aO s e.aI) e))
 |cut (k:e.aL=3) (t:d9 c e) (pl:(aO s e.aI).dZ=true) (ep:e.bP=(aO s e.aI).bP) (ep1:1<=e.bP):
   Step c s e (gX (bump s e) e.aI {aO s e.aI with dV:=Ah (aO s e.aI).dV e.aZ})
 |aaD (k:e.aL=4) (t:d9 c e) (ce:e.aJ= -1) (pl:(aO s e.aI).dZ=true)
   (fit:pQ c (gX (bump s e) e.aI {aO s e.aI with Next:=e.aJ})=[]):
   Step c s e (gX (bump s e) e.aI {aO s e.aI with Next:=e.aJ})
 |jB (k:e.aL=4) (t:d9 c e) (ce:fI c e) (pl:(aO s e.aI).dZ=true)
   (n1:e.aJ≠(aO s e.aI).bL) (n2:e.aJ≠(aO s e.aI).bB) (n3:e.aJ≠(aO s e.aI).dN)
   (m1:(dw s e.aJ).ig=1) (f1:o9 c s e.aJ=false) (y1:oH c e.aI e.aJ=true)
   (t1:j5 c e.aJ (aO s e.aI).bL=false) (t2:j5 c e.aJ (aO s e.aI).dN=false)
   (fit:pQ c (gX (bump s e) e.aI {aO s e.aI with Next:=e.aJ})=[]):
   Step c s e (gX (bump s e) e.aI {aO s e.aI with Next:=e.aJ})
 |ready (k:e.aL=5) (t:d9 c e) (ce:fI c e) (pl:(aO s e.aI).dZ=true) (n1:e.aJ=(aO s e.aI).Next) (m1:(dw s e.aJ).ig≠3):
   Step c s e (gX (bump s e) e.aI {aO s e.aI with bB:=e.aJ,Next:= -1})
 |migrate (k:e.aL=6) (t:d9 c e) (ce:fI c e) (pl:(aO s e.aI).dZ=true) (sh:(aO s e.aI).fC=false) (tg:(aO s e.aI).dN<0)
   (n1:e.aJ≠(aO s e.aI).bL) (n2:e.aJ≠(aO s e.aI).bB) (n3:e.aJ≠(aO s e.aI).Next)
   (m1:(dw s e.aJ).ig=1) (f1:o9 c s e.aJ=false) (y1:oH c e.aI e.aJ=true)
   (t1:j5 c e.aJ (aO s e.aI).bB=false) (t2:j5 c e.aJ (aO s e.aI).Next=false)
   (fit:pQ c (gX (bump s e) e.aI {aO s e.aI with dN:=e.aJ})=[]):
   Step c s e (gX (bump s e) e.aI {aO s e.aI with dN:=e.aJ})
 |abandon (k:e.aL=7) (t:d9 c e) (pl:(aO s e.aI).dZ=true) (tg:0<=(aO s e.aI).dN):
   Step c s e (gX (bump s e) e.aI {aO s e.aI with dN:= -1})
 |shed (k:e.aL=8) (t:d9 c e) (n:e.N=1) (pl:(aO s e.aI).dZ=true) (sh:(aO s e.aI).fC=false) (w:(aO s e.aI).dV.bY<=e.aZ):
   Step c s e (gX (bump s e) e.aI {aO s e.aI with fC:=true,dN:= -1})
 |back (k:e.aL=8) (t:d9 c e) (n:e.N=0) (sh:(aO s e.aI).fC=true) (m1:(dw s (aO s e.aI).bL).ig≠3)
   (fit:pQ c (gX (bump s e) e.aI {aO s e.aI with fC:=false})=[]):
   Step c s e (gX (bump s e) e.aI {aO s e.aI with fC:=false})
 |mode (k:e.aL=9) (ce:fI c e) (n:1<=e.N/\e.N<=3) (m1:(dw s e.aJ).ig≠e.N):
   Step c s e (tV (bump s e) e.aJ {dw s e.aJ with ig:=e.N,qd:=e.aZ})
 |want (k:e.aL=10) (ce:fI c e) (n:iq c e) (n1:(dw s e.aJ).iY≠e.N)
   (v1:(c.fG.getD e.N.toNat aG).gP<=s.gP) (v2:s.dP<=(c.fG.getD e.N.toNat aG).dP)
   (f:e.N=(dw s e.aJ).fZ\/vg s e.N=true\/(s.eH=0/\uZ s e.aJ s.aK.length<c.oz)):
   Step c s e (tV (bump s e) e.aJ {dw s e.aJ with iY:=e.N})
 |runs (k:e.aL=11) (ce:fI c e) (n:iq c e) (n1:e.N=(dw s e.aJ).iY) (n2:(dw s e.aJ).fZ≠(dw s e.aJ).iY)
   (f:vg s e.N=true\/s.eH=0) (w:s.aH.any (Ae e)=false):
   Step c s e (tV (bump s e) e.aJ {dw s e.aJ with fZ:=e.N,qd:=e.aZ})
 |prove (k:e.aL=12) (n:iq c e) (n1:vg s e.N=false) (b:s.aK.any (Aa c e)=true):
   Step c s e {bump s e with jP:=ug .i64 s.jP (iL .i64 1 (IntKind.u64.wrap e.N))}
 |mM (k:e.aL=13) (o:0<=e.dh/\e.dh<c.gK) (n:e.N=0\/e.N=1) (n1:hasB s.eH e.dh≠(e.N==1)):
   Step c s e {bump s e with eH:=wm .i64 s.eH (iL .i64 1 (IntKind.u64.wrap e.dh))}
 |expand (k:e.aL=14) (h1:s.dP<=s.gP) (h2:s.dP<30) (h3:s.aK.any (yC c s)=false):
   Step c s e {bump s e with dP:=s.dP+1}
 |contract (k:e.aL=15) (h1:s.dP≠s.gP):Step c s e {bump s e with gP:=s.dP}
 |note (k:e.aL=16):Step c s e (bump s e)
section
variable {c:aM} {s:aN} {e:aP}
theorem jZ{b:Bool}{k:Int}{y:aN×Int}(hk:k≠0)(h:(bif b then iZ k else y).2=0):b=false/\(bif b then iZ k else y)=y/\y.2=0:=by cases b with|true=>exact absurd h hk|false=>exact⟨rfl,rfl,h⟩
theorem Qk{s:aN}(h:(nP c s).2=0):pQ c s=[]/\nP c s=(s,0):=by
 unfold nP at h⊢;obtain⟨h1,h2,h3⟩:=jZ ak h;have:(pQ c s).length=0:=by have:=wO h1;omega
 exact⟨Jf this,h2⟩
theorem arI{s:aN}(h:pQ c s=[]):nP c s=(s,0):=by unfold nP;rw[h];rfl
theorem agw(s:aN)(e:aP)(cell:Int):∀n,uZ (bump s e) cell n=uZ s cell n
 |0=>rfl
 |n+1=>by have ih:=agw s e cell n;unfold uZ;rw[ih];rfl
theorem aIh(hkind:qy c e)(hz:(Af c (bump s e) e).2=0):Step c s e (Af c (bump s e) e).1:=by unfold Af at hz⊢;cases hkind with
 |place k t ce o w n=>rw[k]at hz⊢;change (Eh c (bump s e) e).2=0 at hz;show Step c s e (Eh c (bump s e) e).1;unfold Eh at hz⊢;obtain⟨b1,e1,hz⟩:=jZ ak hz;obtain⟨b2,e2,hz⟩:=jZ ak hz;obtain⟨b3,e3,hz⟩:=jZ ak hz;obtain⟨b4,e4,hz⟩:=jZ ak hz;obtain⟨f,e5⟩:=Qk hz;rw[e1,e2,e3,e4,e5];simp only[nW,abM,Gu,ow,Bf]at b2 b3 b4;exact .place k t ce o b1 b2.1 b2.2 b3.1 b3.2 b4.1 b4.2 f
 |grant k t ce o ep w n=>
  rw[k]at hz⊢;change (AZ c (bump s e) e).2=0 at hz;show Step c s e (AZ c (bump s e) e).1;unfold AZ at hz⊢;obtain⟨b1,e1,hz⟩:=jZ ak hz;obtain⟨b2,e2,hz⟩:=jZ ak hz;have hg:AR c (bump s e) e=0:=by cases hq:(AR c (bump s e) e !=0)with|false=>simpa using hq|true=>rw[hq]at hz;exact hz
  rw[hg]at hz;change (nP c _).2=0 at hz;obtain⟨f,e5⟩:=Qk hz;rw[e1,e2,hg];show Step c s e (nP c _).1;rw[e5];have hg':=hg;unfold AR at hg;simp only at hg;have nb:∀{b:Bool} {k y:Int},k≠0->(bif b then k else y)=0->b=false/\y=0:=by intro b k y hk h;cases b with|true=>exact absurd h hk|false=>exact⟨rfl,h⟩
  obtain⟨g1,hg⟩:=nb ak hg;obtain⟨g2,hg⟩:=nb ak hg;obtain⟨g3,hg⟩:=nb ak hg;obtain⟨g4,hg⟩:=nb ak hg;obtain⟨g5,hg⟩:=nb ak hg;change _=false at b1 b2;have t0:aO (bump s e) e.aI=aO s e.aI:=rfl;have c0:dw (bump s e) e.aJ=dw s e.aJ:=rfl;rw[t0]at b1 b2 g1 g2 g4 g5;rw[c0]at g1 g3;rw[t0]at f⊢;simp only[nW,abM,Gu,sG,zx,wQ,AX,Cn,Bf,Bool.not_eq_eq_eq_not,jQ,gI]at b1 b2 g1 g2 g3 g4 g5;refine .grant k t ce ep w n b1.1 b1.2 ?_ g1.1 ?_ ?_ g3.1 g3.2 ah ah ah ah ah ?_ f
  .rcases Gy (e.aJ=(aO s e.aI).bL)with q|q
   .exact .inl q
   .rcases Gy (e.aJ=(aO s e.aI).bB)with q2|q2
    .exact .inr (.inl q2)
    .exact .inr (.inr (by revert b2;simp[q,q2]))
  .intro q;have:=g1.2 q;simpa using this
  .rcases Gy (e.aJ=(aO s e.aI).bL)with q|q
   .rcases Gy (e.bP=(aO s e.aI).bP)with q2|q2
    .exact .inl ⟨q,q2⟩
    .exact .inr (by have:=g2.1;revert this;simp[q,q2])
   .exact .inr (g2.2 q)
  .intro q;have:=g5 q;omega
 |cut k t ce o ep w n=>rw[k]at hz⊢;change (ED (bump s e) e).2=0 at hz;show Step c s e (ED (bump s e) e).1;unfold ED at hz⊢;obtain⟨b1,e1,hz⟩:=jZ ak hz;obtain⟨b2,e2,hz⟩:=jZ ak hz;rw[e1,e2];simp only[Bf,Gu]at b1 b2;exact .cut k t b1 b2 ep.1
 |jB k t ce o w n=>
  rw[k]at hz⊢;change (DZ c (bump s e) e).2=0 at hz;show Step c s e (DZ c (bump s e) e).1;unfold DZ at hz⊢;obtain⟨b1,e1,hz⟩:=jZ ak hz;rw[e1];simp only[Bf]at b1;by_cases hc:e.aJ<0
  .rw[eY hc]at hz⊢;change (nP c _).2=0 at hz;obtain⟨f,e5⟩:=Qk hz;show Step c s e (nP c _).1;rw[e5];exact .aaD k t ah b1 f
  .rw[fV hc]at hz⊢;rw[aX]at hz⊢;obtain⟨b2,e2,hz⟩:=jZ ak hz;obtain⟨b3,e3,hz⟩:=jZ ak hz;obtain⟨b4,e4,hz⟩:=jZ ak hz;obtain⟨b5,e6,hz⟩:=jZ ak hz;obtain⟨f,e5⟩:=Qk hz;rw[e2,e3,e4,e6,e5];simp only[nW,Gu,sG,Bf]at b2 b3 b4 b5;exact .jB k t ⟨ah,ce.2⟩ b1 b2.1.1 b2.1.2 b2.2 b3 b4 b5.1.1 b5.1.2 b5.2 f
 |ready k t ce o w n=>rw[k]at hz⊢;change (Ej (bump s e) e).2=0 at hz;show Step c s e (Ej (bump s e) e).1;unfold Ej at hz⊢;obtain⟨b1,e1,hz⟩:=jZ ak hz;obtain⟨b2,e2,hz⟩:=jZ ak hz;obtain⟨b3,e3,hz⟩:=jZ ak hz;rw[e1,e2,e3];simp only[Bf,Gu,sG]at b1 b2 b3;exact .ready k t ce b1 b2 b3
 |migrate k t ce o w n=>rw[k]at hz⊢;change (DY c (bump s e) e).2=0 at hz;show Step c s e (DY c (bump s e) e).1;unfold DY at hz⊢;obtain⟨b1,e1,hz⟩:=jZ ak hz;obtain⟨b2,e2,hz⟩:=jZ ak hz;obtain⟨b3,e3,hz⟩:=jZ ak hz;obtain⟨b4,e4,hz⟩:=jZ ak hz;obtain⟨b5,e6,hz⟩:=jZ ak hz;obtain⟨f,e5⟩:=Qk hz;rw[e1,e2,e3,e4,e6,e5];simp only[nW,Gu,sG,Bf,zx,VL]at b1 b2 b3 b4 b5;exact .migrate k t ce b1.1.1 b1.1.2 b1.2 b2.1.1 b2.1.2 b2.2 b3 b4 b5.1.1 b5.1.2 b5.2 f
 |abandon k t ce o w n=>rw[k]at hz⊢;change (DW (bump s e) e).2=0 at hz;show Step c s e (DW (bump s e) e).1;unfold DW at hz⊢;obtain⟨b1,e1,hz⟩:=jZ ak hz;rw[e1];simp only[nW,Bf,zx,VN]at b1;exact .abandon k t b1.1 b1.2
 |shed k t ce o w n=>
  rw[k]at hz⊢;change (Bo c (bump s e) e).2=0 at hz;show Step c s e (Bo c (bump s e) e).1;unfold Bo at hz⊢;rcases n with n|n
  .rw[n]at hz⊢;change (bif _ then iZ 4 else _:aN×Int).2=0 at hz;show Step c s e (bif _ then iZ 4 else _:aN×Int).1;obtain⟨b1,e1,hz⟩:=jZ ak hz;obtain⟨b2,e2,hz⟩:=jZ ak hz;obtain⟨f,e5⟩:=Qk hz;rw[e1,e2,e5];simp only[Bf,sG]at b1 b2;exact .back k t n b1 b2 f
  .rw[n]at hz⊢;change (bif _ then iZ 4 else _:aN×Int).2=0 at hz;show Step c s e (bif _ then iZ 4 else _:aN×Int).1;obtain⟨b1,e1,hz⟩:=jZ ak hz;obtain⟨b2,e2,hz⟩:=jZ ak hz;rw[e1,e2];simp only[nW,Bf,zx,VN]at b1 b2;exact .shed k t n b1.1 b1.2 b2
 |mode k t ce o w n=>rw[k]at hz⊢;change (Ey (bump s e) e).2=0 at hz;show Step c s e (Ey (bump s e) e).1;unfold Ey at hz⊢;obtain⟨b1,e1,hz⟩:=jZ ak hz;rw[e1];simp only[sG]at b1;exact .mode k ce n b1
 |want k t ce o w n=>
  rw[k]at hz⊢;change (CF c (bump s e) e).2=0 at hz;show Step c s e (CF c (bump s e) e).1;unfold CF at hz⊢;obtain⟨b1,e1,hz⟩:=jZ ak hz;obtain⟨b2,e2,hz⟩:=jZ ak hz;obtain⟨b3,e3,hz⟩:=jZ ak hz;obtain⟨b4,e4,hz⟩:=jZ ak hz;rw[e1,e2,e3,e4];simp only[agw,nW,abM,Gu,sG,zx,AX,dQ,wQ,VN,VL]at b1 b2 b3 b4;refine .want k ce n b1 b2.1 b2.2 ?_;rcases Gy (e.N=(dw s e.aJ).fZ)with q|q
  .exact .inl q
  .cases hp:vg s e.N with|true=>exact .inr (.inl rfl)|false=>exact .inr (.inr ⟨b3 ⟨q,hp⟩,b4 ⟨q,hp⟩⟩)
 |runs k t ce o w n=>rw[k]at hz⊢;change (EB (bump s e) e).2=0 at hz;show Step c s e (EB (bump s e) e).1;unfold EB at hz⊢;obtain⟨b1,e1,hz⟩:=jZ ak hz;obtain⟨b2,e2,hz⟩:=jZ ak hz;obtain⟨b3,e3,hz⟩:=jZ ak hz;rw[e1,e2,e3];simp only[nW,abM,Gu,sG,wQ]at b1 b2;refine .runs k ce n b1.1 b1.2 ?_ b3;cases hp:vg s e.N with|true=>exact .inl rfl|false=>exact .inr (b2 hp)
 |prove k t ce o w n=>rw[k]at hz⊢;change (Ei c (bump s e) e).2=0 at hz;show Step c s e (Ei c (bump s e) e).1;unfold Ei at hz⊢;obtain⟨b1,e1,hz⟩:=jZ ak hz;rw[e1];cases hb:(bump s e).aK.any (Aa c e)with
  |false=>rw[hb]at hz;cases hz
  |true=>exact .prove k n b1 hb
 |mM k t ce o w n=>rw[k]at hz⊢;change (Eu (bump s e) e).2=0 at hz;show Step c s e (Eu (bump s e) e).1;unfold Eu at hz⊢;obtain⟨b1,e1,hz⟩:=jZ ak hz;rw[e1];exact .mM k o n (λq=>by rw[show hasB (bump s e).eH e.dh=hasB s.eH e.dh from rfl,q]at b1;simp at b1)
 |expand k t ce o w n=>rw[k]at hz⊢;change (D7 c (bump s e)).2=0 at hz;show Step c s e (D7 c (bump s e)).1;unfold D7 at hz⊢;obtain⟨b1,e1,hz⟩:=jZ ak hz;obtain⟨b2,e2,hz⟩:=jZ ak hz;obtain⟨b3,e3,hz⟩:=jZ ak hz;rw[e1,e2,e3];simp only[zx,VN,VL]at b1 b2;exact .expand k b1 b2 b3
 |contract k t ce o w n=>rw[k]at hz⊢;change (I5 (bump s e)).2=0 at hz;show Step c s e (I5 (bump s e)).1;unfold I5 at hz⊢;obtain⟨b1,e1,hz⟩:=jZ ak hz;rw[e1];exact .contract k (sG.1 b1)
 |note k t ce o w n=>rw[k];exact .note k
theorem ZP(h:VC c)(hz:(iB c s e).2=0):abm c e/\s.eP<4096/\s.aZ<=e.aZ/\Step c s e (iB c s e).1:=by unfold iB at hz⊢;obtain⟨b1,e1,hz⟩:=jZ ak hz;obtain⟨b2,e2,hz⟩:=jZ ak hz;obtain⟨b3,e3,hz⟩:=jZ ak hz;rw[e1,e2,e3];have hV:=((valid_eq (e:=e) h).2).1 (aD b1);simp only[zx,VN,VL]at b2 b3;exact⟨hV,b2,b3,aIh hV.2 hz⟩
end
end Go.CP
namespace Go.CP
open Go
section
variable {α β:Type}{xs:List α}{i:Int}{k:α->Option β}{g:Bool}{b:α}{p:Prop}{a:α}{m:Option α}
theorem dJ [Inhabited α](h1:0<=i)(h2:i<(xs.length:Int)):bC xs i k=k (xs.getD i.toNat aG):=by rw[gN];unfold idx;rw[eY ⟨h1,h2⟩];rfl
theorem dJZ [Inhabited α](h1:0<=i:=by omega)(h2:i<(xs.length:Int):=by omega):bC xs i k=k (xs.getD i.toNat aG):=dJ h1 h2
theorem xQ [Inhabited α](h1:0<=i)(h2:i<(xs.length:Int)):nR g xs i k=k (xs.getD i.toNat aG):=VE ⟨h1,h2⟩
theorem gU{b:Bool}{k:Option α}(h:b=true):bq b k=k:=by subst h;rfl
theorem mV [Decidable p]{k:Option α}(h:p:=by omega):bq (decide p) k=k:=gU (eY h)
theorem aqx [Decidable p]{k:Option α}(h:p):bq (!g||decide p) k=k:=gU (by rw[eY h];simp)
theorem eF [Decidable p](h:p):(bif decide p then a else b)=a:=by rw[eY h];rfl
theorem eFZ [Decidable p](h:p:=by omega):(bif decide p then a else b)=a:=eF h
theorem fA [Decidable p](h:¬p):(bif decide p then a else b)=b:=by rw[fV h];rfl
theorem fAZ [Decidable p](h:¬p:=by omega):(bif decide p then a else b)=b:=fA h
theorem Qg(b:Bool)(x y:α):(bif b then some x else some y)=some (bif b then x else y):=by cases b<;>rfl
theorem aii{σ β:Type}{L:Nat->σ->Int->Option β}{Q:β->Prop}(n:Nat)(I:Nat->σ->Prop)
  (step:∀(m k:Nat) (x:σ),k<n->I k x->(∀x',I (k+1) x'->Ok (L m x' ((k:Int)+1)) Q)->Ok (L (m+1) x (k:Int)) Q)
  (done:∀(m:Nat) (x:σ),I n x->Ok (L (m+1) x (n:Int)) Q):
  ∀(m k:Nat) (x:σ),k<=n->n-k<m->I k x->Ok (L m x (k:Int)) Q
 |0,_,_,_,hm,_=>absurd hm (kJ _)
 |m+1,k,x,hk,hm,hI=>by
  by_cases h:k<n
  .exact step m k x h hI (λx' hx=>by
    have:=aii n I step done m (k+1) x' ah ah hx
    simpa using this)
  .have:k=n:=ah;subst this;exact done m x hI
theorem jX [Fuel]{σ β:Type}{L:Nat->σ->Int->Option β}{Q:β->Prop}{x:σ}(n:Nat)(hn:n<18446744073709551616)(I:Nat->σ->Prop)(h0:I 0 x)
  (step:∀(m k:Nat) (x:σ),k<n->I k x->(∀x',I (k+1) x'->Ok (L m x' ((k:Int)+1)) Q)->Ok (L (m+1) x (k:Int)) Q)
  (done:∀(m:Nat) (x:σ),I n x->Ok (L (m+1) x (n:Int)) Q):Ok (L fuel x 0) Q:=
 aii n I step done fuel 0 x (zu _) aB h0
theorem apT{σ β:Type}{L:Nat->σ->Option β}{Q:β->Prop}(μ:σ->Nat)(I:σ->Prop)
  (step:∀(m:Nat) (x:σ),I x->(∀x',I x'->μ x'<μ x->Ok (L m x') Q)->Ok (L (m+1) x) Q):
  ∀(m:Nat) (x:σ),μ x<m->I x->Ok (L m x) Q
 |0,_,hm,_=>absurd hm (kJ _)
 |m+1,x,hm,hI=>step m x hI (λx' hx hlt=>apT μ I step m x' ah hx)
theorem aL6 [Fuel]{σ β:Type}{L:Nat->σ->Option β}{Q:β->Prop}{x:σ}(μ:σ->Nat)(I:σ->Prop)(h0:I x)(hm:μ x<18446744073709551616)
  (step:∀(m:Nat) (x:σ),I x->(∀x',I x'->μ x'<μ x->Ok (L m x') Q)->Ok (L (m+1) x) Q):Ok (L fuel x) Q:=
 apT μ I step fuel x aB h0
theorem o8(h:Ok m (λr=>r=a)):m=some a:=by obtain⟨b,e,q⟩:=h;rw[e,q]
theorem akx(h:m=some a):Ok m (λr=>r=a):=⟨a,h,rfl⟩
end
end Go.CP
namespace Go.CP
open Go
variable [Fuel]
def hit(i:Int)(n:Int)(j:Nat):Int:=if i=(j:Int)then n else 0
def dl(t:bM)(d:iG)(j:Nat):Int:=
 if t.dZ then(if t.fC then 0 else hit t.bL d.eD j+hit t.dN d.eD j)+(hit t.bB d.kK j+hit t.Next d.kK j)else 0
theorem AP(l:List Int)(i n:Int){j:Nat}(hj:j<l.length):(qg l i n).getD j 0=l.getD j 0+hit i n j:=by
 unfold qg hit;by_cases hi:0<=i/\i<(l.length:Int)
 .rw[bW hi];by_cases e:i=(j:Int)
  .have:i.toNat=j:=ah;rw[bW e,this];simp[fD,xU,hj]
  .have:i.toNat≠j:=ah;rw[dn e];simp[fD,xU,this]
 .rw[dn hi,dn ah];simp
theorem aH3(l:List Int)(t:bM)(d:iG){j:Nat}(hj:j<l.length):(book1 l t d).getD j 0=l.getD j 0+dl t d j:=by unfold book1 dl;rcases t.dZ with _|_;simp;cases t.fC with|true=>simp only[l5];rw[AP _ _ _ (by rw[rF];exact hj),AP _ _ _ hj];omega|false=>simp only[l5,nH,mJ];rw[AP _ _ _ (by simp only[rF];exact hj),AP _ _ _ (by simp only[rF];exact hj),AP _ _ _ (by rw[rF];exact hj),AP _ _ _ hj];omega
def qW(c:aM)(ts:List bM)(j:Nat):Nat->Int
 |0=>0
 |k+1=>qW c ts j k+dl (ts.getD k aG) (c.aH.getD k aG) j
theorem aoJ(c:aM)(ts:List bM)(l:List Int){j:Nat}(hj:j<l.length):∀k,(qA c ts k l).getD j 0=l.getD j 0+qW c ts j k
 |0=>by simp[qA,qW]
 |k+1=>by rw[qA,aH3 _ _ _ (by rw[aoK];exact hj),aoJ c ts l hj k,qW];omega
theorem aJt(n:Nat){j:Nat}:(List.replicate n (0:Int)).getD j 0=0:=by simp only[fD,Eb];split<;>rfl
section
variable {c:aM} {s:aN} {r:Int}
theorem agF{j:Nat}(hj:j<c.aK.length):(rZ c s).getD j 0=qW c s.aH j s.aH.length:=by unfold rZ;rw[aoJ _ _ _ (aD hj),aJt];omega
theorem Co{i n:Int}(h:0<=n)(j:Nat):0<=hit i n j:=by unfold hit;split<;>omega
theorem Pn{i n:Int}(h:i<0)(j:Nat):hit i n j=0:=by unfold hit;rw[dn ah]
end
theorem okT{m:Option Bool}(h:Ok m (λb=>b=true)):m=some true:=by obtain⟨b,e,q⟩:=h;rw[e,q]
section
variable {b:Int}{p:Prop}{a:Int}{t:bM}{i:Int}
section
variable {c:aM} {s:aN} {e:aP}
theorem tf{b:Bool}(h:b=true)(w:b=false):p:=by rw[h]at w;cases w
theorem oL(w:(0:Int)≤-1):p:=absurd w ak
theorem ahS(a b:Int):j5 c a b=j5 c b a:=by
 have h:∀x y:Bool,(x&&y)=(y&&x):=ak
 unfold j5 tC;rw[h (decide (0<=a)),h (decide (0<=jG c a))];have:(jG c a !=jG c b)=(jG c b !=jG c a):=by rw[PZ];simp only[AX,ne_eq];exact⟨λq w=>q w.symm,λq w=>q w.symm⟩
 rw[this]
theorem xR(h:b<0):j5 c a b=false:=by unfold j5;rw[fV (show¬0<=b by omega)];simp
theorem Lg(h:a<0):j5 c a b=false:=by rw[ahS];exact xR h
theorem ahR(h:0<=a):j5 c a a=true:=by unfold j5 tC;rw[eY h];simp
theorem aIL(ha:0<=a)(hb:0<=b)(h:j5 c a b=false):tC c a b=true:=by unfold j5 at h;rw[eY ha,eY hb]at h;simpa using h
structure LP(c:aM)(bS:Int)(i:Nat)(t:bM):Prop where
 np:t.dZ=false->t=uU
 hs:j5 c t.bL t.bB=false
 hn:j5 c t.bL t.Next=false
 ts:j5 c t.dN t.bB=false
 tn:j5 c t.dN t.Next=false
 ht:0<=t.dN->t.bL≠t.dN
 Q7:t.fC=true->t.dN= -1
 win:bS<t.dV.bY->t.dZ=true/\t.fC=false/\t.dV.aJ=t.bL
 ep:t.bP=t.dV.bP
 wl:t.dV.bY<=bS+2*c.iQ
 mh:0<=t.bL->oH c i t.bL=true
 ms:0<=t.bB->oH c i t.bB=true
 mn:0<=t.Next->oH c i t.Next=true
 mt:0<=t.dN->oH c i t.dN=true
 mo:0<=t.dN/\0<=t.Next->t.dN≠t.Next
theorem LP.later(h:VC c){a b:Int}{i:Nat}{t:bM}(q:LP c a i t)(hab:a<=b):LP c b i t:=
 ⟨q.np,q.hs,q.hn,q.ts,q.tn,q.ht,q.Q7,λw=>q.win ah,q.ep,by have:=q.wl;omega,q.mh,q.ms,q.mn,q.mt,q.mo⟩
structure V9(c:aM)(s:aN)(x:gG):Prop where
 r1:(c.fG.getD x.fZ.toNat aG).gP<=s.gP
 r2:s.dP<=(c.fG.getD x.fZ.toNat aG).dP
 w1:(c.fG.getD x.iY.toNat aG).gP<=s.gP
 w2:s.dP<=(c.fG.getD x.iY.toNat aG).dP
 si:x.qd<=s.aZ
structure Inv(c:aM)(s:aN):Prop where
 vs:VS c s
 t:∀i,i<s.aH.length->LP c s.aZ i (s.aH.getD i aG)
 oK:∀x∈s.aK,V9 c s x
 ov:pQ c s=[]
theorem O8:pQ c s= [] ↔∀j,j<c.aK.length->qW c s.aH j s.aH.length<=(c.aK.getD j aG).mg:=by
 have key:∀k,k<=c.aK.length->(sN c (rZ c s) k= [] ↔∀j,j<k->qW c s.aH j s.aH.length<=(c.aK.getD j aG).mg):=by intro k;induction k with
  |zero=>intro _;exact⟨λ_ j hj=>absurd hj (kJ _),λ_=>rfl⟩
  |succ k ih=>
   intro hk;rw[sN,agF ah];by_cases hc:(c.aK.getD k aG).mg<qW c s.aH k s.aH.length
   .rw[bW hc];constructor
    .intro q;simp at q
    .intro q;have:=q k ah;omega
   .rw[dn hc,ih ah];constructor
    .intro q j hj;by_cases e:j=k
     .subst e;omega
     .exact q j ah
    .intro q j hj;exact q j ah
 exact key _ (gy _)
theorem aix{ts:List bM}{i:Nat}{t:bM}(hi:i<ts.length)(j:Nat):∀n,qW c (ts.set i t) j n=qW c ts j n+(if i<n then dl t (c.aH.getD i aG) j-dl (ts.getD i aG) (c.aH.getD i aG) j else 0)
 |0=>by simp[qW]
 |n+1=>by
  rw[qW,qW,aix hi j n];by_cases e:i=n
  .subst e;rw[pY hi,dn ah,bW ah];omega
  .have:(ts.set i t).getD n aG=ts.getD n aG:=(by simp[fD,xU,e]);rw[this];by_cases q:i<n
   .rw[bW q,bW ah];omega
   .rw[dn q,dn ah];omega
theorem UN(hi:0<=i/\i<(s.aH.length:Int))(h0:pQ c s=[])
  (hd:∀j,dl t (c.aH.getD i.toNat aG) j<=dl (aO s i) (c.aH.getD i.toNat aG) j):pQ c (gX (bump s e) i t)=[]:=by
 rw[O8]at h0⊢;intro j hj;have:=h0 j hj;show qW c (s.aH.set i.toNat t) j (s.aH.set i.toNat t).length<=_;rw[oQ,aix ah j,bW ah];have:=hd j;unfold aO at this;omega
theorem aIo{s':aN}(h0:pQ c s=[])(he:s'.aH=s.aH):pQ c s'=[]:=by rw[O8]at h0⊢;rw[he];exact h0
theorem aal(h:VC c)(hi:0<=i/\i<(c.aH.length:Int)):0<=(c.aH.getD i.toNat aG).eD/\0<=(c.aH.getD i.toNat aG).kK:=by have:=yM h (by omega:i.toNat<c.aH.length);omega
theorem DX(h:VC c)(hI:Inv c s)(hge:s.aZ<=e.aZ)(ht:d9 c e)(hv:VS c (gX (bump s e) e.aI t))(hq:LP c e.aZ e.aI.toNat t)(hov:pQ c (gX (bump s e) e.aI t)=[]):Inv c (gX (bump s e) e.aI t):=by
 have htl:=hI.vs.tl;unfold d9 at ht;refine⟨hv,λi hi=> ?_,λx hx=> ?_,hov⟩
 .have hi':i<s.aH.length:=by simpa[gX,bump]using hi
  show LP c e.aZ i ((s.aH.set e.aI.toNat t).getD i aG);by_cases q:i=e.aI.toNat
  .subst q;rw[pY hi'];exact hq
  .have:(s.aH.set e.aI.toNat t).getD i aG=s.aH.getD i aG:=(by simp[fD,xU,Ne.symm q]);rw[this];exact(hI.t i hi').later h hge
 .have q:=hI.oK x hx;exact⟨q.r1,q.r2,q.w1,q.w2,by have:=q.si;show x.qd<=e.aZ;omega⟩
theorem I7(h:VC c)(hI:Inv c s)(hge:s.aZ<=e.aZ){s':aN}(hv:VS c s')(ht:s'.aH=s.aH)(hk:s'.aZ=e.aZ)(hc:∀x∈s'.aK,V9 c s' x):Inv c s':=by refine⟨hv,λi hi=> ?_,hc,aIo hI.ov ht⟩;rw[hk,ht];exact(hI.t i (by rw[<-ht];exact hi)).later h hge
theorem ahs(hI:Inv c s)(hge:s.aZ<=e.aZ){x:gG}(hx:V9 c (bump s e) x):∀y∈(tV (bump s e) e.aJ x).aK,V9 c (tV (bump s e) e.aJ x) y:=by
 intro y hy;rcases Gs hy with q|q
 .have q:=hI.oK y q;exact⟨q.r1,q.r2,q.w1,q.w2,by have:=q.si;show y.qd<=e.aZ;omega⟩
 .subst q;exact⟨hx.r1,hx.r2,hx.w1,hx.w2,hx.si⟩
theorem ahC(h:VC c)(hI:Inv c s)(hz:(iB c s e).2=0):Inv c (iB c s e).1:=by
 have hv:=aod h hI.vs hz;obtain⟨hV,hcnt,hge,hst⟩:=ZP h hz;have hk:=hV.1;have hle:=h.yt;have htl:=hI.vs.tl;generalize (iB c s e).1=s' at hv hst;have Fe:d9 c e->LP c e.aZ e.aI.toNat (aO s e.aI):=λt=>(hI.t _ (by unfold d9 at t;omega)).later h hge;have tci:∀{t:Int},0<=t->((t.toNat:Nat):Int)=t:=λ{t} q=>ah
 have cin:fI c e->V9 c s (dw s e.aJ):=λt=>hI.oK _ (jw (by have:=hI.vs.cl;unfold fI at t;omega));cases hst with
 |place k t ce o np m1 m2 f1 f2 y1 y2 fit=>
  refine DX h hI hge t hv ?_ fit;have q:=Fe t;have e0:=q.np np;unfold d9 at t;unfold fI at ce;unfold abF;rw[e0];refine⟨λw=>tf rfl w,?_,xR (by show(-1:Int)<0;omega),Lg (by show(-1:Int)<0;omega),xR (by show(-1:Int)<0;omega),λw=>oL w,λw=>tf w rfl,λw=> ?_,rfl,?_,λ_=> ?_,λw=> ?_,λw=>oL w,λw=>oL w,λw=>oL w.1⟩
  .show j5 c e.aJ e.dh=false;rcases Int.lt_or_le e.dh 0 with q|q
   .exact xR q
   .exact(y2 q).2
  .exact absurd w (by show¬e.aZ<0;omega)
  .show(0:Int)<=_;omega
  .rw[tci t.1];exact y1
  .rw[tci t.1];exact(y2 w).1
 | grant k t ce ep w n pl sh cl m1 m2 eq v1 v2 w1 w2 w3 w4 w5 w6 fit=> refine DX h hI hge t hv ?_ fit;have q:=Fe t;unfold fI at ce;unfold wH;simp only;have hpl:(aO s e.aI).dZ=true:=pl;cases hh:(e.aJ==(aO s e.aI).bL)with
  |true=>have hh':e.aJ=(aO s e.aI).bL:=(aD hh);have hns:(aO s e.aI).fC=false:=(by rcases hs:(aO s e.aI).fC with _|_;rfl;have e1:=sh hs;have:=q.hs;rw[<-hh',<-e1,ahR ce.1]at this;cases this);exact⟨λw=>tf hpl w,q.hs,q.hn,q.ts,q.tn,q.ht,q.Q7,λ_=>⟨hpl,hns,hh'⟩,rfl,by show e.bY<=_;omega,q.mh,q.ms,q.mn,q.mt,q.mo⟩
  |false=>have hh':e.aJ≠(aO s e.aI).bL:=(aD hh);cases hb:(e.aJ==(aO s e.aI).bB)with
   |true=>
    have hb':e.aJ=(aO s e.aI).bB:=aD hb
    exact⟨λw=>tf hpl w,xR (by show(-1:Int)<0;omega),xR (by show(-1:Int)<0;omega),xR (by show(-1:Int)<0;omega),xR (by show(-1:Int)<0;omega),λw=>oL w,λw=>tf w rfl,λ_=>⟨hpl,rfl,rfl⟩,rfl,by show e.bY<=_;omega,
     λ_=>by show oH c _ e.aJ=true;rw[hb'];exact q.ms ah,λw=>oL w,λw=>oL w,λw=>oL w,λw=>oL w.1⟩
   |false=>
    have hb':e.aJ≠(aO s e.aI).bB:=(aD hb);have ht':e.aJ=(aO s e.aI).dN:=(by rcases cl with a|a|a<;>first|exact absurd a hh'|exact absurd a hb'|exact a);have hns:(aO s e.aI).fC=false:=by rcases hs:(aO s e.aI).fC with _|_;rfl;exact absurd (sh hs) hb'
    exact⟨λw=>tf hpl w,by show j5 c e.aJ _=false;rw[ht'];exact q.ts,by show j5 c e.aJ _=false;rw[ht'];exact q.tn,Lg (by show(-1:Int)<0;omega),Lg (by show(-1:Int)<0;omega),λw=>oL w,λ_=>rfl,λ_=>⟨hpl,hns,rfl⟩,rfl,by show e.bY<=_;omega,
     λ_=>by show oH c _ e.aJ=true;rw[ht'];exact q.mt ah,q.ms,q.mn,λw=>oL w,λw=>oL w.1⟩
 |cut k t pl ep ep1=>
  refine DX h hI hge t hv ?_ (UN (by unfold d9 at t;omega) hI.ov (λj=>jh _));have q:=Fe t;have hu:(Ah (aO s e.aI).dV e.aZ).bY<=(aO s e.aI).dV.bY:=by unfold Ah ji;simp only;split<;>omega
  exact⟨λw=>tf pl w,q.hs,q.hn,q.ts,q.tn,q.ht,q.Q7,λw=>q.win (by have w:e.aZ<(Ah (aO s e.aI).dV e.aZ).bY:=w;omega),q.ep,by have:=q.wl;show(Ah _ _).bY<=_;omega,q.mh,q.ms,q.mn,q.mt,q.mo⟩
 |aaD k t ce pl fit=>refine DX h hI hge t hv ?_ fit;have q:=Fe t;rw[ce];exact⟨λw=>tf pl w,q.hs,xR (by show(-1:Int)<0;omega),q.ts,xR (by show(-1:Int)<0;omega),q.ht,q.Q7,q.win,q.ep,q.wl,q.mh,q.ms,λw=>oL w,q.mt,λw=>oL w.2⟩
 |jB k t ce pl n1 n2 n3 m1 f1 y1 t1 t2 fit=>refine DX h hI hge t hv ?_ fit;have q:=Fe t;unfold d9 at t;exact⟨λw=>tf pl w,q.hs,by rw[ahS];exact t1,q.ts,by rw[ahS];exact t2,q.ht,q.Q7,q.win,q.ep,q.wl,q.mh,q.ms,λ_=>by rw[tci t.1];exact y1,q.mt,λ_=>λw=>n3 w.symm⟩
 |ready k t ce pl n1 m1=>
  refine DX h hI hge t hv ?_ (UN (by unfold d9 at t;omega) hI.ov (λj=> ?_))
  .have q:=Fe t;unfold fI at ce;exact⟨λw=>tf pl w,by show j5 c _ e.aJ=false;rw[n1];exact q.hn,xR (by show(-1:Int)<0;omega),by show j5 c _ e.aJ=false;rw[n1];exact q.tn,xR (by show(-1:Int)<0;omega),q.ht,q.Q7,q.win,q.ep,q.wl,q.mh,λ_=>by show oH c _ e.aJ=true;rw[n1];exact q.mn ah,λw=>oL w,q.mt,λw=>oL w.2⟩
  .unfold d9 at t;have hd:=aal h t;unfold dl;simp only[pl,l5];have z:=Pn (i:= -1) (n:=(c.aH.getD e.aI.toNat aG).kK) ah j;have p:=Co (i:=(aO s e.aI).bB) hd.2 j;rw[z,n1];omega
 |migrate k t ce pl sh tg n1 n2 n3 m1 f1 y1 t1 t2 fit=>refine DX h hI hge t hv ?_ fit;have q:=Fe t;unfold d9 at t;exact⟨λw=>tf pl w,q.hs,q.hn,t1,t2,λ_=>λw=>n1 w.symm,λw=>tf w sh,q.win,q.ep,q.wl,q.mh,q.ms,q.mn,λ_=>by rw[tci t.1];exact y1,λ_=>n3⟩
 |abandon k t pl tg=>
  refine DX h hI hge t hv ?_ (UN (by unfold d9 at t;omega) hI.ov (λj=> ?_))
  .have q:=Fe t;exact⟨λw=>tf pl w,q.hs,q.hn,Lg (by show(-1:Int)<0;omega),Lg (by show(-1:Int)<0;omega),λw=>oL w,λ_=>rfl,q.win,q.ep,q.wl,q.mh,q.ms,q.mn,λw=>oL w,λw=>oL w.1⟩
  .unfold d9 at t;have hd:=aal h t;unfold dl;simp only[pl,l5];have z:=Pn (i:= -1) (n:=(c.aH.getD e.aI.toNat aG).eD) ah j;have p:=Co (i:=(aO s e.aI).dN) hd.1 j;rw[z];split<;>omega
 |shed k t n pl sh w=>
  refine DX h hI hge t hv ?_ (UN (by unfold d9 at t;omega) hI.ov (λj=> ?_))
  .have q:=Fe t;exact⟨λw=>tf pl w,q.hs,q.hn,Lg (by show(-1:Int)<0;omega),Lg (by show(-1:Int)<0;omega),λw=>oL w,λ_=>rfl,λw'=>by have w':e.aZ<(aO s e.aI).dV.bY:=w';omega,q.ep,q.wl,q.mh,q.ms,q.mn,λw=>oL w,λw=>oL w.1⟩
  .unfold d9 at t;have hd:=aal h t;unfold dl;simp only[pl,sh,l5,nH,mJ];have p:=Co (i:=(aO s e.aI).dN) hd.1 j;have p2:=Co (i:=(aO s e.aI).bL) hd.1 j;omega
 |back k t n sh m1 fit=>refine DX h hI hge t hv ?_ fit;have q:=Fe t;have hp:=(wW hI.vs (nQ hI.vs t)).sh sh;exact⟨λw=>tf hp w,q.hs,q.hn,q.ts,q.tn,q.ht,λw=>tf w rfl,λw=>tf sh (q.win w).2.1,q.ep,q.wl,q.mh,q.ms,q.mn,q.mt,q.mo⟩
 |mode k ce n m1=>have q:=cin ce;exact I7 h hI hge hv rfl rfl (ahs hI hge ⟨q.r1,q.r2,q.w1,q.w2,jh _⟩)
 |want k ce n n1 v1 v2 f=>have q:=cin ce;exact I7 h hI hge hv rfl rfl (ahs hI hge ⟨q.r1,q.r2,v1,v2,by have:=q.si;show _<=e.aZ;exact wR this hge⟩)
 |runs k ce n n1 n2 f w=>have q:=cin ce;exact I7 h hI hge hv rfl rfl (ahs hI hge ⟨by show(c.fG.getD e.N.toNat aG).gP<=_;rw[n1];exact q.w1,by show _<=(c.fG.getD e.N.toNat aG).dP;rw[n1];exact q.w2,q.w1,q.w2,jh _⟩)
 |prove k n n1 b=>refine I7 h hI hge hv rfl rfl (λx hx=> ?_);have q:=hI.oK x hx;exact⟨q.r1,q.r2,q.w1,q.w2,by have:=q.si;show _<=e.aZ;exact wR this hge⟩
 |mM k o n n1=>refine I7 h hI hge hv rfl rfl (λx hx=> ?_);have q:=hI.oK x hx;exact⟨q.r1,q.r2,q.w1,q.w2,by have:=q.si;show _<=e.aZ;exact wR this hge⟩
 |expand k h1 h2 h3=>refine I7 h hI hge hv rfl rfl (λx hx=> ?_);have q:=hI.oK x hx;have h3:=ajr.1 h3 x hx;unfold yC at h3;simp only[pO,ow,not_or,VL]at h3;exact⟨q.r1,by show s.dP+1<=_;omega,q.w1,by show s.dP+1<=_;omega,by have:=q.si;show _<=e.aZ;exact wR this hge⟩
 |contract k h1=>refine I7 h hI hge hv rfl rfl (λx hx=> ?_);have q:=hI.oK x hx;have hlh:=hI.vs.lh;have:=q.r1;have:=q.w1;exact⟨by show _<=s.dP;omega,q.r2,by show _<=s.dP;omega,q.w2,by have:=q.si;show _<=e.aZ;exact wR this hge⟩
 |note k=>refine I7 h hI hge hv rfl rfl (λx hx=> ?_);have q:=hI.oK x hx;exact⟨q.r1,q.r2,q.w1,q.w2,by have:=q.si;show _<=e.aZ;exact wR this hge⟩
theorem asa(n j:Nat):∀k,qW c (List.replicate n uU) j k=0
 |0=>rfl
 |k+1=>by
  rw[qW,asa n j k];by_cases q:k<n
  .have:(List.replicate n uU).getD k aG=uU:=(by simp[fD,q]);rw[this];rfl
  .have:(List.replicate n uU).getD k aG=aG:=(by simp[fD,q]);rw[this];rfl
theorem Vd(h:VC c):Inv c (newS c):=by
 have hl:=h.yt;refine⟨arY h,λi hi=> ?_,λx hx=> ?_,?_⟩
 .have hi':i<c.aH.length:=by simpa[newS]using hi
  have:(newS c).aH.getD i aG=uU:=by simp[newS,fD,hi']
  rw[this];exact⟨λ_=>rfl,xR ak,xR ak,xR ak,xR ak,λw=>oL w,λw=>tf w rfl,λw=>absurd w (by show¬(0:Int)<0;omega),rfl,by show(0:Int)<=0+2*c.iQ;omega,λw=>oL w,λw=>oL w,λw=>oL w,λw=>oL w,λw=>oL w.1⟩
 .have:x=EZ:=Li hx;subst this;have h0:=h.v0;have hv:=h.v _ (jw (by have:=h.vl;omega:0<c.fG.length));exact⟨by show(c.fG.getD 0 aG).gP<=0;omega,by show 0<=(c.fG.getD 0 aG).dP;omega,by show(c.fG.getD 0 aG).gP<=0;omega,by show 0<=(c.fG.getD 0 aG).dP;omega,jh _⟩
 .rw[O8];intro j hj;show qW c (List.replicate c.aH.length uU) j _<=_;rw[asa];have:=(h.oK _ (jw hj)).2.2.1;omega
theorem aiq(h:VC c)(l:List aP):∀s,Inv c s->yJ c s l->Inv c (yD c s l):=by induction l with|nil=>intro s hv _;exact hv|cons a l ih=>intro s hv ho;exact ih _ (ahC h hv ho.1) ho.2
end
end
theorem ahX(g a:Bool):(g&&(bif g then a else aG))=(g&&a):=by cases g<;>rfl
def qC(b:qI)(e:aP):Prop:=
 (e.aL=1/\0<=e.aI/\e.aI<b.wM/\0<=e.aJ/\e.aJ<b.cells/\ -1<=e.dh/\e.dh<b.cells/\e.dh≠e.aJ/\e.bP=0/\e.From=0/\e.bY=0/\e.N=0)∨
 (e.aL=2/\0<=e.aI/\e.aI<b.wM/\0<=e.aJ/\e.aJ<b.cells/\e.dh= -1/\1<=e.bP/\e.bP<=1048576/\0<=e.From/\e.From<=1073741824/\0<=e.bY/\e.bY<=1073741824/\0<=e.N/\e.N<b.zW)∨
 (e.aL=3/\0<=e.aI/\e.aI<b.wM/\e.aJ= -1/\e.dh= -1/\1<=e.bP/\e.bP<=1048576/\e.From=0/\e.bY=0/\e.N=0)∨
 (e.aL=4/\0<=e.aI/\e.aI<b.wM/\ -1<=e.aJ/\e.aJ<b.cells/\e.dh= -1/\e.bP=0/\e.From=0/\e.bY=0/\e.N=0)∨
 ((e.aL=5\/e.aL=6)/\0<=e.aI/\e.aI<b.wM/\0<=e.aJ/\e.aJ<b.cells/\e.dh= -1/\e.bP=0/\e.From=0/\e.bY=0/\e.N=0)∨
 (e.aL=7/\0<=e.aI/\e.aI<b.wM/\e.aJ= -1/\e.dh= -1/\e.bP=0/\e.From=0/\e.bY=0/\e.N=0)∨
 (e.aL=8/\0<=e.aI/\e.aI<b.wM/\e.aJ= -1/\e.dh= -1/\e.bP=0/\e.From=0/\e.bY=0/\0<=e.N/\e.N<=1)∨
 (e.aL=9/\e.aI= -1/\0<=e.aJ/\e.aJ<b.cells/\e.dh= -1/\e.bP=0/\e.From=0/\e.bY=0/\1<=e.N/\e.N<=3)∨
 ((e.aL=10\/e.aL=11)/\e.aI= -1/\0<=e.aJ/\e.aJ<b.cells/\e.dh= -1/\e.bP=0/\e.From=0/\e.bY=0/\0<=e.N/\e.N<b.zW)∨
 (e.aL=12/\e.aI= -1/\e.aJ= -1/\e.dh= -1/\e.bP=0/\e.From=0/\e.bY=0/\0<=e.N/\e.N<b.zW)∨
 (e.aL=13/\e.aI= -1/\e.aJ= -1/\0<=e.dh/\e.dh<b.regions/\e.bP=0/\e.From=0/\e.bY=0/\0<=e.N/\e.N<=1)∨
 ((e.aL=14\/e.aL=15)/\e.aI= -1/\e.aJ= -1/\e.dh= -1/\e.bP=0/\e.From=0/\e.bY=0/\e.N=0)∨
 (e.aL=16/\e.aI= -1/\e.aJ= -1/\e.dh= -1/\e.bP=0/\e.From=0/\e.bY=0/\0<=e.N/\e.N<=1073741824)
section
variable {c:aM} {e:aP}
theorem Oh(b:qI)(hb:0<=b.wM/\b.wM<=1000/\0<=b.cells/\b.cells<=1000/\0<=b.regions/\b.regions<=1000/\0<=b.zW/\b.zW<=1000):
  ∃v,OL e b=some v/\(v=true ↔ (0<=e.aZ/\e.aZ<=1073741824)/\qC b e):=by
 have w1:aQ (b.wM-1)=b.wM-1:=bIZ;have w2:aQ (b.cells-1)=b.cells-1:=bIZ;have w3:aQ (b.regions-1)=b.regions-1:=bIZ;have w4:aQ (b.zW-1)=b.zW-1:=bIZ;by_cases hin:1<=e.aL/\e.aL<=16
 .have hk:e.aL=1\/e.aL=2\/e.aL=3\/e.aL=4\/e.aL=5\/e.aL=6\/e.aL=7\/e.aL=8\/e.aL=9\/e.aL=10\/e.aL=11\/e.aL=12\/e.aL=13\/e.aL=14\/e.aL=15\/e.aL=16:=ah
  unfold OL Zh Tc Ta S9 xJ KT DJ;rcases hk with hk|hk|hk|hk|hk|hk|hk|hk|hk|hk|hk|hk|hk|hk|hk|hk
  .simp only[hk,w1,w2,w3,w4,Int.reduceBEq,nu,l6,qc,kW,gI,jQ,aY,aX,bE,Qg,ahX];by_cases ho:e.dh=e.aJ
   .have:(e.dh==e.aJ)=true:=(aD ho);simp only[this,aY];refine⟨false,rfl,?_⟩;simp only[qC,hk,Int.reduceEq,uz,sH,uD,sI,uG,uF,uE];constructor
    .intro q;cases q
    .intro q;omega
   .have:(e.dh==e.aJ)=false:=(aD ho);simp only[this,aX];refine⟨_,rfl,?_⟩;simp only[dQ,ow];simp only[qC,hk,Int.reduceEq,uz,sH,uD,sI,uG,uF,uE];constructor<;>(intro q;omega)
  all_goals
   simp only[hk,w1,w2,w3,w4,Int.reduceBEq,nu,l6,qc,kW,gI,jQ,aY,aX,bE,Qg,ahX];refine⟨_,rfl,?_⟩;simp only[dQ,ow];simp only[qC,hk,Int.reduceEq,uz,sH,uD,sI,uG,uF,uE];constructor<;>(intro q;omega)
 .have n:∀k:Int,1<=k->k<=16->(e.aL==k)=false:=λk h1 h2=>ay
  unfold OL Zh Tc Ta S9 xJ KT DJ;simp only[n 1 ah ah,n 2 ah ah,n 3 ah ah,n 4 ah ah,n 5 ah ah,n 6 ah ah,n 7 ah ah,n 8 ah ah,n 9 ah ah,n 10 ah ah,n 11 ah ah,n 12 ah ah,n 13 ah ah,n 14 ah ah,n 15 ah ah,n 16 ah ah,bE,aX,aY,jQ,En];refine⟨false,rfl,?_⟩;constructor
  .intro q;cases q
  .intro q;exfalso;have q:=q.2;unfold qC at q;rcases q with q|q|q|q|q|q|q|q|q|q|q|q|q<;>(have q:=q.1;omega)
theorem aoY:qC {wM:=(c.aH.length:Int),cells:=(c.aK.length:Int),regions:=c.gK,zW:=(c.fG.length:Int)} e ↔ qy c e:=by
 constructor
 .intro q;unfold qC at q;rcases q with q|q|q|q|q|q|q|q|q|q|q|q|q
  .exact .place q.1 ⟨q.2.1,q.2.2.1⟩ ⟨q.2.2.2.1,q.2.2.2.2.1⟩ ⟨q.2.2.2.2.2.1,q.2.2.2.2.2.2.1,q.2.2.2.2.2.2.2.1⟩ (by unfold eN;omega) ah
  .exact .grant q.1 ⟨q.2.1,q.2.2.1⟩ ⟨q.2.2.2.1,q.2.2.2.2.1⟩ (by unfold oN;omega) ah ah (by unfold iq;simp only at q;omega)
  .exact .cut q.1 ⟨q.2.1,q.2.2.1⟩ ah (by unfold oN;omega) ah ah ah
  .exact .jB q.1 ⟨q.2.1,q.2.2.1⟩ ⟨q.2.2.2.1,q.2.2.2.2.1⟩ (by unfold oN;omega) (by unfold eN;omega) ah
  .rcases q.1 with k|k
   .exact .ready k ⟨q.2.1,q.2.2.1⟩ ⟨q.2.2.2.1,q.2.2.2.2.1⟩ (by unfold oN;omega) (by unfold eN;omega) ah
   .exact .migrate k ⟨q.2.1,q.2.2.1⟩ ⟨q.2.2.2.1,q.2.2.2.2.1⟩ (by unfold oN;omega) (by unfold eN;omega) ah
  .exact .abandon q.1 ⟨q.2.1,q.2.2.1⟩ ah (by unfold oN;omega) (by unfold eN;omega) ah
  .exact .shed q.1 ⟨q.2.1,q.2.2.1⟩ ah (by unfold oN;omega) (by unfold eN;omega) ah
  .exact .mode q.1 ah ⟨q.2.2.1,q.2.2.2.1⟩ (by unfold oN;omega) (by unfold eN;omega) ah
  .rcases q.1 with k|k
   .exact .want k ah ⟨q.2.2.1,q.2.2.2.1⟩ (by unfold oN;omega) (by unfold eN;omega) (by unfold iq;simp only at q;omega)
   .exact .runs k ah ⟨q.2.2.1,q.2.2.2.1⟩ (by unfold oN;omega) (by unfold eN;omega) (by unfold iq;simp only at q;omega)
  .exact .prove q.1 ah ah (by unfold oN;omega) (by unfold eN;omega) (by unfold iq;simp only at q;omega)
  .exact .mM q.1 ah ah ⟨q.2.2.2.1,q.2.2.2.2.1⟩ (by unfold eN;omega) ah
  .rcases q.1 with k|k
   .exact .expand k ah ah (by unfold oN;omega) (by unfold eN;omega) ah
   .exact .contract k ah ah (by unfold oN;omega) (by unfold eN;omega) ah
  .exact .note q.1 ah ah (by unfold oN;omega) (by unfold eN;omega) ah
 .intro q;cases q with|place hk t ce o w n=>simp only[qC,hk,Int.reduceEq,uz,sH,uD,sI,uG,uF,uE];simp only[d9,fI,iq,oN,eN]at t ce o w n;omega|grant hk t ce o ep w n=>simp only[qC,hk,Int.reduceEq,uz,sH,uD,sI,uG,uF,uE];simp only[d9,fI,iq,oN,eN]at t ce o ep w n;omega|cut hk t ce o ep w n=>simp only[qC,hk,Int.reduceEq,uz,sH,uD,sI,uG,uF,uE];simp only[d9,fI,iq,oN,eN]at t ce o ep w n;omega|jB hk t ce o w n=>simp only[qC,hk,Int.reduceEq,uz,sH,uD,sI,uG,uF,uE];simp only[d9,fI,iq,oN,eN]at t ce o w n;omega|ready hk t ce o w n=>simp only[qC,hk,Int.reduceEq,uz,sH,uD,sI,uG,uF,uE];simp only[d9,fI,iq,oN,eN]at t ce o w n;omega|migrate hk t ce o w n=>simp only[qC,hk,Int.reduceEq,uz,sH,uD,sI,uG,uF,uE];simp only[d9,fI,iq,oN,eN]at t ce o w n;omega|abandon hk t ce o w n=>simp only[qC,hk,Int.reduceEq,uz,sH,uD,sI,uG,uF,uE];simp only[d9,fI,iq,oN,eN]at t ce o w n;omega|shed hk t ce o w n=>simp only[qC,hk,Int.reduceEq,uz,sH,uD,sI,uG,uF,uE];simp only[d9,fI,iq,oN,eN]at t ce o w n;omega|mode hk t ce o w n=>simp only[qC,hk,Int.reduceEq,uz,sH,uD,sI,uG,uF,uE];simp only[d9,fI,iq,oN,eN]at t ce o w n;omega|want hk t ce o w n=>simp only[qC,hk,Int.reduceEq,uz,sH,uD,sI,uG,uF,uE];simp only[d9,fI,iq,oN,eN]at t ce o w n;omega|runs hk t ce o w n=>simp only[qC,hk,Int.reduceEq,uz,sH,uD,sI,uG,uF,uE];simp only[d9,fI,iq,oN,eN]at t ce o w n;omega|prove hk t ce o w n=>simp only[qC,hk,Int.reduceEq,uz,sH,uD,sI,uG,uF,uE];simp only[d9,fI,iq,oN,eN]at t ce o w n;omega|mM hk t ce o w n=>simp only[qC,hk,Int.reduceEq,uz,sH,uD,sI,uG,uF,uE];simp only[d9,fI,iq,oN,eN]at t ce o w n;omega|expand hk t ce o w n=>simp only[qC,hk,Int.reduceEq,uz,sH,uD,sI,uG,uF,uE];simp only[d9,fI,iq,oN,eN]at t ce o w n;omega|contract hk t ce o w n=>simp only[qC,hk,Int.reduceEq,uz,sH,uD,sI,uG,uF,uE];simp only[d9,fI,iq,oN,eN]at t ce o w n;omega|note hk t ce o w n=>simp only[qC,hk,Int.reduceEq,uz,sH,uD,sI,uG,uF,uE];simp only[d9,fI,iq,oN,eN]at t ce o w n;omega
theorem Um(h:VC c):Ul c e=some (Bb c e):=by
 have htl:=h.tl;have hcl:=h.cl;have hvl:=h.vl;have ql:=h.reg;obtain⟨s,s1,s2⟩:=Oh (e:=e) {wM:=32,cells:=16,regions:=4,zW:=30} (by simp only;omega);obtain⟨f,f1,f2⟩:=Oh (e:=e) {wM:=(c.aH.length:Int),cells:=(c.aK.length:Int),regions:=c.gK,zW:=(c.fG.length:Int)} (by simp only;omega);rw[aoY]at f2;unfold Ul rY;simp only[s1,f1,bE,Qg,ahX];congr 1;rw[PZ,(valid_eq (e:=e) h).2,dQ,s2,f2];unfold abm;constructor
 .intro q;exact q.2
 .intro q;refine⟨⟨q.1,?_⟩,q⟩;have hf:=aoY.2 q.2;unfold qC at hf⊢;simp only at hf⊢;rcases hf with q|q|q|q|q|q|q|q|q|q|q|q|q
  .exact .inl ah
  .exact .inr (.inl ah)
  .exact .inr (.inr (.inl ah))
  .exact .inr (.inr (.inr (.inl ah)))
  .exact .inr (.inr (.inr (.inr (.inl ah))))
  .exact .inr (.inr (.inr (.inr (.inr (.inl ah)))))
  .exact .inr (.inr (.inr (.inr (.inr (.inr (.inl ah))))))
  .exact .inr (.inr (.inr (.inr (.inr (.inr (.inr (.inl ah)))))))
  .exact .inr (.inr (.inr (.inr (.inr (.inr (.inr (.inr (.inl ah))))))))
  .exact .inr (.inr (.inr (.inr (.inr (.inr (.inr (.inr (.inr (.inl ah)))))))))
  .exact .inr (.inr (.inr (.inr (.inr (.inr (.inr (.inr (.inr (.inr (.inl ah))))))))))
  .exact .inr (.inr (.inr (.inr (.inr (.inr (.inr (.inr (.inr (.inr (.inr (.inl ah)))))))))))
  .exact .inr (.inr (.inr (.inr (.inr (.inr (.inr (.inr (.inr (.inr (.inr (.inr ah)))))))))))
end
section
variable {a i:Int}
section
variable {c:aM} {s:aN} {e:aP}
theorem ait(ha:0<=a/\a<1073741824)(hi:0<=i):je .i64 (iJ .i64 a i) 1=a / 2^(min i.toNat 64)%2:=by unfold iJ;rw[fdiv_pow ha.1];show je .i64 (a / 2^(min i.toNat 64)) 1=_;have h1:0<=a / 2^(min i.toNat 64):=Int.ediv_nonneg ha.1 (ajo (abO ak));have h2:a / 2^(min i.toNat 64)<=a:=Int.ediv_le_self _ ha.1;exact and_one h1 ah
theorem aIS(ha:0<=a/\a<1073741824){n:Nat}(hn:30<=n):a / 2^n=0:=by
  apply Int.ediv_eq_zero_of_lt ha.1;have h1:(2:Int)^30<=2^n:=by
    have:(2:Nat)^30<=2^n:=aiT ak hn
    exact_mod_cast this
  have h2:(2:Int)^30=1073741824:=ak
  omega
theorem Ls(ha:0<=a/\a<1073741824:=by omega):DV a i=some (hasB a i):=by
  unfold DV hasB;by_cases h0:0<=i
  · rw[ait ha h0];have e1:(!((decide (0<=i))&&(decide (i<64)))||decide ((0:Int)<=i))=true:=(by rw[eY h0];simp);rw[gU e1];by_cases h1:i<62
    · rw[eY h0,eY (show i<64 by omega),eY (⟨h0,h1⟩:0<=i/\i<62),Cm ah];simp only[Ad,l6];congr 1
    · have z:a / 2^(min i.toNat 64)=0:=aIS ha ah;rw[z,fV (show¬(0<=i/\i<62)by omega)];simp
  · rw[fV h0,fV (show¬(0<=i/\i<62)by omega)];rfl
theorem ahm(h:VC c)(hv:VS c s)(i:Int):KQ c s i=some (o9 c s i):=by have:=hv.mM;unfold KQ o9;simp only[I4 h,bE,Ls (show 0<=s.eH/\s.eH<1073741824 by omega)]
theorem ajg(h:VC c)(t i:Int):K5 c t i=some (oH c t i):=by
  have htl:=h.tl;unfold K5 oH BZ;simp only[I4 h,bE];rw[bIZ];by_cases ht:0<=t/\t<(c.aH.length:Int)
  · have e1:(decide (0<=t)&&decide (t<=(c.aH.length:Int)-1))=true:=ay;have ha:=ant h ht;rw[e1,eY ht];simp only[l6];by_cases hr:0<=jG c i
    · have hb:=aFM h i;have ql:=h.reg;rw[eY hr];simp (disch:=omega) only[xQ,Lv];rw[gU (by rw[eY hr];simp),ait ah hr,Cm ah];unfold hasB;rw[eY (show 0<=jG c i/\jG c i<62 by omega)];simp only[l6];congr 1
    · rw[fV hr];unfold hasB;rw[fV (show¬(0<=jG c i/\jG c i<62)by omega)];rfl
  · have e1:(decide (0<=t)&&decide (t<=(c.aH.length:Int)-1))=false:=ay;rw[e1,fV ht];rfl
theorem aiu(h:VC c)(a b:Int):K4 c a b=some ((b !=(-1))&& !(tC c a b)):=by unfold K4;rw[anM h,Qg,bE];cases (b !=(-1))<;>rfl
theorem Pq{i:Int}(hi:0<=i/\i<(s.aK.length:Int)):F8 s i=some (dw s i).ig:=by
  unfold F8;have e1:(decide (i<0)||decide ((s.aK.length:Int)<=i))=false:=ay
  rw[e1,aX,dJ hi.1 hi.2];rfl
theorem aje(hi:0<=i/\i<(c.fG.length:Int)):N7 c i=some (c.fG.getD i.toNat aG):=by
  unfold N7;have e1:(decide (i<0)||decide ((c.fG.length:Int)<=i))=false:=ay
  rw[e1,aX,dJ hi.1 hi.2]
theorem Lr(hi: -1<=i):(i !=(-1))=decide (0<=i):=by
  by_cases h:0<=i
  · rw[eY h];simp;omega
  · have:i= -1:=ah;subst this;rfl
theorem eq_neg(hi: -1<=i):(i==(-1))=decide (i<0):=by
  by_cases h:i<0
  · rw[eY h];have:i= -1:=ah;subst this;rfl
  · rw[fV h];simp;omega
def uP(x:Int)(n:aN×Int):aN×Int:=bif x !=0 then iZ x else n
theorem aKm(h:VC c)(hv:VS c s)(t:d9 c e)(ce:fI c e)(o: -1<=e.dh/\e.dh<(c.aK.length:Int)):
    Ok (Uw c s e) (λx=>Eh c (bump s e) e=uP x (nP c (gX (bump s e) e.aI (abF (aO s e.aI) e)))):=by
  have h1:=nQ hv t;have h2:=sO hv ce;have hcl:=hv.cl;unfold Uw YZ YX YW Eh;rw[dJ h1.1 h1.2,Pq h2,Lr o.1];simp only[bE,ahm h hv,ajg h,aiu h,Lr o.1];have t0:aO (bump s e) e.aI=aO s e.aI:=rfl;have c0:∀i,dw (bump s e) i=dw s i:=λ_=>rfl;have f0:∀i,o9 c (bump s e) i=o9 c s i:=λ_=>rfl;rw[t0];simp only[c0,f0];show Ok (bif(aO s e.aI).dZ then _ else _) _;have tg:j5 c e.aJ e.dh=(decide (0<=e.dh)&& !(tC c e.aJ e.dh)):=by unfold j5;rw[eY h2.1];rfl
  rw[tg];by_cases ho:0<=e.dh
  · rw[eY ho,Pq (s:=s) (i:=e.dh) ah];simp only[aY,l6,bE];cases (aO s e.aI).dZ with
    |true=>exact Ok.some rfl
    |false =>cases ((dw s e.aJ).ig !=1)with
      |true=>exact Ok.some rfl
      |false =>cases ((dw s e.dh).ig !=1)with|true=>exact Ok.some rfl|false =>cases o9 c s e.aJ with|true=>exact Ok.some rfl|false=>cases o9 c s e.dh with|true=>exact Ok.some rfl|false=>rcases oH c e.aI e.aJ with _|_;exact Ok.some rfl;rcases oH c e.aI e.dh with _|_;exact Ok.some rfl;cases tC c e.aJ e.dh<;>exact Ok.some rfl
  · rw[fV ho];simp only[aX,nu,bE,qc];cases (aO s e.aI).dZ with|true=>exact Ok.some rfl|false=>cases ((dw s e.aJ).ig !=1)with|true=>exact Ok.some rfl|false=>cases o9 c s e.aJ with|true=>exact Ok.some rfl|false=>cases oH c e.aI e.aJ<;>exact Ok.some rfl
theorem aII(h:VC c)(hI:Inv c s)(t:d9 c e)(ce: -1<=e.aJ/\e.aJ<(c.aK.length:Int))(hp:e.aZ>=s.aZ):
    Ok (TY c s e) (λx=>DZ c (bump s e) e=uP x (bif decide (e.aJ<0)then(gX (bump s e) e.aI {aO s e.aI with Next:=e.aJ},0)else nP c (gX (bump s e) e.aI {aO s e.aI with Next:=e.aJ}))):=by
  have hv:=hI.vs;have h1:=nQ hv t;have hcl:=hv.cl;have hT:=wW hv h1;unfold TY SY SS DZ;rw[dJ h1.1 h1.2,eq_neg ce.1];have t0:aO (bump s e) e.aI=aO s e.aI:=rfl;have c0:∀i,dw (bump s e) i=dw s i:=λ_=>rfl;have f0:∀i,o9 c (bump s e) i=o9 c s i:=λ_=>rfl;rw[t0];simp only[c0,f0];show Ok (bif !(aO s e.aI).dZ then _ else _) _;have hg:(s.aH.getD e.aI.toNat aG)=aO s e.aI:=rfl;rw[hg];have key:(aO s e.aI).dZ=true->e.aJ<0->pQ c (gX (bump s e) e.aI {aO s e.aI with Next:=e.aJ})=[]:=by intro hpl hc;refine UN h1 hI.ov (λj=> ?_);unfold d9 at t;have hd:=aal h t;unfold dl;simp only[hpl,l5];have z:=Pn (i:=e.aJ) (n:=(c.aH.getD e.aI.toNat aG).kK) hc j;have p:=Co (i:=(aO s e.aI).Next) hd.2 j;rw[z];omega
  rcases hpl:(aO s e.aI).dZ with _|_;exact Ok.some rfl;simp only[gI,aX];by_cases hc:e.aJ<0
  · rw[eY hc];simp only[aY];refine Ok.some ?_;have k2:=key hpl hc;simp only[hpl]at k2⊢;rw[arI k2];rfl
  · rw[fV hc];have hce:0<=e.aJ/\e.aJ<((s.aK.length:Nat):Int):=ah;simp only[aX,Pq hce,bE,ahm h hv,ajg h,aiu h,anM h,Lr hT.tg.1];have hh:0<=(aO s e.aI).bL:=hT.pl hpl;have tg1:j5 c e.aJ (aO s e.aI).bL= !(tC c e.aJ (aO s e.aI).bL):=(by unfold j5;rw[eY hce.1,eY hh];rfl);have tg2:j5 c e.aJ (aO s e.aI).dN=(decide (0<=(aO s e.aI).dN)&& !(tC c e.aJ (aO s e.aI).dN)):=(by unfold j5;rw[eY hce.1];rfl);rw[tg1,tg2];generalize nP c _=R;generalize (decide (0<=(aO s e.aI).dN)&& !(tC c e.aJ (aO s e.aI).dN))=b9;cases (e.aJ==(aO s e.aI).bL)with
    |true=>exact Ok.some rfl
    |false =>cases (e.aJ==(aO s e.aI).bB)with
      |true=>exact Ok.some rfl
      |false =>cases (e.aJ==(aO s e.aI).dN)with|true=>exact Ok.some rfl|false =>cases ((dw s e.aJ).ig !=1)with|true=>exact Ok.some rfl|false=>cases o9 c s e.aJ with|true=>exact Ok.some rfl|false=>rcases oH c e.aI e.aJ with _|_;exact Ok.some rfl;rcases tC c e.aJ (aO s e.aI).bL with _|_;exact Ok.some rfl;cases b9<;>exact Ok.some rfl
theorem aKt(h:VC c)(hv:VS c s)(t:d9 c e)(ce:fI c e):
    Ok (Uy s e) (λx=>Ej (bump s e) e=uP x (gX (bump s e) e.aI {aO s e.aI with bB:=e.aJ,Next:= -1},0)):=by
  have h1:=nQ hv t;have h2:=sO hv ce;unfold Uy Ej;rw[dJ h1.1 h1.2,Pq h2];show Ok (bif !(aO s e.aI).dZ then _ else _) _;have t0:aO (bump s e) e.aI=aO s e.aI:=rfl;have c0:∀i,dw (bump s e) i=dw s i:=λ_=>rfl;have hg:(s.aH.getD e.aI.toNat aG)=aO s e.aI:=rfl;rw[t0,c0,hg];simp only[bE];cases (aO s e.aI).dZ with|false=>exact Ok.some rfl|true=>cases (e.aJ !=(aO s e.aI).Next)with|true=>exact Ok.some rfl|false=>cases ((dw s e.aJ).ig==3)<;>exact Ok.some rfl
theorem aIl(h : VC c)(hv:VS c s)(t:d9 c e)(ce:fI c e):
    Ok (TW c s e) (λx=>DY c (bump s e) e=uP x (nP c (gX (bump s e) e.aI {aO s e.aI with dN:=e.aJ}))):=by
  have h1:=nQ hv t;have h2:=sO hv ce;have hT:=wW hv h1;unfold TW SQ SN SL DY;rw[dJ h1.1 h1.2];have t0:aO (bump s e) e.aI=aO s e.aI:=rfl;have c0:∀i,dw (bump s e) i=dw s i:=λ_=>rfl;have f0:∀i,o9 c (bump s e) i=o9 c s i:=λ_=>rfl;have hg:(s.aH.getD e.aI.toNat aG)=aO s e.aI:=rfl;rw[t0,hg];simp only[c0,f0,Pq h2,bE,ahm h hv,ajg h,aiu h,Lr hT.tg.1,Lr hT.sb.1,Lr hT.nx.1];have tg1:j5 c e.aJ (aO s e.aI).bB=(decide (0<=(aO s e.aI).bB)&& !(tC c e.aJ (aO s e.aI).bB)):=by unfold j5;rw[eY h2.1];rfl
  have tg2:j5 c e.aJ (aO s e.aI).Next=(decide (0<=(aO s e.aI).Next)&& !(tC c e.aJ (aO s e.aI).Next)):=by unfold j5;rw[eY h2.1];rfl
  rw[tg1,tg2];generalize nP c _=R;generalize (decide (0<=(aO s e.aI).bB)&& !(tC c e.aJ (aO s e.aI).bB))=b8;generalize (decide (0<=(aO s e.aI).Next)&& !(tC c e.aJ (aO s e.aI).Next))=b9;generalize decide (0<=(aO s e.aI).dN)=b7;cases (aO s e.aI).dZ with
  |false=>exact Ok.some rfl
  | true=> cases (aO s e.aI).fC with
    |true=>exact Ok.some rfl
    | false => cases b7 with
      |true=>exact Ok.some rfl
      | false => cases (e.aJ==(aO s e.aI).bL)with
        |true=>exact Ok.some rfl
        |false =>cases (e.aJ==(aO s e.aI).bB)with
          |true=>exact Ok.some rfl
          |false =>cases (e.aJ==(aO s e.aI).Next)with|true=>exact Ok.some rfl|false =>cases ((dw s e.aJ).ig !=1)with|true=>exact Ok.some rfl|false=>cases o9 c s e.aJ with|true=>exact Ok.some rfl|false=>rcases oH c e.aI e.aJ with _|_;exact Ok.some rfl;cases b8 with|true=>exact Ok.some rfl|false=>cases b9<;>exact Ok.some rfl
theorem aHZ(hv:VS c s)(t:d9 c e):Ok (TV s e) (λx=>DW (bump s e) e=uP x (gX (bump s e) e.aI {aO s e.aI with dN:= -1},0)):=by have h1:=nQ hv t;have hT:=wW hv h1;unfold TV DW;have t0:aO (bump s e) e.aI=aO s e.aI:=rfl;have hg:(s.aH.getD e.aI.toNat aG)=aO s e.aI:=rfl;rw[dJ h1.1 h1.2,t0,hg,eq_neg hT.tg.1];dsimp only;cases (!(aO s e.aI).dZ||decide ((aO s e.aI).dN<0))<;>exact Ok.some rfl
theorem aLA(h:VC c)(hv:VS c s)(t:d9 c e)(n:e.N=0\/e.N=1):
    Ok (UG s e) (λx=>Bo c (bump s e) e=uP x (bif e.N==1 then(gX (bump s e) e.aI {aO s e.aI with fC:=true,dN:= -1},0)else nP c (gX (bump s e) e.aI {aO s e.aI with fC:=false}))):=by
  have h1:=nQ hv t;have hT:=wW hv h1;have hcl:=hv.cl;unfold UG Zd Bo;have t0:aO (bump s e) e.aI=aO s e.aI:=rfl;have c0:∀i,dw (bump s e) i=dw s i:=λ_=>rfl;have hg:(s.aH.getD e.aI.toNat aG)=aO s e.aI:=rfl;rw[dJ h1.1 h1.2,t0,hg];dsimp only;rw[c0];rcases n with n|n
  · rw[n];simp only[Int.reduceBEq,aY,aX];rcases hs:(aO s e.aI).fC with _|_;exact Ok.some rfl;have hh:=hT.pl (hT.sh hs);have:=hT.lU;rw[Pq (s:=s) (i:=(aO s e.aI).bL) ah];simp only[gI,aX,bE];cases ((dw s (aO s e.aI).bL).ig==3)<;>exact Ok.some rfl
  · rw[n];simp only[Int.reduceBEq,aY,aX];cases (aO s e.aI).dZ with|false=>exact Ok.some rfl|true=>cases (aO s e.aI).fC with|true=>exact Ok.some rfl|false=>cases decide (e.aZ<(aO s e.aI).dV.bY)<;>exact Ok.some rfl
theorem aLS(hv:VS c s)(t:d9 c e):Ok (UW s e) (λx=>ED (bump s e) e=uP x (gX (bump s e) e.aI {aO s e.aI with dV:=Ah (aO s e.aI).dV e.aZ},0)):=by have h1:=nQ hv t;unfold UW ED;have t0:aO (bump s e) e.aI=aO s e.aI:=rfl;have hg:(s.aH.getD e.aI.toNat aG)=aO s e.aI:=rfl;rw[dJ h1.1 h1.2,t0,hg];dsimp only;cases (aO s e.aI).dZ with|false=>exact Ok.some rfl|true=>cases (e.bP !=(aO s e.aI).bP)<;>exact Ok.some rfl
theorem aJ1(h : VC c)(hv : VS c s)(t:d9 c e)(ce:fI c e)(hk:0<=e.aZ/\e.aZ<=1073741824)(w:0<=e.From/\e.From<=1073741824/\0<=e.bY/\e.bY<=1073741824):
    Ok (KW c s e) (λx=>AZ c (bump s e) e=uP x (nP c (gX (bump s e) e.aI (wH (aO s e.aI) e)))):=by
  have h1:=nQ hv t;have h2:=sO hv ce;have hT:=wW hv h1;have hle:=h.yt;have hep:=hT.ep;unfold KW TD YV YU Od YT AZ AR;have t0:aO (bump s e) e.aI=aO s e.aI:=rfl;have c0:∀i,dw (bump s e) i=dw s i:=λ_=>rfl;have hg:(s.aH.getD e.aI.toNat aG)=aO s e.aI:=rfl;have hg2:(s.aK.getD e.aJ.toNat aG)=dw s e.aJ:=rfl;rw[dJ h1.1 h1.2,dJ h2.1 h2.2,t0,hg,hg2];dsimp only;rw[c0];rw[bI (x:=(aO s e.aI).bP+1) ah ah,bI (x:=e.aZ+c.iQ) ah ah,bI (x:=e.bY-e.From) ah ah];generalize nP c _=R;simp only[bne];generalize (e.aJ==(aO s e.aI).bL)=b1;generalize (e.aJ==(aO s e.aI).bB)=b2;generalize (e.aJ==(aO s e.aI).dN)=b3;generalize ((dw s e.aJ).ig==3)=b4;generalize ((dw s e.aJ).ig==2)=b5;generalize (e.bP==(aO s e.aI).bP)=b6;generalize (e.bP==(aO s e.aI).bP+1)=b7;generalize (e.N==(dw s e.aJ).fZ)=b8;generalize ((dw s e.aJ).fZ==(dw s e.aJ).iY)=b9;generalize decide (e.From<e.aZ)=d1;generalize decide (e.aZ+c.iQ<e.From)=d2;generalize decide (e.bY<=e.From)=d3;generalize decide (c.iQ<e.bY-e.From)=d4;generalize decide (e.From<(aO s e.aI).dV.bY)=d5;generalize decide (e.aZ<(aO s e.aI).dV.bY)=d6;cases (aO s e.aI).dZ with
  |false=>exact Ok.some rfl
  | true=> cases (aO s e.aI).fC<;>cases b2<;>first
      |(exact Ok.some rfl)
      | (cases b1 <;> cases b3<;>first
          |(exact Ok.some rfl)
          | (cases b4 with
             |true=>exact Ok.some rfl
             | false => cases b5 <;> first
                 |(exact Ok.some rfl)
                 | (cases b6<;>cases b7<;>first
                     |(exact Ok.some rfl)
                     | (cases b8 with
                        |false=>exact Ok.some rfl
                        | true=> rcases b9 with _|_;exact Ok.some rfl;cases d1 with
                          |true=>exact Ok.some rfl
                          | false => cases d2 with
                            |true=>exact Ok.some rfl
                            | false=> cases d3 with
                              |true=>exact Ok.some rfl
                              | false=> cases d4 with
                                |true=>exact Ok.some rfl
                                |false=>cases d5 with
                                  |true=>exact Ok.some rfl
                                  |false=>cases d6<;>exact Ok.some rfl))))
end
end
section
variable {c:aM} {s:aN} {e:aP}
theorem aLh(hv:VS c s)(ce:fI c e):Ok (UE s e) (λx=>Ey (bump s e) e=uP x (tV (bump s e) e.aJ {dw s e.aJ with ig:=e.N,qd:=e.aZ},0)):=by have h2:=sO hv ce;unfold UE Ey;have c0:∀i,dw (bump s e) i=dw s i:=λ_=>rfl;have hg2:(s.aK.getD e.aJ.toNat aG)=dw s e.aJ:=rfl;rw[dJ h2.1 h2.2,c0,hg2];cases ((dw s e.aJ).ig==e.N)<;>exact Ok.some rfl
def zD(s:aN):Nat->List Int
 |0=> []
 |k+1=>bif Cz s (k:Int)then zD s k++ [(k:Int)]else zD s k
theorem ahb(s:aN):∀k,(zD s k).length<=k
 |0=>gy 0
 |k+1=>by have:=ahb s k;rw[zD];cases Cz s (k:Int)with|true=>simp;omega|false=>simp;omega
def cntF(cell:Int)(l:List Int):Nat->Int
 |0=>0
 |k+1=>(bif l.getD k aG !=cell then cntF cell l k+1 else cntF cell l k)
theorem aqz(cell:Int)(l:List Int):∀k,0<=cntF cell l k/\cntF cell l k<=k
 |0=>by simp[cntF]
 |k+1=>by have:=aqz cell l k;rw[cntF];cases (l.getD k aG !=cell)<;>simp<;>omega
theorem apC(cell:Int)(l m:List Int):∀k,k<=l.length->cntF cell (l++m) k=cntF cell l k
 |0,_=>rfl
 |k+1,hk=>by
  rw[cntF,cntF,apC cell l m k ah];have:(l++m).getD k aG=l.getD k aG:=by simp[fD,p9 (show k<l.length by omega)]
  rw[this]
theorem apD(s:aN)(cell:Int):∀k,cntF cell (zD s k) (zD s k).length=uZ s cell k
 |0=>rfl
 |k+1=>by have ih:=apD s cell k;rw[zD];unfold uZ;cases ho:Cz s (k:Int)with
  |false=>simp only[aX];rw[ih];simp[ho]
  |true=>
   simp only[aY,qp,qM];rw[cntF,apC _ _ _ _ (gy _),ih];have:(zD s k++ [(k:Int)]).getD (zD s k).length aG=(k:Int):=(by simp[fD]);rw[this];by_cases hq:(k:Int)=cell
   .simp[hq]
   .simp[hq,ho]
theorem aG9(h:VC c)(hv:VS c s):YS s=some (zD s s.aK.length):=by
 apply o8;have hcl:=hv.cl;have akc:=h.cl;have hp:=hv.Bw;unfold YS;refine jX (L:=λm x i=>FN s s.aK (s.aK.length:Int) m x i) s.aK.length ah (λk x=>x=zD s k) rfl ?_ ?_
 .rintro m k x hk rfl ih;show Ok (FN s s.aK _ (m+1) (zD s k) k) _;have hol:=ahb s k;rw[FN];unfold Yv;simp (disch:=omega) only[eF,dJ,gL,Ls hp,Qg,bE,bI];have e1:((!hasB s.jP (s.aK.getD k aG).fZ)|| !(bif !(!hasB s.jP (s.aK.getD k aG).fZ)then hasB s.jP (s.aK.getD k aG).iY else aG))=Cz s (k:Int):=by unfold Cz vg dw;rw[gL];cases hasB s.jP (s.aK.getD k aG).fZ<;>rfl
  rw[e1];have nx:=ih (zD s (k+1)) rfl;rw[zD]at nx;cases ho:Cz s (k:Int)with|true=>rw[ho]at nx;simp only[aY]at nx⊢;rw[mV (by simp only[qM];unfold room;omega)];exact nx|false=>rw[ho]at nx;exact nx
 .rintro m x rfl;show Ok (FN s s.aK _ (m+1) _ _) _;rw[FN];simp (disch:=omega) only[fA];exact Ok.some rfl
theorem aKN(h:VC c){l:List Int}(hl:l.length<=1000):DL c e l (l.length:Int) fuel 0 0=some (bif decide (c.oz<=cntF e.aJ l l.length)then 14 else 0):=by
 apply o8;refine jX (L:=λm x i=>DL c e l (l.length:Int) m x i) l.length ah (λk x=>x=cntF e.aJ l k) rfl ?_ ?_
 .rintro m k x hk rfl ih;show Ok (DL c e l _ (m+1) (cntF e.aJ l k) k) _;have hb:=aqz e.aJ l k;rw[DL];unfold Ze;simp (disch:=omega) only[eF,dJ,gL,bI];have nx:=ih (cntF e.aJ l (k+1)) rfl;rw[cntF]at nx;cases hq:(l.getD k aG !=e.aJ)with|true=>rw[hq]at nx;exact nx|false=>rw[hq]at nx;exact nx
 .rintro m x rfl;show Ok (DL c e l _ (m+1) _ _) _;rw[DL];simp (disch:=omega) only[fA];cases decide (c.oz<=cntF e.aJ l l.length)<;>exact Ok.some rfl
theorem aLH(h:VC c)(hv:VS c s)(ce:fI c e)(n:iq c e):Ok (UH c s e) (λx=>CF c (bump s e) e=uP x (tV (bump s e) e.aJ {dw s e.aJ with iY:=e.N},0)):=by
 have h2:=sO hv ce;have hp:=hv.Bw;have hcl:=hv.cl;have akc:=h.cl;unfold iq at n;unfold UH Zg Zf CF;have c0:∀i,dw (bump s e) i=dw s i:=λ_=>rfl;have hg2:(s.aK.getD e.aJ.toNat aG)=dw s e.aJ:=rfl;have hol:=ahb s s.aK.length;rw[dJ h2.1 h2.2,hg2];dsimp only;rw[c0,aje n,aG9 h hv];simp only[bE,Ls hp,agw];rw[aKN h ah,apD];have p0:vg (bump s e) e.N=hasB s.jP e.N:=rfl;have q0:(bump s e).aK.length=s.aK.length:=rfl;have q1:(bump s e).eH=s.eH:=rfl;have q2:(bump s e).gP=s.gP:=rfl;have q3:(bump s e).dP=s.dP:=rfl;rw[p0,q0,q1,q2,q3];have r0:(e.N !=(dw s e.aJ).fZ)= !((dw s e.aJ).fZ==e.N):=by rw[PZ];simp;exact⟨λa b=>a b.symm,λa b=>a b.symm⟩
 rw[r0];generalize uZ s e.aJ s.aK.length=ot;cases ((dw s e.aJ).iY==e.N)with
 |true=>exact Ok.some rfl
 |false=>cases decide (s.gP<(c.fG.getD e.N.toNat aG).gP)with
  |true=>exact Ok.some rfl
  |false=>cases decide ((c.fG.getD e.N.toNat aG).dP<s.dP)with|true=>exact Ok.some rfl|false=>cases ((dw s e.aJ).fZ==e.N)with|true=>exact Ok.some rfl|false=>cases hasB s.jP e.N with|true=>exact Ok.some rfl|false=>cases (s.eH !=0)with|true=>exact Ok.some rfl|false=>cases decide (c.oz<=ot)<;>exact Ok.some rfl
theorem Pf{α:Type} [Inhabited α](p:α->Bool)(l:List α):l.any p=true ↔∃k,k<l.length/\p (l.getD k aG)=true:=by
 rw[Vl];constructor
 .rintro⟨x,hx,hp⟩;obtain⟨k,hk,rfl⟩:=xV hx;exact⟨k,hk,by simpa[fD,hk]using hp⟩
 .rintro⟨k,hk,hp⟩;exact⟨_,jw hk,hp⟩
theorem aKz(hl:s.aH.length<=1000):F5 e s.aH ((s.aH.length:Nat):Int) fuel 0=some (bif s.aH.any (Ae e)then 9 else 0):=by
 apply o8;refine jX (L:=λm (_:Unit) i=>F5 e s.aH (s.aH.length:Int) m i) (x:=()) s.aH.length ah (λk _=>∀j,j<k->Ae e (s.aH.getD j aG)=false) (λj hj=>ah) ?_ ?_
 .rintro m k x hk hI ih;show Ok (F5 e s.aH _ (m+1) k) _;rw[F5];simp (disch:=omega) only[eF,dJ,gL,bI];show Ok (bif Ae e (s.aH.getD k aG)then _ else _) _;cases hb:Ae e (s.aH.getD k aG)with
  |true=>have:s.aH.any (Ae e)=true:=(Pf _ _).2 ⟨k,hk,hb⟩;rw[this];exact Ok.some rfl
  |false=>
   exact ih () (λj hj=>by
    by_cases q:j=k
    .exact q▸hb
    .exact hI j ah)
 .rintro m x hI;show Ok (F5 e s.aH _ (m+1) _) _;rw[F5];simp (disch:=omega) only[fA];have:s.aH.any (Ae e)=false:=by cases hq:s.aH.any (Ae e)with|false=>rfl|true=>obtain⟨k,hk,hp⟩:=(Pf _ _).1 hq;rw[hI k hk]at hp;cases hp
  rw[this];exact Ok.some rfl
theorem aLu(h:VC c)(hv:VS c s)(ce:fI c e)(n:iq c e):Ok (UF s e) (λx=>EB (bump s e) e=uP x (tV (bump s e) e.aJ {dw s e.aJ with fZ:=e.N,qd:=e.aZ},0)):=by
 have h2:=sO hv ce;have hp:=hv.Bw;have htl:=hv.tl;have aP6:=h.tl;unfold UF Zc EB;have c0:∀i,dw (bump s e) i=dw s i:=λ_=>rfl;have hg2:(s.aK.getD e.aJ.toNat aG)=dw s e.aJ:=rfl;rw[dJ h2.1 h2.2,hg2];dsimp only;rw[c0,aKz ah];simp only[bE,Ls hp];have p0:vg (bump s e) e.N=hasB s.jP e.N:=rfl;have q0:(bump s e).aH=s.aH:=rfl;have q1:(bump s e).eH=s.eH:=rfl;rw[p0,q0,q1];have r0:(e.N !=(dw s e.aJ).iY)=((dw s e.aJ).iY !=e.N):=by rw[PZ];simp only[AX,ne_eq];exact⟨λa b=>a b.symm,λa b=>a b.symm⟩
 rw[r0];cases ((dw s e.aJ).iY !=e.N)with
 |true=>exact Ok.some rfl
 |false=>cases ((dw s e.aJ).fZ==(dw s e.aJ).iY)with
  |true=>exact Ok.some rfl
  |false=>cases hasB s.jP e.N with
   |true=>cases s.aH.any (Ae e)<;>exact Ok.some rfl
   |false=>cases (s.eH !=0)with|true=>exact Ok.some rfl|false=>cases s.aH.any (Ae e)<;>exact Ok.some rfl
theorem aJq(h:VC c)(hv:VS c s)(hk:0<=e.aZ/\e.aZ<=1073741824):FY c e s.aK ((s.aK.length:Nat):Int) fuel 0=some (bif s.aK.any (Aa c e)then 0 else 15):=by
 apply o8;have hcl:=hv.cl;have akc:=h.cl;refine jX (L:=λm (_:Unit) i=>FY c e s.aK (s.aK.length:Int) m i) (x:=()) s.aK.length ah (λk _=>∀j,j<k->Aa c e (s.aK.getD j aG)=false) (λj hj=>ah) ?_ ?_
 .rintro m k x hk2 hI ih;show Ok (FY c e s.aK _ (m+1) k) _;have hC:=(hv.oK _ (jw hk2)).sin;rw[FY];simp (disch:=omega) only[eF,dJ,gL,bI];show Ok (bif Aa c e (s.aK.getD k aG)then _ else _) _;cases hb:Aa c e (s.aK.getD k aG)with
  |true=>have:s.aK.any (Aa c e)=true:=(Pf _ _).2 ⟨k,hk2,hb⟩;rw[this];exact Ok.some rfl
  |false=>
   exact ih () (λj hj=>by
    by_cases q:j=k
    .exact q▸hb
    .exact hI j ah)
 .rintro m x hI;show Ok (FY c e s.aK _ (m+1) _) _;rw[FY];simp (disch:=omega) only[fA];have:s.aK.any (Aa c e)=false:=by cases hq:s.aK.any (Aa c e)with|false=>rfl|true=>obtain⟨k,hk,hp⟩:=(Pf _ _).1 hq;rw[hI k hk]at hp;cases hp
  rw[this];exact Ok.some rfl
theorem aKo(h:VC c)(hv:VS c s)(hk:0<=e.aZ/\e.aZ<=1073741824):Ok (Ux c s e) (λx=>Ei c (bump s e) e=uP x ({bump s e with jP:=ug .i64 s.jP (iL .i64 1 (IntKind.u64.wrap e.N))},0)):=by have hp:=hv.Bw;unfold Ux Ei;rw[aJq h hv hk];simp only[bE,Ls hp];have p0:vg (bump s e) e.N=hasB s.jP e.N:=rfl;have q0:(bump s e).aK=s.aK:=rfl;rw[p0,q0];cases hasB s.jP e.N with|true=>exact Ok.some rfl|false=>cases s.aK.any (Aa c e)<;>exact Ok.some rfl
theorem aIb(h:VC c)(hv:VS c s):FU c s s.aK ((s.aK.length:Nat):Int) fuel 0=some (bif s.aK.any (yC c s)then 13 else 0):=by
 apply o8;have hcl:=hv.cl;have akc:=h.cl;refine jX (L:=λm (_:Unit) i=>FU c s s.aK (s.aK.length:Int) m i) (x:=()) s.aK.length ah (λk _=>∀j,j<k->yC c s (s.aK.getD j aG)=false) (λj hj=>ah) ?_ ?_
 .rintro m k x hk2 hI ih;show Ok (FU c s s.aK _ (m+1) k) _;have hC:=hv.oK _ (jw hk2);rw[FU];simp (disch:=omega) only[eF,dJ,gL,bI,aje hC.run,aje hC.wan,bE,Qg];have e1:(decide ((c.fG.getD (s.aK.getD k aG).fZ.toNat aG).dP<=s.dP)||decide ((bif !decide ((c.fG.getD (s.aK.getD k aG).fZ.toNat aG).dP<=s.dP)then c.fG.getD (s.aK.getD k aG).iY.toNat aG else aG).dP<=s.dP))=yC c s (s.aK.getD k aG):=by unfold yC;cases decide ((c.fG.getD (s.aK.getD k aG).fZ.toNat aG).dP<=s.dP)<;>rfl
  rw[e1];cases hb:yC c s (s.aK.getD k aG)with
  |true=>have:s.aK.any (yC c s)=true:=(Pf _ _).2 ⟨k,hk2,hb⟩;rw[this];exact Ok.some rfl
  |false=>
   exact ih () (λj hj=>by
    by_cases q:j=k
    .exact q▸hb
    .exact hI j ah)
 .rintro m x hI;show Ok (FU c s s.aK _ (m+1) _) _;rw[FU];simp (disch:=omega) only[fA];have:s.aK.any (yC c s)=false:=by cases hq:s.aK.any (yC c s)with|false=>rfl|true=>obtain⟨k,hk,hp⟩:=(Pf _ _).1 hq;rw[hI k hk]at hp;cases hp
  rw[this];exact Ok.some rfl
theorem aI7(h:VC c)(hv:VS c s):Ok (Ug c s) (λx=>D7 c (bump s e)=uP x ({bump s e with dP:=s.dP+1},0)):=by unfold Ug D7;rw[aIb h hv];have q0:(bump s e).aK.any (yC c (bump s e))=s.aK.any (yC c s):=rfl;have q2:(bump s e).gP=s.gP:=rfl;have q3:(bump s e).dP=s.dP:=rfl;rw[q0,q2,q3];cases decide (s.gP<s.dP)with|true=>exact Ok.some rfl|false=>cases decide (30<=s.dP)with|true=>exact Ok.some rfl|false=>cases s.aK.any (yC c s)<;>exact Ok.some rfl
theorem aHe:Ok (TA s) (λx=>I5 (bump s e)=uP x ({bump s e with gP:=s.dP},0)):=by unfold TA I5;have q2:(bump s e).gP=s.gP:=rfl;have q3:(bump s e).dP=s.dP:=rfl;rw[q2,q3];cases (s.dP==s.gP)<;>exact Ok.some rfl
theorem aKY(hv:VS c s):Ok (KG s e) (λx=>Eu (bump s e) e=uP x ({bump s e with eH:=wm .i64 s.eH (iL .i64 1 (IntKind.u64.wrap e.dh))},0)):=by have hp:=hv.mM;unfold KG Eu;rw[Ls];simp only[bE];have q1:(bump s e).eH=s.eH:=rfl;rw[q1];cases (hasB s.eH e.dh==(e.N==1))<;>exact Ok.some rfl
theorem aH9{a n:Int}(ha:0<=a/\a<8)(hn:0<=n/\n<3):
  (hasB a n=false->ug .i64 a (iL .i64 1 n)=wm .i64 a (iL .i64 1 (IntKind.u64.wrap n)))/\(hasB a n=true->Lh .i64 a (iL .i64 1 n)=wm .i64 a (iL .i64 1 (IntKind.u64.wrap n))):=by
 have h1:a=0\/a=1\/a=2\/a=3\/a=4\/a=5\/a=6\/a=7:=ah
 have h2:n=0\/n=1\/n=2:=ah
 rcases h1 with rfl|rfl|rfl|rfl|rfl|rfl|rfl|rfl<;>rcases h2 with rfl|rfl|rfl<;>decide
end
section
variable {c:aM} {s:aN}
theorem anT(h:VC c){b:List Int}(hl:b.length=c.aK.length):∀(m k:Nat),c.aK.length - k<m->k<=c.aK.length->KO c b ((b.length:Nat):Int) m (sN c b k) (k:Int)=some (sN c b c.aK.length)
 |0,_,hm,_=>absurd hm (kJ _)
 |m+1,k,hm,hk=>by
  have hcl:=h.cl;have hol:=ahd c b k;rw[KO];(try simp only[gN,bG])
  by_cases hlt:k<c.aK.length
  .have i1:0<=(k:Int)/\(k:Int)<(b.length:Int):=ah;have i2:0<=(k:Int)/\(k:Int)<(c.aK.length:Int):=ah;rw[eY i1.2];simp only[aY,idx_eq i1,idx_eq i2,bE,gL];have next:KO c b (b.length:Int) m (sN c b (k+1)) (aQ ((k:Int)+1))=some (sN c b c.aK.length):=by rw[bIZ];have:=anT h hl m (k+1) ah ah;simpa using this
   simp only[sN]at next
   unfold Zj;(try simp only[gN,bG])
   have e0:b.getD k 0=b.getD k aG:=rfl;rw[e0]at next
   by_cases hc:(c.aK.getD k aG).mg<b.getD k aG
   .rw[bW hc]at next
    rw[eY hc,eY (show((sN c b k).length+ [(k:Int)].length)*8<=140737488355328 by simp;omega)];exact next
   .rw[dn hc]at next
    rw[fV hc];exact next
  .rw[fV (show¬(k:Int)<(b.length:Int)by omega)];have:k=c.aK.length:=ah;subst this;rfl
theorem aIj(h:VC c)(hl:s.aH.length=c.aH.length):UM c s=some (pQ c s):=by
 have hcl:=h.cl;unfold UM pQ;(try simp only[gN,bG])
 rw[Zy h hl];have:=anT h (OI c s) fuel 0 aB ah;simpa[sN]using this
end
section
variable {c:aM} {s:aN} {e:aP}
theorem aaJ{l:List bM}(hl:l.length<=1000:=by omega):JY l=some l:=by unfold JY;rw[mV (by simp only[xW];unfold room;omega)];rfl
theorem aaI{l:List gG}(hl:l.length<=1000:=by omega):JZ l=some l:=by unfold JZ;rw[mV (by simp only[xW];unfold room;omega)];rfl
def Qc(c:aM)(s:aN)(e:aP):Option (aN×Int):=
 (xK s e).bind λx2=>(qo e).bind λx3=>(bif x3 then UM c x2 else some aG).bind λx4=>
  bif(x3&&(decide (0<(x4.length:Int))))then(some (ajS,10))else(some (x2,0))
theorem OH:Cb c s e=(AB c s e).bind λx1=>bif x1 !=0 then some (ajS,x1)else Qc c s e:=rfl
theorem U8(h:VC c){S:aN}(he:xK s e=some S)(hb:qo e=some true)(hl:S.aH.length=c.aH.length):Qc c s e=some (nP c S):=by unfold Qc nP;rw[he,hb];simp only[bE,aY,aIj h hl,l6];cases decide (0<(((pQ c S).length:Nat):Int))<;>rfl
theorem zX{S:aN}(he:xK s e=some S)(hb:qo e=some false):Qc c s e=some (S,0):=by unfold Qc;rw[he,hb];rfl
theorem xM{x:Int}{R:aN×Int}(hr:AB c s e=some x)(hA:iB c s e=uP x R)(hE:Qc c s e=some R):Cb c s e=some (iB c s e):=by rw[OH,hr,hA];unfold uP;simp only[bE];cases (x !=0)with|true=>rfl|false=>exact hE
theorem ahv(h:VC c)(hv:VS c s)(ce:fI c e)(k:e.aL=9\/e.aL=10\/e.aL=11:=by omega):xK s e=(OB s.aK e.aJ.toNat e).bind λx=>some {bump s e with aK:=x}:=by have h2:=sO hv ce;have htl:=hv.tl;have hcl:=hv.cl;have a1:=h.tl;have a2:=h.cl;have hcnt:=hv.cnt;unfold xK KD Ay;rw[aaJ,aaI,bIZ];simp only[bE];rcases k with k|k|k<;>(simp only[k,Int.reduceBEq,aY,aX];rw[dJ h2.1 h2.2];rfl)
theorem Gm(h:VC c)(hv:VS c s)(t:d9 c e)(k:1<=e.aL/\e.aL<=8:=by omega):xK s e=(Az s.aH e.aI.toNat e).bind λx=>some {bump s e with aH:=x}:=by
 have h1:=nQ hv t;have htl:=hv.tl;have hcl:=hv.cl;have a1:=h.tl;have a2:=h.cl;have hcnt:=hv.cnt;have n:∀q:Int,9<=q->(e.aL==q)=false:=λq hq=>ay
 unfold xK KD Ay;rw[aaJ,aaI,bIZ];simp only[bE,n 9 ah,n 10 ah,n 11 ah,n 12 ah,n 13 ah,n 14 ah,n 15 ah,n 16 ah,aX];rw[dJ h1.1 h1.2];rfl
theorem U1(h:VC c)(hv:VS c s):(e.aL=12->0<=e.N->xK s e=some {bump s e with jP:=ug .i64 s.jP (iL .i64 1 e.N)})∧
  (e.aL=13->0<=e.dh->xK s e=some {bump s e with eH:=bif e.N==1 then ug .i64 s.eH (iL .i64 1 e.dh)else Lh .i64 s.eH (iL .i64 1 e.dh)})∧
  (e.aL=14->xK s e=some {bump s e with dP:=s.dP+1})/\(e.aL=15->xK s e=some {bump s e with gP:=s.dP})/\(e.aL=16->xK s e=some (bump s e)):=by
 have htl:=hv.tl;have hcl:=hv.cl;have a1:=h.tl;have a2:=h.cl;have hcnt:=hv.cnt;have hlh:=hv.lh;unfold xK KD Ay;rw[aaJ,aaI,bI (x:=s.eP+1) ah ah];have wh:aQ (s.dP+1)=s.dP+1:=bIZ;simp only[bE,wh];refine⟨λk hn=> ?_,λk hn=> ?_,λk=> ?_,λk=> ?_,λk=> ?_⟩
 .simp only[k,Int.reduceBEq,aY,aX];rw[mV hn];rfl
 .simp only[k,Int.reduceBEq,aY,aX];rw[mV hn,mV hn];cases (e.N==1)<;>rfl
 .simp only[k,Int.reduceBEq,aY,aX];rfl
 .simp only[k,Int.reduceBEq,aY,aX];rfl
 .simp only[k,Int.reduceBEq,aY,aX];rfl
theorem aHs(h:VC c)(hv:VS c s)(hb:Bb c e=true)(h4:s.eP<4096)(h5:s.aZ<=e.aZ):AB c s e=DF c s e false:=by
 unfold AB;rw[Um h,hb];have e1:((s.aH.length:Int) !=(c.aH.length:Int))=false:=by rw[hv.tl];simp
 have e2:((s.aK.length:Int) !=(c.aK.length:Int))=false:=by rw[hv.cl];simp
 rw[e1,e2];rfl
theorem VH{x:bM}(hv:VS c s){i:Int}:(gX (bump s e) i x).aH.length=c.aH.length:=by show(s.aH.set i.toNat x).length=_;rw[oQ];exact hv.tl
theorem an7(h:VC c)(hI:Inv c s):Cb c s e=some (iB c s e):=by have hv:=hI.vs;have hcnt:=hv.cnt;cases hb:Bb c e with
 |false=>
  have hr:AB c s e=some 1:=by unfold AB DF;rw[Um h,hb];rfl
  rw[OH,hr];unfold iB;rw[hb];rfl
 | true =>
  have hV:=((valid_eq (e:=e) h).2).1 hb;by_cases h4:4096<=s.eP
  .have hr:AB c s e=some 2:=(by unfold AB;rw[Um h,hb];have e1:((s.aH.length:Int) !=(c.aH.length:Int))=false:=(by rw[hv.tl];simp);have e2:((s.aK.length:Int) !=(c.aK.length:Int))=false:=(by rw[hv.cl];simp);rw[e1,e2];unfold DF;simp only[bE,gI,aX];rw[eF h4]);rw[OH,hr];unfold iB;rw[hb,eY h4];rfl
  .by_cases h5:e.aZ<s.aZ
   .have hr:AB c s e=some 3:=(by unfold AB;rw[Um h,hb];have e1:((s.aH.length:Int) !=(c.aH.length:Int))=false:=(by rw[hv.tl];simp);have e2:((s.aK.length:Int) !=(c.aK.length:Int))=false:=(by rw[hv.cl];simp);rw[e1,e2];unfold DF;simp only[bE,gI,aX];rw[fA h4,eF h5]);rw[OH,hr];unfold iB;rw[hb,fV h4,eY h5];rfl
   .have hA :iB c s e=Af c (bump s e) e:=(by unfold iB;rw[hb,fV h4,fV h5];rfl);have hR:=aHs h hv hb ah ah
    have hkk:DF c s e false=(bif(e.aL==1)then((Uw c s e).bind λx2=>(some x2))else(bif(e.aL==4)then((TY c s e).bind λx3=>(some x3))
      else(bif(e.aL==5)then((Uy s e).bind λx4=>(some x4))else(bif(e.aL==6)then((TW c s e).bind λx5=>(some x5))else(bif(e.aL==7)then((TV s e).bind λx6=>(some x6))
      else(bif(e.aL==8)then((UG s e).bind λx7=>(some x7))else(bif(e.aL==2)then((KW c s e).bind λx8=>(some x8))else(bif(e.aL==3)then((UW s e).bind λx9=>(some x9))
      else(bif(e.aL==9)then((UE s e).bind λx10=>(some x10))else(bif(e.aL==10)then((UH c s e).bind λbU=>(some bU))else(bif(e.aL==11)then((UF s e).bind λbV=>(some bV))
      else(bif(e.aL==12)then((Ux c s e).bind λdG=>(some dG))else(bif(e.aL==13)then((KG s e).bind λdD=>(some dD))else(bif(e.aL==14)then((Ug c s).bind λfu=>(some fu))
      else(bif(e.aL==15)then((TA s).bind λgZ=>(some gZ))else(some 0)))))))))))))))):=by
     unfold DF;rw[aX,fA h4,fA h5]
    rw[hkk]at hR;have bs:∀{m:Option Int} {P:Int->Prop},Ok m P→∃x,(m.bind λy=>some y)=some x/\P x:=(by rintro m P ⟨x,rfl,hx⟩;exact⟨x,rfl,hx⟩);unfold Af at hA;have hn:∀(t:d9 c e),e.aI.toNat<s.aH.length:=λt=>(by have:=nQ hv t;omega);have hc:∀(t:fI c e),e.aJ.toNat<s.aK.length:=λt=>(by have:=sO hv t;omega);cases hV.2 with
    |place k t ce o w n=>
     simp only[k,Int.reduceBEq,aY,aX]at hR hA;obtain⟨x,x1,x2⟩:=bs (aKm h hv t ce ⟨o.1,o.2.1⟩);refine xM (by rw[hR,x1]) (by rw[hA,x2]) (U8 h ?_ ?_ (VH hv))
     .rw[Gm h hv t];unfold Az;simp only[k,Int.reduceBEq,aY,aX,bG,pY (hn t),tu,bE,oQ];rfl
     .unfold qo rE;simp only[k,Int.reduceBEq,aY,aX]
    | grant k t ce o ep w n=>
     simp only[k,Int.reduceBEq,aY,aX]at hR hA;obtain⟨x,x1,x2⟩:=bs (aJ1 h hv t ce hV.1 w);by_cases hx:x=0
     .subst hx;refine xM (x:=0) (by rw[hR,x1]) (by rw[hA,x2]) (U8 h ?_ ?_ (VH hv))
      .rw[Gm h hv t];unfold Az af8;have hcl:e.aJ=(aO s e.aI).bL\/e.aJ=(aO s e.aI).bB\/e.aJ=(aO s e.aI).dN:=by
        have hb2:((((e.aJ !=(aO s e.aI).bL)&&(e.aJ !=(aO s e.aI).bB))&&(e.aJ !=(aO s e.aI).dN)))=false:=(by cases hq:(((e.aJ !=(aO s e.aI).bL)&&(e.aJ !=(aO s e.aI).bB))&&(e.aJ !=(aO s e.aI).dN))with|false=>rfl|true=>exfalso;have hgs:∃k:Int,k≠0/\KW c s e=some k:=(by have h1:=nQ hv t;have h2:=sO hv ce;unfold KW TD;have hg:(s.aH.getD e.aI.toNat aG)=aO s e.aI:=rfl;rw[dJ h1.1 h1.2,dJ h2.1 h2.2,hg];have hq2:(((!(e.aJ==(aO s e.aI).bL))&&(e.aJ !=(aO s e.aI).bB))&&(e.aJ !=(aO s e.aI).dN))=true:=hq;rw[hq2];cases (aO s e.aI).dZ with|false=>exact⟨4,ak,rfl⟩|true=>cases ((aO s e.aI).fC&&(e.aJ !=(aO s e.aI).bB))with|true=>exact⟨4,ak,rfl⟩|false=>exact⟨5,ak,rfl⟩);obtain⟨k',k1,k2⟩:=hgs;rw[k2]at x1;exact k1 (rM x1));rcases Gy (e.aJ=(aO s e.aI).bL)with q|q
        .exact .inl q
        .rcases Gy (e.aJ=(aO s e.aI).bB)with q2|q2
         .exact .inr (.inl q2)
         .refine .inr (.inr ?_);have a1:(e.aJ !=(aO s e.aI).bL)=true:=(aD q);have a2:(e.aJ !=(aO s e.aI).bB)=true:=(aD q2);rw[a1,a2]at hb2;simpa using hb2
       simp only[k,Int.reduceBEq,aY,aX,bG,pY (hn t),tu,oQ];have hg:(s.aH.getD e.aI.toNat aG)=aO s e.aI:=rfl;rw[hg];unfold wH;dsimp only;rcases Gy (e.aJ=(aO s e.aI).bL)with q|q
       .have a1:(e.aJ==(aO s e.aI).bL)=true:=(aD q);rw[a1];rfl
       .have a1:(e.aJ==(aO s e.aI).bL)=false:=(aD q);rw[a1];rcases Gy (e.aJ=(aO s e.aI).bB)with q2|q2
        .have a2:(e.aJ==(aO s e.aI).bB)=true:=(aD q2);rw[a2];rfl
        .have a2:(e.aJ==(aO s e.aI).bB)=false:=(aD q2);have a3:(e.aJ==(aO s e.aI).dN)=true:=by
          rcases hcl with z|z|z
          .exact absurd z q
          .exact absurd z q2
          .simpa using z
         rw[a2,a3];rfl
      .unfold qo rE;simp only[k,Int.reduceBEq,aY,aX]
     .have hx':(x !=0)=true:=(aD hx);rw[OH,hR,x1,hA,x2];unfold uP;rw[bE,hx'];rfl
    |cut k t ce o ep w n=>
     simp only[k,Int.reduceBEq,aY,aX]at hR hA;obtain⟨x,x1,x2⟩:=bs (aLS hv t);refine xM (by rw[hR,x1]) (by rw[hA,x2]) (zX ?_ ?_)
     .have hk:=hV.1;rw[Gm h hv t];unfold Az;rw[bI (x:=e.aZ+1) ah ah];simp only[k,Int.reduceBEq,aY,aX,bG,pY (hn t),tu,bE,oQ];rfl
     .unfold qo rE;simp only[k,Int.reduceBEq,aY,aX]
    |jB k t ce o w n=>
     simp only[k,Int.reduceBEq,aY,aX]at hR hA;obtain⟨x,x1,x2⟩:=bs (aII h hI t ce ah);refine xM (by rw[hR,x1]) (by rw[hA,x2]) ?_;have hE:xK s e=some (gX (bump s e) e.aI {aO s e.aI with Next:=e.aJ}):=(by rw[Gm h hv t];unfold Az;simp only[k,Int.reduceBEq,aY,aX,bG,pY (hn t),tu,bE,oQ];rfl);by_cases hc:e.aJ<0
     .rw[eF hc];refine zX hE ?_;have:e.aJ= -1:=ah;unfold qo rE;simp only[k,this,Int.reduceBEq,Int.reduceBNe,aY,aX]
     .rw[fA hc];refine U8 h hE ?_ (VH hv);have:(e.aJ !=(-1))=true:=(by rw[Lr ce.1];exact eY ah);unfold qo rE;simp only[k,this,Int.reduceBEq,aY,aX]
    |ready k t ce o w n=>
     simp only[k,Int.reduceBEq,aY,aX]at hR hA;obtain⟨x,x1,x2⟩:=bs (aKt h hv t ce);refine xM (by rw[hR,x1]) (by rw[hA,x2]) (zX ?_ ?_)
     .rw[Gm h hv t];unfold Az;simp only[k,Int.reduceBEq,aY,aX,bG,pY (hn t),tu,bE,oQ];rfl
     .unfold qo rE;simp only[k,Int.reduceBEq,aY,aX]
    |migrate k t ce o w n=>
     simp only[k,Int.reduceBEq,aY,aX]at hR hA;obtain⟨x,x1,x2⟩:=bs (aIl h hv t ce);refine xM (by rw[hR,x1]) (by rw[hA,x2]) (U8 h ?_ ?_ (VH hv))
     .rw[Gm h hv t];unfold Az;simp only[k,Int.reduceBEq,aY,aX,bG,pY (hn t),tu,bE,oQ];rfl
     .unfold qo rE;simp only[k,Int.reduceBEq,aY,aX]
    |abandon k t ce o w n=>
     simp only[k,Int.reduceBEq,aY,aX]at hR hA;obtain⟨x,x1,x2⟩:=bs (aHZ hv t);refine xM (by rw[hR,x1]) (by rw[hA,x2]) (zX ?_ ?_)
     .rw[Gm h hv t];unfold Az;simp only[k,Int.reduceBEq,aY,aX,bG,pY (hn t),tu,bE,oQ];rfl
     .unfold qo rE;simp only[k,Int.reduceBEq,aY,aX]
    |shed k t ce o w n=>
     simp only[k,Int.reduceBEq,aY,aX]at hR hA;obtain⟨x,x1,x2⟩:=bs (aLA h hv t n);refine xM (by rw[hR,x1]) (by rw[hA,x2]) ?_;rcases n with n|n
     .rw[n];simp only[Int.reduceBEq,aX];refine U8 h ?_ ?_ (VH hv)
      .rw[Gm h hv t];unfold Az;simp only[k,n,Int.reduceBEq,aY,aX,bG,pY (hn t),tu,bE,oQ];rfl
      .unfold qo rE;simp only[k,n,Int.reduceBEq,aY,aX]
     .rw[n];simp only[Int.reduceBEq,aY];refine zX ?_ ?_
      .rw[Gm h hv t];unfold Az;simp only[k,n,Int.reduceBEq,aY,aX,bG,pY (hn t),tu,bE,oQ];rfl
      .unfold qo rE;simp only[k,n,Int.reduceBEq,aY,aX]
    |mode k t ce o w n=>
     simp only[k,Int.reduceBEq,aY,aX]at hR hA;obtain⟨x,x1,x2⟩:=bs (aLh hv ce);refine xM (by rw[hR,x1]) (by rw[hA,x2]) (zX ?_ ?_)
     .rw[ahv h hv ce];unfold OB;simp only[k,Int.reduceBEq,aY,aX,bG,pY (hc ce),tu,bE,oQ];rfl
     .unfold qo rE;simp only[k,Int.reduceBEq,aY,aX]
    |want k t ce o w n=>
     simp only[k,Int.reduceBEq,aY,aX]at hR hA;obtain⟨x,x1,x2⟩:=bs (aLH h hv ce n);refine xM (by rw[hR,x1]) (by rw[hA,x2]) (zX ?_ ?_)
     .rw[ahv h hv ce];unfold OB;simp only[k,Int.reduceBEq,aY,aX,bG,pY (hc ce),tu,bE,oQ];rfl
     .unfold qo rE;simp only[k,Int.reduceBEq,aY,aX]
    |runs k t ce o w n=>
     simp only[k,Int.reduceBEq,aY,aX]at hR hA;obtain⟨x,x1,x2⟩:=bs (aLu h hv ce n);refine xM (by rw[hR,x1]) (by rw[hA,x2]) (zX ?_ ?_)
     .rw[ahv h hv ce];unfold OB;simp only[k,Int.reduceBEq,aY,aX,bG,pY (hc ce),tu,bE,oQ];rfl
     .unfold qo rE;simp only[k,Int.reduceBEq,aY,aX]
    |prove k t ce o w n=>
     simp only[k,Int.reduceBEq,aY,aX]at hR hA;obtain⟨x,x1,x2⟩:=bs (aKo h hv hV.1);unfold iq at n;have hvl:=h.vl;refine xM (by rw[hR,x1]) (by rw[hA,x2]) (zX ?_ ?_)
     .rw[(U1 h hv).1 k n.1,Lv n.1 ah]
     .unfold qo rE;simp only[k,Int.reduceBEq,aY,aX]
    |mM k t ce o w n=>
     simp only[k,Int.reduceBEq,aY,aX]at hR hA;obtain⟨x,x1,x2⟩:=bs (aKY (e:=e) hv);have ql:=h.reg;have hev:=hv.mM;obtain⟨q1,q2⟩:=aH9 (a:=s.eH) (n:=e.dh) ah ah;have hbk:qo e=some false:=(by unfold qo rE;simp only[k,Int.reduceBEq,aY,aX]);by_cases hx:x=0
     .subst hx;refine xM (x:=0) (by rw[hR,x1]) (by rw[hA,x2]) (zX ?_ hbk);rw[(U1 h hv).2.1 k o.1];have hs:hasB s.eH e.dh≠(e.N==1):=(by intro hq;have:KG s e=some 4:=(by unfold KG;rw[Ls,bE,hq];simp);rw[this]at x1;cases x1);cases hq:(e.N==1)with|true=>rw[hq]at hs;have:hasB s.eH e.dh=false:=(aD hs);rw[aY,q1 this]|false=>rw[hq]at hs;have:hasB s.eH e.dh=true:=(aD hs);rw[aX,q2 this]
     .have hx':(x !=0)=true:=(aD hx);rw[OH,hR,x1,hA,x2];unfold uP;rw[bE,hx'];rfl
    |expand k t ce o w n=>simp only[k,Int.reduceBEq,aY,aX]at hR hA;obtain⟨x,x1,x2⟩:=bs (aI7 (e:=e) h hv);refine xM (by rw[hR,x1]) (by rw[hA,x2]) (zX ((U1 h hv).2.2.1 k) ?_);unfold qo rE;simp only[k,Int.reduceBEq,aY,aX]
    |contract k t ce o w n=>simp only[k,Int.reduceBEq,aY,aX]at hR hA;obtain⟨x,x1,x2⟩:=bs (aHe (s:=s) (e:=e));refine xM (by rw[hR,x1]) (by rw[hA,x2]) (zX ((U1 h hv).2.2.2.1 k) ?_);unfold qo rE;simp only[k,Int.reduceBEq,aY,aX]
    |note k t ce o w n=>simp only[k,Int.reduceBEq,aY,aX]at hR hA;refine xM (x:=0) (R:=(bump s e,0)) hR (by rw[hA];rfl) (zX ((U1 h hv).2.2.2.2 k) ?_);unfold qo rE;simp only[k,Int.reduceBEq,aY,aX]
end
section
variable {c:aM} {s:aN} {e:aP}
theorem an8(h:VC c)(hI:Inv c s):Uv c s e=some (iB c s e).2:=by unfold Uv;rw[an7 h hI];rfl
end
section
variable {c:aM} {s:aN} {e:aP}
theorem aIJ{s':aN}(h:Step c s e s'):s'.aZ=e.aZ/\s'.eP=s.eP+1:=by cases h<;>exact⟨rfl,rfl⟩
theorem UC(h:VC c)(hz:(iB c s e).2=0):(iB c s e).1.aZ=e.aZ/\(iB c s e).1.eP=s.eP+1:=aIJ (ZP h hz).2.2.2
structure RL(c:aM)(s:aN)(out:List aP)(n:Nat):Prop where
 ok:yJ c (newS c) out
 run:yD c (newS c) out=s
 len:out.length<=n
 tk:s.aZ<=20000*(out.length:Int)
 ct:s.eP=(out.length:Int)
theorem RL.up{out:List aP}{n n':Nat}(h:RL c s out n)(hn:n<=n'):RL c s out n':=⟨h.ok,h.run,vv h.len hn,h.tk,h.ct⟩
theorem RL.vs(hc:VC c){out:List aP}{n:Nat}(h:RL c s out n):VS c s:=by rw[<-h.run];exact aLt hc _ _ (arY hc) h.ok
theorem RL.inv(hc:VC c){out:List aP}{n:Nat}(h:RL c s out n):Inv c s:=by rw[<-h.run];exact aiq hc _ _ (Vd hc) h.ok
theorem RL.snoc(hc:VC c){out:List aP}{n:Nat}(h:RL c s out n)(hz:(iB c s e).2=0)(ht:e.aZ<=s.aZ+20000):RL c (iB c s e).1 (out++ [e]) (n+1):=by
 obtain⟨t1,t2⟩:=UC hc hz;have h1:=h.tk;have h2:=h.ct;refine⟨aKj out e _ h.ok (by rw[h.run];exact hz),by rw[aay,h.run],by have:=h.len;simp;omega,?_,?_⟩
 .rw[t1];simp only[qp,qM];push_cast;omega
 .rw[t2,h2];simp
theorem RL.new(h:VC c):RL c (newS c) [] 0:=⟨trivial,rfl,gy _,by show(0:Int)<=20000*0;omega,rfl⟩
theorem ai7(h:VC c){n:Nat}(hn:n<=1000):∀(m:Nat) (T:eU) (s:aN) (out:List aP),TB T 300->RL c s out n->(400-T.At).toNat<m→
  Ok (Uo c (n:Int) m T s out) (λr=>∃s',RL c s' r n)
 |0,_,_,_,_,_,hm=>absurd hm (kJ _)
 |m+1,T,s,out,hT,hr,hm=>by
  have hlo:=hT.lo;have hhi:=hT.hi;have hln:=hT.ln;have hl:=hr.len;have hv:=hr.vs h;have hI:=hr.inv h;rw[Uo];unfold af4;simp only[pX,bE];refine Ok.cond (λhc=> ?_) (λ_=>Ok.some ⟨s,hr⟩);have hlt:(out.length:Int)<(n:Int)/\T.At<(T.L.length:Int):=by cases hd:decide ((out.length:Int)<(n:Int))with
   |false=>rw[hd]at hc;cases hc
   |true=>rw[hd]at hc;simp only[l6,aY]at hc;exact⟨iX hd,iX hc⟩
  rw[eY hlt.1];simp only[aY];have hT':TB T 200:=⟨hT.el,hT.ln,hT.lo,ah⟩;unfold agu;have hle:=h.yt;refine Ok.bind (aI4 h hv hT' ah (B:=s.aZ+10004) ah (λx hx=> ?_)) (λr1 q1=> ?_)
  .obtain⟨i,hi,rfl⟩:=xV hx;have:=(hI.t i hi).wl;have e:s.aH[i]=s.aH.getD i aG:=(by simp[fD,hi]);rw[e];omega
  refine Ok.zy (aIP h hv) ?_;have hA:T.At+1<=r1.2.At:=q1.2.2.1 ah;have hT2:TB r1.2 300:=q1.1.up ah;have hB:r1.2.At<=300:=hT2.hi;refine Ok.cond (λh0=>Ok.bq (dT (by show _<=140737488355328;simp;omega)) ?_) (λ_=> ?_)
  .have h0:(iB c s r1.1).2=0:=(aD h0);have hs:=hr.snoc h h0 (by have:=q1.2.2.2;omega);refine ai7 h hn m _ _ _ hT2 ⟨hs.ok,hs.run,ay,hs.tk,hs.ct⟩ ah
  .exact ai7 h hn m _ _ _ hT2 hr ah
theorem aqN(h:VC c){l:List Int}(hl:JK l){n:Nat}(hn:n<=1000):Ok (U5 l c (n:Int)) (λr=>∃s',RL c s' r n):=by unfold U5 U6;have hT:TB {L:=l,At:=0} 300:=⟨hl.1,hl.2,jh 0,by show(0:Int)<=300;omega⟩;refine Ok.zy rfl (Ok.zy (aLi h) ?_);exact ai7 h hn fuel _ (newS c) [] hT ((RL.new h).up ah) (by rw[iP];simp)
end
section
variable {c:aM} {s:aN}
end
def RS(c:aM)(s:aN):Prop:=∃out,RL c s out 100
section
variable {c:aM} {s:aN}
theorem RS.inv(h:VC c)(hr:RS c s):Inv c s:=by obtain⟨o,q⟩:=hr;exact q.inv h
theorem RS.bS(hr:RS c s):s.aZ<=2000000:=by obtain⟨o,q⟩:=hr;have:=q.tk;have:=q.len;omega
theorem RS.cnt(hr:RS c s):s.eP<=100:=by obtain⟨o,q⟩:=hr;have:=q.ct;have:=q.len;omega
end
structure PC(c:aM)(i:Nat):Prop where
 reg:2<=c.gK/\c.gK<=3
 ir:(i:Int)<=c.gK
 zl:c.iM.length=i
 z:∀k,k<i->(c.iM.getD k aG).Region=k
 cl:i<=c.aK.length/\c.aK.length<=2*i
 oK:∀x∈c.aK,0<=x.uJ/\x.uJ<(i:Int)/\1<=x.mg/\x.mg<=4194304
 c0:0<i->(c.aK.getD 0 aG).uJ=0
 vl:c.fG.length=3
 v:∀x∈c.fG,0<=x.gP/\x.gP<=x.dP/\x.dP<=30
 v0:(c.fG.getD 0 aG).gP=0
 ob:c.jW=[0]
 blast:1<=c.oz/\c.oz<=16
 yt:2<=c.iQ/\c.iQ<=8
 bake:0<=c.o7/\c.o7<=10000
structure MC(c:aM):Prop where
 vc:VC c
 r0:jG c 0=0
 tl:2<=c.aH.length/\c.aH.length<=8
 cl:c.aK.length<=6
 reg:2<=c.gK
 vl:c.fG.length=3
 yt:2<=c.iQ/\c.iQ<=8

def zE:aP:={aL:=0,aZ:=0,aI:=0,aJ:=0,dh:=0,bP:=0,From:=0,bY:=0,N:=0:aP}
def gE(c:aM)(s:aN)(i t:Int):aP:={aL:=2,aZ:=t,aI:=i,aJ:=(aO s i).bB,dh:=(-1),bP:=(aO s i).bP+1,From:=t,bY:=t+c.iQ,N:=(dw s (aO s i).bB).fZ:aP}
def ace(c:aM)(s:aN)(i t:Int):aP×Int:=
 bif(((decide (i<0))||(decide ((c.aH.length:Int)<=i)))||(decide (t<0)))||(decide (1073741824<t))then(zE,1)
 else bif(!(aO s i).dZ)||decide ((aO s i).bB<0)then(zE,4)
 else bif(iB c s (gE c s i t)).2 !=0 then(zE,(iB c s (gE c s i t)).2)
 else(gE c s i t,0)
section
variable {c:aM} {s:aN}
theorem aLX(hc:VC c)(hI:Inv c s)(i t:Int):YN c s i t=some (ace c s i t):=by have hv:=hI.vs;have htl:=hv.tl;have hle:=hc.yt;unfold YN ace;cases hb:((((decide (i<0))||(decide ((c.aH.length:Int)<=i)))||(decide (t<0)))||(decide (1073741824<t)))with|true=>rfl|false=>simp only[nW,zx]at hb;obtain⟨⟨⟨b1,b2⟩,b3⟩,b4⟩:=hb;have hts:TS c (aO s i):=hv.t _ (jw (xs:=s.aH) (i:=i.toNat) ah);have h1:=hts.sb;have h2:=hts.ep;have hcl:=hv.cl;simp only[aX];have eT:s.aH.getD i.toNat aG=aO s i:=rfl;rw[fAZ,dJZ,eT];show(bif(((!(aO s i).dZ)||(decide ((aO s i).bB<0)))||(decide ((s.aK.length:Int)<=(aO s i).bB)))then _ else _)=_;rw[dF (show¬(s.aK.length:Int)<=(aO s i).bB by omega),qc];cases hq:((!(aO s i).dZ)||decide ((aO s i).bB<0))with|true=>rfl|false=>simp only[nW,zx]at hq;obtain⟨_,hq⟩:=hq;simp only[aX];rw[dJZ];rw[bI (x:=(aO s i).bP+1) ah ah,bI (x:=t+c.iQ) ah ah,an8 hc hI,bE];show(bif(iB c s (gE c s i t)).2 !=0 then some (zE,(iB c s (gE c s i t)).2)else some _)=_;cases ((iB c s (gE c s i t)).2 !=0)<;>rfl
def fo1(c:aM)(s:aN)(i t:Int):bM:=
 {dZ:=true,fC:=false,bL:=(aO s i).bB,bB:= -1,Next:= -1,dN:= -1,bP:=(aO s i).bP+1,dV:={aJ:=(aO s i).bB,bP:=(aO s i).bP+1,sW:=(dw s (aO s i).bB).fZ,From:=t,bY:=t+c.iQ}}
structure aP2(c:aM)(s:aN)(i t:Int):Prop where
 ir:0<=i/\i<(s.aH.length:Int)
 tr:0<=t/\t<=1073741824
 pl:(aO s i).dZ=true
 sb:0<=(aO s i).bB
 ap:iB c s (gE c s i t)=(gX (bump s (gE c s i t)) i (fo1 c s i t),0)
 wu:(aO s i).dV.bY<=t
 nh:(aO s i).bB≠(aO s i).bL
 rg:jG c (aO s i).bB≠jG c (aO s i).bL
theorem aKB{x:bM}{e:aP}{i:Int}{j:Nat}(hj:i.toNat≠j):(gX (bump s e) i x).aH.getD j aG=s.aH.getD j aG:=by show(s.aH.set i.toNat x).getD j aG=_;simp[fD,xU,hj]
end
section
variable {c:aM}
end
section
variable {c:aM} {s:aN}
def pcF(s:aN):Nat->List Int
 |0=> []
 |k+1=>bif(s.aK.getD k aG).fZ !=(s.aK.getD k aG).iY then pcF s k++ [(k:Int)]else pcF s k
def ajR(bS:Int)(k:Nat)(n:Int):aP:={aL:=10,aZ:=bS,aI:= -1,aJ:=(k:Int),dh:= -1,bP:=0,From:=0,bY:=0,N:=n}
def qP(c:aM)(s:aN)(bS:Int):Nat->List aP×aN
 |0=>([],s)
 |k+1=>bif(s.aK.getD k aG).fZ==(s.aK.getD k aG).iY then qP c s bS k
  else bif(iB c (qP c s bS k).2 (ajR bS k (s.aK.getD k aG).fZ)).2==0 then
   ((qP c s bS k).1++ [ajR bS k (s.aK.getD k aG).fZ],(iB c (qP c s bS k).2 (ajR bS k (s.aK.getD k aG).fZ)).1)
  else qP c s bS k
structure UP(c:aM)(s:aN)(bS:Int)(k:Nat):Prop where
 inv:Inv c (qP c s bS k).2
 len:(qP c s bS k).1.length<=k
 cl:(qP c s bS k).2.aK.length=s.aK.length
 ge:∀j,k<=j->(qP c s bS k).2.aK.getD j aG=s.aK.getD j aG
 ok:yJ c s (qP c s bS k).1
 run:yD c s (qP c s bS k).1=(qP c s bS k).2
 ten:(qP c s bS k).2.aH=s.aH
 pr:(qP c s bS k).2.jP=s.jP
 ev:(qP c s bS k).2.eH=s.eH
 lo:(qP c s bS k).2.gP=s.gP
 hi:(qP c s bS k).2.dP=s.dP
 kd:∀x∈(qP c s bS k).1,x.aL=10
structure UA(c:aM)(s:aN)(bS:Int)(k:Nat):Prop where
 map:(qP c s bS k).1.map (·.aJ)=pcF s k
 lt:∀j,j<k->(qP c s bS k).2.aK.getD j aG={s.aK.getD j aG with iY:=(s.aK.getD j aG).fZ}
 tk:s.aZ<=(qP c s bS k).2.aZ/\(qP c s bS k).2.aZ<=bS
 ct:(qP c s bS k).2.eP<=s.eP+k
end
end Go.CP
namespace Go.CP
open Go
structure Db(lt:Int->Int->Bool):Prop where
 QX:∀x,lt x x=false
 tr:∀x y z,lt x y=true->lt y z=true->lt x z=true
 tot:∀x y,x≠y->lt x y=true\/lt y x=true
section
variable {lt:Int->Int->Bool}
theorem Db.asym(h:Db lt){x y:Int}(a:lt x y=true):lt y x=false:=by rcases hb:lt y x with _|_;rfl;have:=h.tr x y x a hb;rw[h.QX]at this;cases this
theorem Db.ne(h:Db lt){x y:Int}(a:lt x y=true):x≠y:=by rintro rfl;rw[h.QX]at a;cases a
theorem Db.V5(h:Db lt){x y:Int}(a:lt y x=false):x=y\/lt x y=true:=by
 by_cases e:x=y
 .exact .inl e
 .rcases h.tot x y e with q|q
  .exact .inr q
  .rw[a]at q;cases q
theorem aqk(h:Db lt){cmp:Int->Int->Option Int}{xs:List Int}(hl:xs.length<4611686018427387904)(hc:∀x∈xs,∀y∈xs,∃q,cmp x y=some q/\decide (q<0)=lt x y):
  Ok (EC cmp xs) (λl=>l.Pairwise (λx y=>lt y x=false)/\(∀y,y∈l ↔ y∈xs)/\l.length=xs.length):=by
 have hlt:∀x∈xs,∀y∈xs,qZ cmp x y=lt x y:=by intro x hx y hy;obtain⟨q,e,d⟩:=hc x hx y hy;unfold qZ;rw[e];exact d
 have nt:∀x y z,lt x y=false->lt y z=false->lt x z=false:=by
  intro x y z a b;rcases h.V5 a with e|e
  .subst e;exact b
  .rcases h.V5 b with e'|e'
   .subst e';exact a
   .exact h.asym (h.tr _ _ _ e' e)
 unfold EC;rw[mV hl,gU,gU]
 .refine Ok.some ?_;have e:xs.mergeSort (λx y=> !qZ cmp y x)=xs.mergeSort (λx y=> !lt y x):=by have:=aiJ (r:=λx y=> !qZ cmp y x) (s:=λx y=> !lt y x) (f:=λx:Int=>x) (l:=xs) (λa ha b hb=>by rw[hlt b hb a ha]);simpa using this
  rw[e];refine⟨?_,λy=>List.mem_mergeSort,aiG _⟩
  have:=List.pairwise_mergeSort (le:=λx y=> !lt y x) (λa b c h1 h2=>by
   have h1:lt b a=false:=(aD h1);have h2:lt c b=false:=(aD h2);have:=nt c b a h2 h1
   simp[this]) (λa b=>by
   rcases q:lt b a with _|_;rfl
   rw[h.asym q];rfl) xs
  exact this.imp (λ{a b} q=>aD q)
 .unfold ab1;rw[j6];intro x hx;rw[dQ,j6];refine⟨by rw[hlt x hx x hx,h.QX];rfl,λy hy=> ?_⟩;rw[dQ,j6];refine⟨?_,λz hz=> ?_⟩
  .rw[hlt x hx y hy,hlt y hy x hx];by_cases e:x=y
   .subst e;simp
   .rcases h.tot x y e with q|q<;>rw[q]<;>simp
  .rw[hlt x hx y hy,hlt y hy z hz,hlt x hx z hz];have t1:=h.tr x y z;have t2:=nt x y z;cases h1:lt x y<;>cases h2:lt y z<;>cases h3:lt x z<;>simp_all
 .rw[j6];intro x hx;rw[j6];intro y hy;obtain⟨q,e,_⟩:=hc x hx y hy;rw[e];rfl
theorem apU{xs:List Int}{y:Int}:y∈xs ↔∃j,j<xs.length/\xs.getD j aG=y:=by
 rw[List.mem_iff_getElem];constructor
 .rintro⟨j,hj,e⟩;exact⟨j,hj,by simp[fD,hj,e]⟩
 .rintro⟨j,hj,e⟩;exact⟨j,hj,by simpa[fD,hj]using e⟩
theorem aIY(h:Db lt){xs:List Int}(hp:xs.Pairwise (λx y=>lt y x=false)):(jU xs).Pairwise (λx y=>lt x y=true)∧∀y,y∈jU xs ↔ y∈xs:=by
 have hp':∀i j,i<j->j<xs.length->lt (xs.getD j aG) (xs.getD i aG)=false:=by intro i j hij hj;have:=aro.1 hp i j ah hj hij;simpa[fD,hj,show i<xs.length by omega]using this
 have key:∀m,m<=xs.length->(GA xs m).Pairwise (λx y=>lt x y=true)∧∀y,y∈GA xs m ↔∃j,j<m/\xs.getD j aG=y:=by intro m;induction m with
  |zero=>intro _;exact⟨List.Pairwise.nil,λy=>⟨λhy=>absurd hy nU,λ⟨j,hj,_⟩=>absurd hj (kJ _)⟩⟩
  | succ m ih=> intro hm;obtain⟨i1,i2⟩:=ih ah;rw[GA];cases hb:(Nat.beq m 0||(xs.getD m aG !=xs.getD (m - 1) aG))with
   |true=>
    simp only[aY];refine⟨?_,λy=> ?_⟩
    .rw[List.pairwise_append];refine⟨i1,List.pairwise_singleton _ _,λy hy a ha=> ?_⟩;rw[oV]at ha;subst ha;obtain⟨j,hj,e⟩:=(i2 y).1 hy;have hne:xs.getD m aG≠xs.getD (m-1) aG:=by
      rw[pO]at hb;rcases hb with q|q
      .have:=eG q;omega
      .simpa using q
     have h1:lt (xs.getD (m-1) aG) (xs.getD m aG)=true:=by
      rcases h.V5 (hp' (m-1) m ah ah)with q|q
      .exact absurd q.symm hne
      .exact q
     by_cases e2:j=m-1
     .subst e2;rw[<-e];exact h1
     .rcases h.V5 (hp' j (m-1) ah ah)with q|q
      .rw[<-e,q];exact h1
      .rw[<-e];exact h.tr _ _ _ q h1
    .rw[oU,oV,i2];constructor
     .rintro(⟨j,hj,e⟩|e)
      .exact⟨j,ah,e⟩
      .exact⟨m,ah,e.symm⟩
     .rintro⟨j,hj,e⟩;by_cases e2:j=m
      .subst e2;exact .inr e.symm
      .exact .inl ⟨j,ah,e⟩
   |false=>
    simp only[aX,nE];refine⟨i1,λy=> ?_⟩;rw[i2];rw[nW]at hb;have hm0:m≠0:=(by rintro rfl;simp at hb);have he:xs.getD m aG=xs.getD (m-1) aG:=(aD hb.2);constructor
    .rintro⟨j,hj,e⟩;exact⟨j,ah,e⟩
    .rintro⟨j,hj,e⟩;by_cases e2:j=m
     .subst e2;exact⟨j-1,ah,by rw[<-he];exact e⟩
     .exact⟨j,ah,e⟩
 obtain⟨k1,k2⟩:=key xs.length (gy _);exact⟨k1,λy=>(k2 y).trans apU.symm⟩
end
end Go.CP
namespace Go.CP
open Go
variable [Fuel]
def Qi(a b:Int):Int:=if a<b then -1 else if b<a then 1 else 0
theorem aoj(a b:Int):cmp_Compare_int a b=some (Qi a b):=by
 unfold cmp_Compare_int cmp_isNaN_int Qi;simp only[bE,jT,aX];by_cases h1:a<b
 .simp[h1]
 .by_cases h2:b<a
  .simp[h1,h2]
  .simp[h1,h2]
theorem Vz{α:Type}{a b:Int}{x y:α}(h:a≠b):(bif a !=b then x else y)=x:=by
 have:(a !=b)=true:=by rw[AX];exact h
 rw[this];rfl
theorem abq{α:Type}{a:Int}{x y:α}:(bif a !=a then x else y)=y:=by rw[jT];rfl
theorem Pg(a b:Int):decide (Qi a b<0)=decide (a<b):=by
 unfold Qi;by_cases h1:a<b
 .simp[h1]
 .by_cases h2:b<a
  .simp[h1,h2]
  .simp[h1,h2]
theorem aaK(a b:Int):(Qi a b !=0)=(a !=b):=by
 unfold Qi;by_cases h1:a<b
 .rw[bW h1];have:a≠b:=ah
  simp[this]
 .by_cases h2:b<a
  .rw[dn h1,bW h2];have:a≠b:=ah;simp[this]
  .rw[dn h1,dn h2];have:a=b:=ah;simp[this]
section
variable {c:aM}
end
def tn(c:aM)(i:Int):iG:=c.aH.getD i.toNat aG
def Qf(c:aM)(x y:Int):Bool:=
  bif(tn c x).gM !=(tn c y).gM then decide ((tn c x).gM<(tn c y).gM)
  else bif(tn c x).eD !=(tn c y).eD then decide ((tn c y).eD<(tn c x).eD)else decide (x<y)
theorem aan(c:aM)(x y:Int):Qf c x y=true ↔ (tn c x).gM<(tn c y).gM\/((tn c x).gM=(tn c y).gM/\((tn c y).eD<(tn c x).eD\/((tn c x).eD=(tn c y).eD/\x<y))):=by
  unfold Qf;generalize (tn c x).gM=a;generalize (tn c y).gM=b;generalize (tn c x).eD=d;generalize (tn c y).eD=e;by_cases h1:a=b
  · subst h1;by_cases h2:d=e
    · subst h2;simp
    · simp[h2]
  · simp[h1]
theorem ahn(c:aM):Db (Qf c):=by
  refine⟨λx=> ?_,λx y z h1 h2=> ?_,λx y hne=> ?_⟩
  · rw[abN];intro h;rw[aan]at h;omega
  · rw[aan]at h1 h2⊢;omega
  · rw[aan,aan];omega
theorem ar2(a b d:Int):KX [a,b,d]=some (if a≠0 then a else if b≠0 then b else d):=by
  obtain⟨m,hm⟩:∃m,fuel=m+4:=⟨fuel-4,by rw[iP]⟩;unfold KX;rw[hm];have l3:(([a,b,d].length:Nat):Int)=3:=rfl;have w1:aQ (0+1)=1:=ak
  have w2:aQ (1+1)=2:=ak
  have w3:aQ (2+1)=3:=ak
  rw[l3,KI,eF ak,dJ ak (by rw[l3];decide),w1,KI,eF ak,dJ ak (by rw[l3];decide),w2,KI,eF ak,dJ ak (by rw[l3];decide),w3,KI,fA ak];show(bif a !=0 then some a else bif b !=0 then some b else bif d !=0 then some d else some 0)=_;by_cases h1:a=0
  · subst h1;by_cases h2:b=0
    · subst h2;by_cases h3:d=0
      · subst h3;rfl
      · rw[abq,abq,Vz h3];rfl
    · rw[abq,Vz h2,dn aj,bW h2]
  · rw[Vz h1,bW h1]
theorem aqy(a b d:Int):decide ((if a≠0 then a else if b≠0 then b else d)<0)=(bif a !=0 then decide (a<0)else bif b !=0 then decide (b<0)else decide (d<0)):=by
  by_cases h1:a=0
  · subst h1;by_cases h2:b=0
    · subst h2;rfl
    · rw[abq,Vz h2,dn aj,bW h2]
  · rw[Vz h1,bW h1]
section
variable {c:aM}
def inT(c:aM)(l:List Int)(y:Int):Prop:=0<=y/\y<(c.aH.length:Int)/\y∈l
structure ajT(c:aM)(l out:List Int):Prop where
  so:out.Pairwise (λx y=>Qf c x y=true)
  mem:∀y,y∈out ↔ inT c l y
  len:out.length<=1000
theorem aJz{x y:Int}(hx:0<=x/\x<((c.aH.length:Nat):Int))(hy:0<=y/\y<((c.aH.length:Nat):Int)):∃q,Oz x y c=some q/\decide (q<0)=Qf c x y:=by
  unfold Oz;simp only[dJ hx.1 hx.2,dJ hy.1 hy.2,aoj,bE,ar2];refine⟨_,rfl,?_⟩;rw[aqy,Pg,Pg,Pg,aaK,aaK];unfold Qf;show(bif(tn c x).gM !=(tn c y).gM then _ else bif(tn c y).eD !=(tn c x).eD then decide ((tn c y).eD<(tn c x).eD)else _)=_;have:((tn c y).eD !=(tn c x).eD)=((tn c x).eD !=(tn c y).eD):=by
    by_cases e:(tn c y).eD=(tn c x).eD
    · rw[e]
    · have e':(tn c x).eD≠(tn c y).eD:=λq=>e q.symm;rw[(AX).2 e,(AX).2 e']
  rw[this];rfl
theorem aKl{l:List Int}(hl:l.length<=1000):Ok (KZ c l) (ajT c l):=by
  unfold KZ;refine jX (L:=λm x i=>F4 c l (l.length:Int) m x i) l.length ah (λk x=>x.length<=k∧∀y,y∈x ↔ (0<=y/\y<(c.aH.length:Int)∧∃j,j<k/\l.getD j aG=y)) ⟨zu _,λy=>⟨λh=>absurd h nU,λ⟨_,_,j,hj,_⟩=>absurd hj (kJ _)⟩⟩ ?_ ?_
  · rintro m k x hk ⟨h1,h2⟩ ih;show Ok (F4 c l _ (m+1) x k) _;rw[F4];unfold Zb;simp (disch:=omega) only[eF,dJ,gL,bI];cases hq:((decide (0<=l.getD k aG))&&(decide (l.getD k aG<((c.aH.length:Nat):Int))))with
    | true=>
      rw[dQ,ow,ow]at hq;simp only[aY];rw[mV (by simp only[qM];unfold room;omega)];refine ih _ ⟨ay,λy=> ?_⟩;rw[oU,oV,h2];constructor
      · rintro(⟨a,b,j,hj,e⟩|e)
        · exact⟨a,b,j,ah,e⟩
        · subst e;exact⟨hq.1,hq.2,k,ah,rfl⟩
      · rintro⟨a,b,j,hj,e⟩;by_cases e2:j=k
        · subst e2;exact .inr e.symm
        · exact .inl ⟨a,b,j,ah,e⟩
    | false=>
      simp only[aX];refine ih _ ⟨ah,λy=> ?_⟩;rw[h2];constructor
      · rintro⟨a,b,j,hj,e⟩;exact⟨a,b,j,ah,e⟩
      · rintro⟨a,b,j,hj,e⟩;by_cases e2:j=k
        · subst e2;subst e;rw[eY a,eY b]at hq;cases hq
        · exact⟨a,b,j,ah,e⟩
  · rintro m x ⟨h1,h2⟩;show Ok (F4 c l _ (m+1) x _) _;rw[F4];simp (disch:=omega) only[fA];unfold afC aeA
    obtain⟨s,es,p1,p2,p3⟩:=aqk (ahn c) (cmp:=λx y=>Oz x y c) (xs:=x) ah (λa ha b hb=>by
      have ha:=(h2 a).1 ha;have hb:=(h2 b).1 hb
      exact aJz ⟨ha.1,ha.2.1⟩ ⟨hb.1,hb.2.1⟩)
    rw[es];show Ok ((bq (decide (s.length<4611686018427387904)) (some (jU s))).bind _) _;rw[mV];obtain⟨q1,q2⟩:=aIY (ahn c) p1
    refine Ok.some ⟨q1, fun y => ?_, by have:(jU s).length<=s.length:=ag2 s s.length
                                        omega⟩
    rw[q2,p2,h2];unfold inT;rw[apU]
end
def QM(c:aM)(x y:Int):Bool:=
 bif(tn c x).gM !=(tn c y).gM then decide ((tn c y).gM<(tn c x).gM)
 else bif(tn c x).eD !=(tn c y).eD then decide ((tn c y).eD<(tn c x).eD)else decide (x<y)
theorem aaE(c:aM)(x y:Int):QM c x y=true ↔ (tn c y).gM<(tn c x).gM\/((tn c x).gM=(tn c y).gM/\((tn c y).eD<(tn c x).eD\/((tn c x).eD=(tn c y).eD/\x<y))):=by
 unfold QM;generalize (tn c x).gM=a;generalize (tn c y).gM=b;generalize (tn c x).eD=d;generalize (tn c y).eD=e;by_cases h1:a=b
 .subst h1;by_cases h2:d=e
  .subst h2;simp
  .simp[h2]
 .simp[h1]
theorem ahP(c:aM):Db (QM c):=by
 refine⟨λx=> ?_,λx y z h1 h2=> ?_,λx y hne=> ?_⟩
 .rw[abN];intro h;rw[aaE]at h;omega
 .rw[aaE]at h1 h2⊢;omega
 .rw[aaE,aaE];omega
section
variable {c:aM}
structure ab7(c:aM)(out:List Int):Prop where
 so:out.Pairwise (λx y=>QM c x y=true)
 mem:∀y,y∈out ↔ 0<=y/\y<(c.aH.length:Int)
 len:out.length=c.aH.length
theorem ab7.nodup{o:List Int}(h:ab7 c o):o.Nodup:=h.so.imp (λq=>(ahP c).ne q)
theorem aKK{x y:Int}(hx:0<=x/\x<(c.aH.length:Int))(hy:0<=y/\y<(c.aH.length:Int)):∃q,KH x y c=some q/\decide (q<0)=QM c x y:=by
 unfold KH;simp only[dJ hx.1 hx.2,dJ hy.1 hy.2,aoj,bE,ar2];refine⟨_,rfl,?_⟩;rw[aqy,Pg,Pg,Pg,aaK,aaK];unfold QM;have sw:∀a b:Int,(a !=b)=(b !=a):=by
  intro a b;by_cases e:a=b
  .rw[e]
  .have e':b≠a:=λq=>e q.symm;rw[(AX).2 e,(AX).2 e']
 rw[sw (tn c x).gM,sw (tn c x).eD];rfl
theorem aIr{lt:Int->Int->Bool}(h:Db lt){xs:List Int}(hp:xs.Pairwise (λx y=>lt y x=false))(hn:xs.Nodup):xs.Pairwise (λx y=>lt x y=true):=by
 refine(hp.and hn).imp (λ{a b} q=> ?_);rcases h.V5 q.1 with e|e
 .exact absurd e q.2
 .exact e
theorem aEE(hc:VC c):Ok (KR c) (ab7 c):=by
 have hct:=hc.tl;unfold KR;rw[mV];refine jX (L:=λm x i=>II c (c.aH.length:Int) m x i) c.aH.length ah (λk x=>x.length=k/\x.Nodup∧∀y,y∈x ↔ (0<=y/\y<(k:Int))) ⟨rfl,aiM,λy=>⟨λh=>absurd h nU,λ⟨a,b⟩=>ah⟩⟩ ?_ ?_
 .rintro m k x hk ⟨h1,h2,h3⟩ ih;show Ok (II c _ (m+1) x k) _;rw[II,eFZ,mV (by simp only[qM];unfold room;omega),bIZ];refine ih _ ⟨by simp[h1],?_,λy=> ?_⟩
  .rw[Jh];refine⟨h2,aj,λa ha b hb e=> ?_⟩;rw[oV]at hb;have:=(h3 a).1 ha;omega
  .rw[oU,oV,h3];omega
 .rintro m x ⟨h1,h2,h3⟩;show Ok (II c _ (m+1) x _) _;rw[II,fAZ];unfold afc;obtain⟨s,es,p1,p2,p3⟩:=aqk (ahP c) (cmp:=λx y=>KH x y c) (xs:=x) ah (λa ha b hb=>aKK ((h3 a).1 ha) ((h3 b).1 hb));have hperm:s.Nodup:=by have hs:EC (λx y=>KH x y c) x=some s:=es;obtain⟨_,_,_,rfl⟩:=aoC hs;exact(List.mergeSort_perm _ _).nodup_iff.2 h2
  rw[es];exact Ok.some ⟨aIr (ahP c) p1 hperm,λy=>by rw[p2,h3],by rw[p3,h1]⟩
end
section
variable {c:aM} {s:aN}
theorem apG{l:List Int}{k:Nat}(hk:k<l.length):l.drop k=l.getD k aG::l.drop (k+1):=by rw[D9 hk];simp[fD,hk]
theorem aMm(hc:VC c){i:Int}(hi:0<=i/\i<(c.aH.length:Int)):0<=(tn c i).eD/\(tn c i).eD<=65536:=by have:=yM hc (k:=i.toNat) ah;exact⟨this.1,this.2.1⟩
theorem aiW(hc:VC c){k:Nat}(hk:k<c.aK.length):1<=(c.aK.getD k aG).mg/\(c.aK.getD k aG).mg<=4194304:=by have:=hc.oK _ (jw hk);exact⟨this.2.2.1,this.2.2.2⟩
end
section
variable {j i:Nat}
def sK(t:bM):mG:={nG:=t.dZ&& !t.fC,lU:=t.bL,jB:=t.bB,next:=t.Next,xY:=t.dN}
def jf(c:aM)(s:aN)(ts:List bM):List Int:=rZ c {s with aH:=ts}
def sit(c:aM)(s:aN)(ts:List bM):j4:={dY:=c,state:=s,dL:=ts.map sK,dM:=jf c s ts}
def kY(t:bM):Bool:=t.dZ&& !t.fC
def rU(c:aM)(s:aN)(k:Int):Bool:=(decide (0<=k)&&decide (k<(c.aK.length:Int)))&&(((dw s k).ig==1)&&((dw s k).fZ==(dw s k).iY))&& !o9 c s k
def pU(t:bM)(x:eu):bM:=
 bif x.aL==1 then {t with fC:=true,dN:= -1}else {t with bL:=x.aJ,bB:= -1,Next:= -1,dN:= -1}
def nS(ts:List bM)(x:eu):List bM:=ts.set x.aI.toNat (pU (ts.getD x.aI.toNat aG) x)
def nX(c:aM)(s:aN)(ts:List bM)(x:eu):Bool:=
 (decide (0<=x.aI)&&decide (x.aI<(ts.length:Int)))&&(decide (0<=x.aJ)&&decide (x.aJ<(c.aK.length:Int)))&&kY (ts.getD x.aI.toNat aG)&&
  ((x.aL==1&&(ts.getD x.aI.toNat aG).bL==x.aJ)||(x.aL==2&&(ts.getD x.aI.toNat aG).bB==x.aJ&&rU c s x.aJ))
structure GS(c:aM)(ts:List bM):Prop where
 len:ts.length=c.aH.length
 t:∀x∈ts,TS c x
section
variable {c:aM} {s:aN} {ts:List bM}
theorem GS.at(h:GS c ts){i:Nat}(hi:i<ts.length):TS c (ts.getD i aG):=h.t _ (jw hi)
theorem VS.gs(h:VS c s):GS c s.aH:=⟨h.tl,h.t⟩
theorem GS.set(h:GS c ts){i:Nat}{t:bM}(ht:TS c t):GS c (ts.set i t):=
 ⟨by rw[oQ];exact h.len,λx hx=>by
  rcases Gs hx with q|q
  .exact h.t x q
  .rw[q];exact ht⟩
theorem uI(c:aM)(s:aN)(ts:List bM):(jf c s ts).length=c.aK.length:=OI _ _
theorem abn(hj:j<c.aK.length):(jf c s ts).getD j 0=qW c ts j ts.length:=agF hj
theorem asx(hc:VC c)(hg:GS c ts):∀x∈jf c s ts,0<=x/\x<=8388608:=aH5 hc (s:={s with aH:=ts}) hg.len
theorem abQ(hc:VC c)(hg:GS c ts){j:Nat}(hj:j<c.aK.length):0<=(jf c s ts).getD j 0/\(jf c s ts).getD j 0<=8388608:=
 asx hc hg _ (by
  have:j<(jf c s ts).length:=by rw[uI];exact hj
  exact jw (xs:=jf c s ts) this)
theorem Vv{t:bM}(hi:i<ts.length)(hj:j<c.aK.length):
  (jf c s (ts.set i t)).getD j 0=(jf c s ts).getD j 0+(dl t (c.aH.getD i aG) j-dl (ts.getD i aG) (c.aH.getD i aG) j):=by
 rw[abn hj,abn hj,aix hi,oQ,bW hi]
theorem as2{a b:List Int}(hl:a.length=b.length)(h:∀j,j<b.length->a.getD j 0=b.getD j 0):a=b:=by apply aa1 hl;intro j h1 h2;have:=h j h2;simpa[fD,h1,h2]using this
theorem ahF(hi:i<ts.length):(ts.map sK).getD i aG=sK (ts.getD i aG):=by simp[fD,hi]
theorem aK4(hc:VC c)(hv:VS c s){k:Int}(hk:0<=k/\k<(c.aK.length:Int)):0<=jG c k/\jG c k<3:=by unfold jG;rw[bW hk];have h1:=hc.oK _ (jw (xs:=c.aK) (i:=k.toNat) ah);have h2:=hc.z _ (jw (xs:=c.iM) (i:=(c.aK.getD k.toNat aG).uJ.toNat) ah);have:=hc.reg;omega
theorem ahT(hc:VC c)(hv:VS c s)(k:Int):IE c s k=some (rU c s k):=by
 unfold IE rU;have hcl:=hv.cl;by_cases hk:0<=k/\k<(c.aK.length:Int)
 .have e:((decide (k<0)||decide ((c.aK.length:Int)<=k))||decide ((s.aK.length:Int)<=k))=false:=by rw[fV ah,fV ah,fV ah];rfl
  have hr:=aK4 hc hv hk;have hev:=hv.mM;rw[e,aX,dJ hk.1 ah,I4 hc,bE,eY hk.1,eY hk.2];rw[Lv ah ah,aqx ah];have hb:(je .i64 (iJ .i64 s.eH (jG c k)) 1==0)= !o9 c s k:=by
   unfold o9 hasB;rw[ait ah hr.1,Cm ah,eY (show 0<=jG c k/\jG c k<62 by omega),l6];generalize s.eH / 2^(jG c k).toNat=z;by_cases h1:z%2=1
   .rw[h1];rfl
   .have:z%2=0:=ah;rw[this];rfl
  rw[hb,eY hr.1];simp only[Gx,l6];rfl
 .have e:((decide (k<0)||decide ((c.aK.length:Int)<=k))||decide ((s.aK.length:Int)<=k))=true:=by
   by_cases h1:k<0
   .rw[eY h1];rfl
   .rw[eY (show(c.aK.length:Int)<=k by omega)];simp
  rw[e,aY];have e2:(decide (0<=k)&&decide (k<(c.aK.length:Int)))=false:=by
   by_cases h1:0<=k
   .rw[fV (show¬k<(c.aK.length:Int)by omega)];simp
   .rw[fV h1];rfl
  rw[e2];rfl
def WS(l:List Int)(b:Int):Prop:=∀x∈l,-b<=x/\x<=b
theorem Pb{l:List Int}{b i n:Int}(h:WS l b)(hb:0<=b)(hn: -65536<=n/\n<=65536):WS (qg l i n) (b+65536):=by
 unfold qg;split
 .rename_i hi;intro x hx;rcases Gs hx with q|q
  .have:=h x q;omega
  .have:=h _ (jw (xs:=l) (i:=i.toNat) ah);have e:l.getD i.toNat 0=l.getD i.toNat aG:=rfl;rw[q,e];omega
 .intro x hx;have:=h x hx;omega
theorem P7{p:j4}{b i n:Int}(h:WS p.dM b)(hb:b<=1000000000)(hn: -65536<=n/\n<=65536:=by omega):Fw p i n=some {p with dM:=qg p.dM i n}:=by
 unfold Fw qg;by_cases hi:0<=i/\i<(p.dM.length:Int)
 .rw[eY hi.1,eY hi.2,bW hi];have:=h _ (jw (xs:=p.dM) (i:=i.toNat) ah);simp only[Ad,aY,dJ hi.1 hi.2,bG];rw[bIZ];rfl
 .rw[dn hi];have:(decide (0<=i)&&decide (i<(p.dM.length:Int)))=false:=by
   by_cases h1:0<=i
   .rw[fV (show¬i<(p.dM.length:Int)by omega)];simp
   .rw[fV h1];rfl
  rw[this];rfl
theorem aqw(hg:GS c ts){i:Nat}(hi:i<ts.length)(ha:kY (ts.getD i aG)=true):
  qg (qg (jf c s ts) (ts.getD i aG).bL (0-(c.aH.getD i aG).eD)) (ts.getD i aG).dN (0-(c.aH.getD i aG).eD)=jf c s (ts.set i {ts.getD i aG with fC:=true,dN:= -1}):=by
 apply as2
 .rw[rF,rF,uI,uI]
 .intro j hj;rw[uI]at hj;unfold kY at ha;rw[dQ,wQ]at ha;rw[AP _ _ _ (by rw[rF,uI];exact hj),AP _ _ _ (by rw[uI];exact hj),Vv hi hj];unfold dl;simp only[ha.1,ha.2,l5,nH,mJ];have e:∀(k n:Int),hit k (0-n) j= - hit k n j:=by intro k n;unfold hit;split<;>omega
  have n1:∀n:Int,hit (-1) n j=0:=λn=>Pn ah j;rw[e,e];(try simp only[n1]);omega
theorem aqv(hg:GS c ts){i:Nat}(hi:i<ts.length)(ha:kY (ts.getD i aG)=true):
  qg (qg (qg (qg (jf c s ts) (ts.getD i aG).bL (0-(c.aH.getD i aG).eD)) (ts.getD i aG).dN (0-(c.aH.getD i aG).eD)) (ts.getD i aG).Next (0-(c.aH.getD i aG).kK)) (ts.getD i aG).bB ((c.aH.getD i aG).eD-(c.aH.getD i aG).kK)=jf c s (ts.set i {ts.getD i aG with bL:=(ts.getD i aG).bB,bB:= -1,Next:= -1,dN:= -1}):=by
 apply as2
 .rw[rF,rF,rF,rF,uI,uI]
 .intro j hj;rw[uI]at hj;unfold kY at ha;rw[dQ,wQ]at ha;rw[AP _ _ _ (by rw[rF,rF,rF,uI];exact hj),AP _ _ _ (by rw[rF,rF,uI];exact hj),AP _ _ _ (by rw[rF,uI];exact hj),AP _ _ _ (by rw[uI];exact hj),Vv hi hj];unfold dl;simp only[ha.1,ha.2,l5,nH,mJ];have e:∀(k n:Int),hit k (0-n) j= - hit k n j:=by intro k n;unfold hit;split<;>omega
  have e2:∀(k a b:Int),hit k (a-b) j=hit k a j-hit k b j:=by intro k a b;unfold hit;split<;>omega
  have n1:∀n:Int,hit (-1) n j=0:=λn=>Pn ah j;rw[e,e,e,e2];simp only[n1];omega
theorem as1(hc:VC c)(hg:GS c ts):WS (jf c s ts) 8388608:=λx hx=>by have:=asx hc hg x hx;omega
theorem map_set{t:bM}:(ts.set i t).map sK=(ts.map sK).set i (sK t):=aa7
theorem abV{n:Int}(h:0<=n/\n<=65536):IntKind.i64.wrap (0-n)=0-n:=bI (x:=0-n) ah ah
theorem aLE(hc:VC c)(hv:VS c s)(hg:GS c ts)(x:eu):XT (sit c s ts) x=some (nX c s ts x,sit c s (bif nX c s ts x then nS ts x else ts)):=by
 have hgl:=hg.len;unfold XT;have hsl:(sit c s ts).dL.length=ts.length:=by simp[sit]
 have hbl:(sit c s ts).dM.length=c.aK.length:=uI _ _ _;rw[hsl,hbl];by_cases hr:(0<=x.aI/\x.aI<(ts.length:Int))/\(0<=x.aJ/\x.aJ<(c.aK.length:Int))
 .obtain⟨h1,h2⟩:=hr;have e:((((decide (x.aI<0))||(decide (((ts.length:Nat):Int)<=x.aI)))||(decide (x.aJ<0)))||(decide (((c.aK.length:Nat):Int)<=x.aJ)))=false:=by rw[fV ah,fV ah,fV ah,fV ah];rfl
  have hi:x.aI.toNat<ts.length:=ah
  have hd:=yM hc (k:=x.aI.toNat) ah;have hts:=hg.at hi;rw[e,aX,dJ h1.1 (by show x.aI<(c.aH.length:Int);omega),dJ h1.1 (by rw[hsl];exact h1.2)];have yh:(sit c s ts).dL.getD x.aI.toNat aG=sK (ts.getD x.aI.toNat aG):=ahF hi;rw[yh];have ep:nX c s ts x=(kY (ts.getD x.aI.toNat aG)&&((x.aL==1&&(ts.getD x.aI.toNat aG).bL==x.aJ)||(x.aL==2&&(ts.getD x.aI.toNat aG).bB==x.aJ&&rU c s x.aJ))):=by unfold nX;rw[eY h1.1,eY h1.2,eY h2.1,eY h2.2];rfl
  have b0:=as1 (s:=s) hc hg;have b1:=Pb (i:=(ts.getD x.aI.toNat aG).bL) (n:=0-(c.aH.getD x.aI.toNat aG).eD) b0 ah ah;have b2:=Pb (i:=(ts.getD x.aI.toNat aG).dN) (n:=0-(c.aH.getD x.aI.toNat aG).eD) b1 ah ah;have b3:=Pb (i:=(ts.getD x.aI.toNat aG).Next) (n:=0-(c.aH.getD x.aI.toNat aG).kK) b2 ah ah;have aMA:(sit c s ts).dY=c:=rfl;have aMK:(sit c s ts).state=s:=rfl;rw[aMA];cases ha:kY (ts.getD x.aI.toNat aG)with
  |false=>rw[ha]at ep;have ha':(sK (ts.getD x.aI.toNat aG)).nG=false:=ha;rw[ep];simp only[ha',jQ,En,aY,nu,aX,gI,bE];cases (x.aL==1)<;>cases (x.aL==2)<;>rfl
  |true=>
   rw[ha,l6]at ep;have ha':(sK (ts.getD x.aI.toNat aG)).nG=true:=ha;have hho:(sK (ts.getD x.aI.toNat aG)).lU=(ts.getD x.aI.toNat aG).bL:=rfl;have hst:(sK (ts.getD x.aI.toNat aG)).jB=(ts.getD x.aI.toNat aG).bB:=rfl;rw[abV ⟨hd.1,hd.2.1⟩,abV ⟨hd.2.2.1,hd.2.2.2⟩];simp only[ha',hho,hst,gI,kW];by_cases k1:x.aL=1
   .have kb:(x.aL==1)=true:=(aD k1);have Mw:(x.aL==2)=false:=(by rw[k1];rfl);rw[kb,Mw,l6,nu,nu,qc]at ep;rw[kb,aY];by_cases hh:(ts.getD x.aI.toNat aG).bL=x.aJ
    .have eb:((ts.getD x.aI.toNat aG).bL !=x.aJ)=false:=(by rw[hh];simp);have Mt:((ts.getD x.aI.toNat aG).bL==x.aJ)=true:=(by rw[hh];simp);rw[Mt]at ep;rw[eb,aX,ep];rw[P7 (p:=sit c s ts) (b:=8388608) b0 ah ah];simp only[bE,bG,yh];rw[P7 (b:=8388608+65536) b1 ah ah];simp only[bE,yh,aY];unfold Ro;have es:∀y:mG,(((sit c s ts).dL.set x.aI.toNat y).getD x.aI.toNat aG)=y:=λy=>pY (by rw[hsl];exact hi);rw[es,tu];congr 2;unfold sit nS pU;rw[kb,aY,map_set];have hs2:sK {ts.getD x.aI.toNat aG with fC:=true,dN:= -1}={sK (ts.getD x.aI.toNat aG)with nG:=false,xY:= -1}:=(by unfold sK;simp);rw[hs2];have:=aqw (s:=s) hg hi ha;simp only;congr 1
    .have eb:((ts.getD x.aI.toNat aG).bL !=x.aJ)=true:=(aD hh);have Mt:((ts.getD x.aI.toNat aG).bL==x.aJ)=false:=(aD hh);rw[Mt]at ep;rw[eb,aY,ep];rfl
   .have kb:(x.aL==1)=false:=(aD k1);rw[kb,nu,kW]at ep;rw[kb,aX];by_cases k2:x.aL=2
    .have Mw:(x.aL==2)=true:=(aD k2);rw[Mw,l6]at ep;rw[Mw,aY];by_cases hh:(ts.getD x.aI.toNat aG).bB=x.aJ
     .have eb:((ts.getD x.aI.toNat aG).bB !=x.aJ)=false:=(by rw[hh];simp);have Mt:((ts.getD x.aI.toNat aG).bB==x.aJ)=true:=(by rw[hh];simp);rw[Mt,l6]at ep;rw[eb,jQ,aY,aMK,ahT hc hv,bE,kW,hh];rcases hu:rU c s x.aJ with _|_;rw[hu]at ep;rw[ep];rfl;rw[hu]at ep;rw[gI,aX,ep];rw[P7 (p:=sit c s ts) (b:=8388608) b0 ah ah];simp only[bE,bG,yh];rw[P7 (b:=8388608+65536) b1 ah ah];simp only[bE,yh];rw[P7 (b:=8388608+65536+65536) b2 ah ah];simp only[bE,yh];rw[bIZ,P7 (b:=8388608+65536+65536+65536) b3 ah ah];simp only[bE,yh,aY];unfold Ro;congr 2;have hbm:=aqv (s:=s) hg hi ha;unfold sit nS pU;rw[kb,aX,map_set];simp only;have he:({ts.getD x.aI.toNat aG with bL:=(ts.getD x.aI.toNat aG).bB,bB:= -1,Next:= -1,dN:= -1}:bM)={ts.getD x.aI.toNat aG with bL:=x.aJ,bB:= -1,Next:= -1,dN:= -1}:=(by rw[hh]);rw[he]at hbm;have ai5:sK {ts.getD x.aI.toNat aG with bL:=x.aJ,bB:= -1,Next:= -1,dN:= -1}={nG:=true,lU:=x.aJ,jB:= -1,next:= -1,xY:= -1:mG}:=(by unfold sK;unfold kY at ha;simp only[ha]);rw[ai5];congr 1
     .have eb:((ts.getD x.aI.toNat aG).bB !=x.aJ)=true:=(aD hh);have Mt:((ts.getD x.aI.toNat aG).bB==x.aJ)=false:=(aD hh);rw[Mt,nu]at ep;rw[eb,ep];rfl
    .have Mw:(x.aL==2)=false:=(aD k2);rw[Mw,nu,nu]at ep;rw[Mw,aX,ep];rfl
 .have e:((((decide (x.aI<0))||(decide ((ts.length:Int)<=x.aI)))||(decide (x.aJ<0)))||(decide ((c.aK.length:Int)<=x.aJ)))=true:=by simp only[pO,ow];omega
  have ep:nX c s ts x=false:=by unfold nX;have:((decide (0<=x.aI)&&decide (x.aI<(ts.length:Int)))&&(decide (0<=x.aJ)&&decide (x.aJ<(c.aK.length:Int))))=false:=(by rw[abN];simp only[dQ,ow,ne_eq];exact hr);rw[this];rfl
  rw[e,aY,ep];rfl
end
end
section
variable {c:aM} {s:aN} {ts:List bM}
theorem um{α:Type} [Inhabited α]{l:List α}{k:Nat}(hk:k<l.length):l.take (k+1)=l.take k++ [l.getD k aG]:=by rw[Vo];simp[fD,hk]
theorem aJN(hc:VC c)(hv:VS c s):YL c s=some (sit c s s.aH):=by
 have hct:=hc.tl;have hcl:=hc.cl;have htl:=hv.tl;unfold YL;have hm:(ji (c.aH.length:Int) (s.aH.length:Int))=(s.aH.length:Int):=by unfold ji;rw[htl];simp
 rw[hm,mV,gL,sF];apply o8;refine jX (L:=λm x i=>Iz c s s.aH (s.aH.length:Int) m x i) s.aH.length ah (λk x=>x={dY:=c,state:=s,dL:=(s.aH.take k).map sK,dM:=[]}) aj ?_ ?_
 .rintro m k x hk rfl ih;show Ok (Iz c s _ _ (m+1) _ k) _;rw[Iz,eFZ,dJZ,gL,mV (by simp only[qM,kQ,sD];unfold room;omega),bIZ];refine ih _ ?_;simp only[um hk,Pz,mH,yR];rfl
 .rintro m x rfl;show Ok (Iz c s _ _ (m+1) _ _) _;rw[Iz,fAZ,mV,Zy hc hv.tl,bE,mV];refine Ok.some ?_;have hb:=OI c s;have e:jM 0 ((List.replicate (Int.toNat (c.aK.length:Int)) (aG:Int)).length) (List.replicate (Int.toNat (c.aK.length:Int)) (aG:Int)) (rZ c s)=rZ c s:=by unfold jM;simp[hb];rw[Ll ah]
  rw[e,sF];rfl
def mK(c:aM):List Int:=(KR c).getD []
theorem VI(hc:VC c):KR c=some (mK c)/\ab7 c (mK c):=by
 obtain⟨o,e1,h⟩:=aEE hc;have:mK c=o:=by unfold mK;rw[e1];rfl
 rw[this];exact⟨e1,h⟩
def vK(c:aM)(s:aN)(r i:Int):Bool:=kY (aO s i)&&(jG c (aO s i).bL==r)
def oZ(c:aM)(s:aN)(r:Int):List Int:=(mK c).filter (vK c s r)
theorem ahq(hc:VC c){r i:Int}:i∈oZ c s r ↔ (0<=i/\i<(c.aH.length:Int))/\vK c s r i=true:=by unfold oZ;rw[Gq,(VI hc).2.mem]
theorem aof(hc:VC c){r:Int}:(oZ c s r).Nodup:=(VI hc).2.nodup.filter _
theorem OX(hc:VC c){r:Int}:(oZ c s r).length<=32:=by have h1:=zY (vK c s r) (mK c);have h2:=(VI hc).2.len;have h3:=hc.tl;unfold oZ;omega
theorem aJR(hc:VC c)(hv:VS c s)(r:Int):Yj c s r=some (oZ c s r):=by
 obtain⟨e1,ho⟩:=VI hc;have hct:=hc.tl;have hol:=ho.len;have htl:=hv.tl;unfold Yj;rw[e1,bE];apply o8;refine jX (L:=λm x i=>Dw c s r (mK c) (((mK c).length:Nat):Int) m x i) (mK c).length ah (λk x=>x=((mK c).take k).filter (vK c s r)) rfl ?_ ?_
 .rintro m k x hk rfl ih;show Ok (Dw c s r _ _ (m+1) _ k) _;have hy:=(ho.mem _).1 (jw hk);rw[Dw,eFZ,dJZ,gL];rw[fV ah,fV (show¬(s.aH.length:Int)<=(mK c).getD k aG by omega),qc,aX,dJ hy.1 ah];unfold RY;have hfl:=zY (vK c s r) ((mK c).take k);rw[sD]at hfl;have nx:=ih (((mK c).take (k+1)).filter (vK c s r)) rfl;rw[um hk,Ci,Pw,aiC]at nx;have eq:vK c s r ((mK c).getD k aG)=(((s.aH.getD ((mK c).getD k aG).toNat aG).dZ&& !(s.aH.getD ((mK c).getD k aG).toNat aG).fC)&&(jG c (s.aH.getD ((mK c).getD k aG).toNat aG).bL==r)):=rfl;rw[eq]at nx;cases hq:((s.aH.getD ((mK c).getD k aG).toNat aG).dZ&& !(s.aH.getD ((mK c).getD k aG).toNat aG).fC)with|false=>rw[hq]at nx;simp only[nu,nH,mJ,nE]at nx;simp only[aX,bE,nu];rw[bIZ];exact nx|true=>rw[hq]at nx;simp only[aY,I4 hc,bE,l6]at nx⊢;rw[bIZ];cases hq2:(jG c (s.aH.getD ((mK c).getD k aG).toNat aG).bL==r)with|true=>rw[hq2]at nx;rw[aY,mV (by simp only[qM];unfold room;omega)];exact nx|false=>rw[hq2]at nx;simp only[nH,mJ,nE]at nx;exact nx
 .rintro m x rfl;show Ok (Dw c s r _ _ (m+1) _ _) _;rw[Dw,fAZ,sF];exact Ok.some rfl
def WM(c:aM)(l:List Int):List Int:=(KZ c l).getD []
theorem ar3(hc:VC c){l:List Int}(hl:l.length<=1000:=by omega):KZ c l=some (WM c l)/\ajT c l (WM c l):=by
 obtain⟨o,e1,h⟩:=aKl (c:=c) hl;have:WM c l=o:=by unfold WM;rw[e1];rfl
 rw[this];exact⟨e1,h⟩
def zI(c:aM)(ts:List bM)(k pr:Int)(n:Nat):Bool:=(kY (ts.getD n aG)&&((ts.getD n aG).bL==k))&&decide ((c.aH.getD n aG).gM<pr)
def qR(c:aM)(ts:List bM)(k pr:Int):Nat->List Int
 |0=> []
 |n+1=>bif zI c ts k pr n then qR c ts k pr n++ [(n:Int)]else qR c ts k pr n
def yA(c:aM)(ts:List bM)(k pr:Int):List Int:=WM c (qR c ts k pr ts.length)
theorem aau(k pr:Int):∀n,(qR c ts k pr n).length<=n
 |0=>gy _
 |n+1=>by have:=aau k pr n;rw[qR];cases zI c ts k pr n<;>simp<;>omega
theorem aav(k pr:Int):∀n y,y∈qR c ts k pr n ↔∃j:Nat,j<n/\y=(j:Int)/\zI c ts k pr j=true
 |0,y=>by simp[qR]
 |n+1,y=>by have ih:=aav k pr n y;rw[qR];cases hb:zI c ts k pr n with
  |true=>
   rw[aY,oU,oV,ih];constructor
   .rintro(⟨j,h1,h2,h3⟩|h)
    .exact⟨j,ah,h2,h3⟩
    .exact⟨n,ah,h,hb⟩
   .rintro⟨j,h1,h2,h3⟩;by_cases e:j=n
    .subst e;exact .inr h2
    .exact .inl ⟨j,ah,h2,h3⟩
  |false=>
   rw[aX,ih];constructor
   .rintro⟨j,h1,h2,h3⟩;exact⟨j,ah,h2,h3⟩
   .rintro⟨j,h1,h2,h3⟩;by_cases e:j=n
    .subst e;rw[hb]at h3;cases h3
    .exact⟨j,ah,h2,h3⟩
theorem abz(hc:VC c)(hg:GS c ts)(k pr:Int):ajT c (qR c ts k pr ts.length) (yA c ts k pr):=by have:=aau (c:=c) (ts:=ts) k pr ts.length;have h1:=hg.len;have h2:=hc.tl;exact(ar3 hc).2
theorem aij(hc:VC c)(hg:GS c ts){k pr y:Int}:y∈yA c ts k pr ↔ (0<=y/\y<(ts.length:Int))/\zI c ts k pr y.toNat=true:=by
 rw[(abz hc hg k pr).mem];unfold inT;rw[aav];have:=hg.len;constructor
 .rintro⟨h1,h2,j,h3,rfl,h5⟩;exact⟨⟨h1,ah⟩,by rw[gL];exact h5⟩
 .rintro⟨h1,h2⟩;exact⟨h1.1,ah,y.toNat,ah,ah,h2⟩
theorem ao5(hc:VC c)(hg:GS c ts)(k pr:Int):(yA c ts k pr).Nodup:=(abz hc hg k pr).so.imp (λq=>(ahn c).ne q)
theorem aJO(hc:VC c)(hg:GS c ts)(k pr:Int):RA (sit c s ts) k pr=some (yA c ts k pr):=by
 have hct:=hc.tl;have hgl:=hg.len;unfold RA;have hsl:(sit c s ts).dL.length=ts.length:=by simp[sit]
 rw[hsl];apply o8;refine jX (L:=λm x i=>Fh (sit c s ts) k pr (sit c s ts).dL (ts.length:Int) m x i) ts.length ah (λn x=>x=qR c ts k pr n) rfl ?_ ?_
 .rintro m n x hn rfl ih;show Ok (Fh _ k pr _ _ (m+1) _ n) _;have hl:=aau (c:=c) (ts:=ts) k pr n;have nx:=ih (qR c ts k pr (n+1)) rfl;rw[qR]at nx;rw[Fh,eFZ,dJ ah (by rw[hsl];omega),gL];have yh:(sit c s ts).dL.getD n aG=sK (ts.getD n aG):=ahF hn;rw[yh];rw[VE ⟨ah,by show(n:Int)<(c.aH.length:Int);omega⟩,gL];unfold XH;rw[bIZ];show Ok (bif zI c ts k pr n then _ else _) _;cases hb:zI c ts k pr n with|true=>rw[hb]at nx;rw[aY,mV (by simp only[qM];unfold room;omega)];exact nx|false=>rw[hb]at nx;exact nx
 .rintro m x rfl;show Ok (Fh _ k pr _ _ (m+1) _ _) _;have hl:=aau (c:=c) (ts:=ts) k pr ts.length;rw[Fh,fAZ];show Ok ((KZ c _).bind _) _;rw[(ar3 hc).1];exact Ok.some rfl
def tK(c:aM)(s:aN)(ts:List bM)(i:Int):Int:=
 (tn c i).eD-(tn c i).kK-((c.aK.getD (ts.getD i.toNat aG).bB.toNat aG).mg-(jf c s ts).getD (ts.getD i.toNat aG).bB.toNat 0)
def pR(c:aM):List Int->Int->List Int×Int
 | [],m=>([],m)
 |y::r,m=>bif decide (m<=0)then([],m)else(y::(pR c r (m-(tn c y).eD)).1,(pR c r (m-(tn c y).eD)).2)
def jE(k i:Int):eu:={aL:=1,aI:=i,aJ:=k}
def kE(k i:Int):eu:={aL:=2,aI:=i,aJ:=k}
def kS(c:aM)(s:aN)(ts:List bM)(i:Int):List eu:=
 bif !(kY (ts.getD i.toNat aG))|| !(rU c s (ts.getD i.toNat aG).bB)then []else
  bif decide (0<(pR c (yA c ts (ts.getD i.toNat aG).bB (tn c i).gM) (tK c s ts i)).2)then []else
   (pR c (yA c ts (ts.getD i.toNat aG).bB (tn c i).gM) (tK c s ts i)).1.map (jE (ts.getD i.toNat aG).bB)++ [kE (ts.getD i.toNat aG).bB i]
theorem PX{k:Int}(h:rU c s k=true):0<=k/\k<(c.aK.length:Int):=by unfold rU at h;simp only[dQ,ow]at h;exact h.1.1
theorem aqY:∀(l:List Int) (m:Int),(pR c l m).1.length<=l.length
 | [],m=>gy _
 |y::r,m=>by
  rw[pR];by_cases h:m<=0
  .rw[eY h];simp
  .rw[fV h];have:=aqY r (m-(tn c y).eD);simp only[aX,yQ];omega
theorem aKd(hc:VC c)(hg:GS c ts){i:Int}(hi:0<=i/\i<(ts.length:Int))(hu:rU c s (ts.getD i.toNat aG).bB=true): -10000000<=tK c s ts i/\tK c s ts i<=10000000:=by have hk:=PX hu;have hd:=yM hc (k:=i.toNat) (by have:=hg.len;omega);have hcap:=aiW hc (k:=(ts.getD i.toNat aG).bB.toNat) ah;have hb:=abQ (s:=s) hc hg (j:=(ts.getD i.toNat aG).bB.toNat) ah;unfold tK tn;omega
theorem aKH(hc:VC c)(hg:GS c ts){i k:Int}{x1:mG}(hk:x1.jB=k){l:List Int}(hl:l.length<=1000)(hm:∀y∈l,0<=y/\y<(c.aH.length:Int)){m0:Int}(h0: -10000000<=m0/\m0<=10000000):
  Dm (sit c s ts) i x1 l (l.length:Int) fuel m0 [] 0=some (bif decide (0<(pR c l m0).2)then []else(pR c l m0).1.map (jE k)++ [kE k i]):=by
 apply o8;have kk:∀(st:List eu) (m:Int),st.length<=1000->Rl i x1 m st=some (bif decide (0<m)then []else st++ [kE k i]):=by
  intro st m hst;unfold Rl;by_cases h:0<m
  .rw[eY h];rfl
  .rw[fV h,aX,aX,mV (by simp only[qM];unfold room;omega),hk];rfl
 refine jX (L:=λq (x:Int×List eu) j=>Dm (sit c s ts) i x1 l (l.length:Int) q x.1 x.2 j) (x:=(m0,[])) l.length ah
  (λj x=>(bif decide (0<(pR c (l.drop j) x.1).2)then []else x.2++(pR c (l.drop j) x.1).1.map (jE k)++ [kE k i])=(bif decide (0<(pR c l m0).2)then []else(pR c l m0).1.map (jE k)++ [kE k i])/\x.2.length<=j/\ -10000000<=x.1/\x.1<=10000000)
  ⟨aj,gy _,h0.1,h0.2⟩ ?_ ?_
 .rintro m j ⟨a,st⟩ hj ⟨h1,h2,h3,h4⟩ ih;show Ok (Dm _ i x1 l _ (m+1) a st j) _;simp only at h1 h2 h3 h4;have hy:=hm _ (jw hj);have hb:=aMm hc hy;rw[Dm,eFZ,dJZ,gL];rw[apG hj,pR]at h1;by_cases hz:a<=0
  .rw[eY hz,aY]at h1;rw[eF hz,kk st a ah];refine Ok.some ?_;rw[<-h1];simp
  .rw[fV hz,aX]at h1;rw[fA hz,dJ hy.1 (by show _<(c.aH.length:Int);exact hy.2),mV (by simp only[qM];unfold room;omega)];show Ok (Dm _ i x1 l _ m (aQ (a-(tn c (l.getD j aG)).eD)) (st++ [{aL:=1,aI:=l.getD j aG,aJ:=x1.jB}]) _) _;rw[hk,bIZ,bIZ];refine ih (a-(tn c (l.getD j aG)).eD,st++ [jE k (l.getD j aG)]) ⟨?_,ay,by simp only;omega,by simp only;omega⟩;rw[<-h1];simp
 .rintro m ⟨a,st⟩ ⟨h1,h2,h3,h4⟩;show Ok (Dm _ i x1 l _ (m+1) a st _) _;simp only at h1 h2;rw[Dm,fAZ,kk st a ah];refine Ok.some ?_;rw[<-h1,Pv,pR];simp
theorem aKI(hc:VC c)(hv:VS c s)(hg:GS c ts){i:Int}(hi:0<=i/\i<(ts.length:Int)):XR (sit c s ts) i=some (kS c s ts i):=by
 have hct:=hc.tl;have hgl:=hg.len;unfold XR kS;have hsl:(sit c s ts).dL.length=ts.length:=by simp[sit]
 have hbl:(sit c s ts).dM.length=c.aK.length:=uI _ _ _;rw[dJ hi.1 (by rw[hsl];exact hi.2)];have yh:(sit c s ts).dL.getD i.toNat aG=sK (ts.getD i.toNat aG):=ahF ah;rw[yh];have ha':(sK (ts.getD i.toNat aG)).nG=kY (ts.getD i.toNat aG):=rfl;have hst:(sK (ts.getD i.toNat aG)).jB=(ts.getD i.toNat aG).bB:=rfl;rw[ha',hst];cases ha:kY (ts.getD i.toNat aG)with
 |false=>rfl
 |true=>
  simp only[gI,jQ,aY,kW];show((IE c s _).bind _)=_;rw[ahT hc hv,bE];rcases hu:rU c s (ts.getD i.toNat aG).bB with _|_;rfl;have hk:=PX hu;simp only[gI,aX];rw[dJ hi.1 (by show i<(c.aH.length:Int);omega),dJ hk.1 (by exact hk.2),dJ hk.1 (by rw[hbl];exact hk.2)];have hd:=yM hc (k:=i.toNat) ah;have hcap:=aiW hc (k:=(ts.getD i.toNat aG).bB.toNat) ah;have hb:=abQ (s:=s) hc hg (j:=(ts.getD i.toNat aG).bB.toNat) ah;have hmb:=aKd (s:=s) hc hg hi hu;show((RA (sit c s ts) _ (tn c i).gM).bind _)=_;rw[aJO hc hg,bE];have ho:=abz hc hg (ts.getD i.toNat aG).bB (tn c i).gM;have hw:aQ (aQ ((c.aH.getD i.toNat aG).eD-(c.aH.getD i.toNat aG).kK)-aQ ((c.aK.getD (ts.getD i.toNat aG).bB.toNat aG).mg-(sit c s ts).dM.getD (ts.getD i.toNat aG).bB.toNat aG))=tK c s ts i:=by have e0:(sit c s ts).dM.getD (ts.getD i.toNat aG).bB.toNat aG=(jf c s ts).getD (ts.getD i.toNat aG).bB.toNat 0:=rfl;rw[e0,bI (x:=(c.aH.getD i.toNat aG).eD-(c.aH.getD i.toNat aG).kK) ah ah,bI (x:=(c.aK.getD (ts.getD i.toNat aG).bB.toNat aG).mg-(jf c s ts).getD (ts.getD i.toNat aG).bB.toNat 0) ah ah,bIZ];rfl
  have hw':aQ (aQ (((sit c s ts).dY.aH.getD i.toNat aG).eD-((sit c s ts).dY.aH.getD i.toNat aG).kK)-aQ (((sit c s ts).dY.aK.getD (ts.getD i.toNat aG).bB.toNat aG).mg-(sit c s ts).dM.getD (ts.getD i.toNat aG).bB.toNat aG))=tK c s ts i:=hw;rw[hw'];exact aKH hc hg rfl ho.len (λy hy=>by have:=(aij hc hg).1 hy;omega) hmb
theorem aq9(hc:VC c)(hg:GS c ts)(i:Int):(kS c s ts i).length<=1001:=by unfold kS;cases (!(kY (ts.getD i.toNat aG))|| !(rU c s (ts.getD i.toNat aG).bB))with|true=>simp|false=>simp only[aX];cases decide (0<(pR c (yA c ts (ts.getD i.toNat aG).bB (tn c i).gM) (tK c s ts i)).2)with|true=>simp|false=>have h1:=aqY (c:=c) (yA c ts (ts.getD i.toNat aG).bB (tn c i).gM) (tK c s ts i);have h2:=(abz hc hg (ts.getD i.toNat aG).bB (tn c i).gM).len;simp only[aX,qp,kQ,qM];omega
end
section
variable {c:aM} {s:aN}
end
def fq(c:aM)(s:aN):List bM->List eu->List bM
 |ts,[]=>ts
 |ts,x::r=>fq c s (bif nX c s ts x then nS ts x else ts) r
abbrev xw:=List bM×List eu×List Int
def kM(c:aM)(s:aN):List Int->xw->xw
 | [],q=>q
 |x::r,q=>kM c s r (fq c s q.1 (kS c s q.1 x),q.2.1++kS c s q.1 x,bif(kS c s q.1 x).isEmpty then q.2.2++ [x]else q.2.2)
def yG(c:aM)(s:aN):Nat->xw->xw
 |0,q=>q
 |n+1,q=>bif(kM c s q.2.2 (q.1,q.2.1,[])).2.2.length==q.2.2.length then((kM c s q.2.2 (q.1,q.2.1,[])).1,(kM c s q.2.2 (q.1,q.2.1,[])).2.1,q.2.2)else yG c s n (kM c s q.2.2 (q.1,q.2.1,[]))
def mkS(c:aM)(s:aN)(r:Int):xw:=yG c s 33 (s.aH,[],oZ c s r)
section
variable {c:aM} {s:aN} {ts:List bM}
theorem xO{x:eu}(h:nX c s ts x=true):(0<=x.aI/\x.aI<(ts.length:Int))/\(0<=x.aJ/\x.aJ<(c.aK.length:Int))/\kY (ts.getD x.aI.toNat aG)=true∧
  ((x.aL=1/\(ts.getD x.aI.toNat aG).bL=x.aJ)\/(x.aL=2/\(ts.getD x.aI.toNat aG).bB=x.aJ/\rU c s x.aJ=true)):=by
 unfold nX at h;simp only[dQ,pO,ow,Cn]at h;obtain⟨⟨⟨h1,h2⟩,h3⟩,h4⟩:=h;refine⟨h1,h2,h3,?_⟩;rcases h4 with h|h
 .exact .inl h
 .exact .inr ⟨h.1.1,h.1.2,h.2⟩
theorem aIq{k i:Int}(hi:0<=i/\i<(ts.length:Int))(hk:0<=k/\k<(c.aK.length:Int))(ha:kY (ts.getD i.toNat aG)=true)(hh:(ts.getD i.toNat aG).bL=k):nX c s ts (jE k i)=true:=by unfold nX jE;simp only[dQ,pO,ow,Cn];exact⟨⟨⟨hi,hk⟩,ha⟩,.inl ⟨trivial,hh⟩⟩
theorem aIp{k i:Int}(hi:0<=i/\i<(ts.length:Int))(hu:rU c s k=true)(ha:kY (ts.getD i.toNat aG)=true)(hh:(ts.getD i.toNat aG).bB=k):nX c s ts (kE k i)=true:=by unfold nX kE;simp only[dQ,pO,ow,Cn];exact⟨⟨⟨hi,PX hu⟩,ha⟩,.inr ⟨⟨trivial,hh⟩,hu⟩⟩
theorem Jb{t:bM}:kY t=true ↔ t.dZ=true/\t.fC=false:=by unfold kY;rw[dQ,wQ]
theorem ajQ(hg:GS c ts){x:eu}(h:nX c s ts x=true):GS c (nS ts x):=by obtain⟨h1,h2,h3,h4⟩:=xO h;rw[Jb]at h3;have ht:=hg.at (i:=x.aI.toNat) ah;refine hg.set ?_;unfold pU;cases (x.aL==1)with
 |true=>exact⟨ht.lU,ht.sb,ht.nx,by show -1<=(-1:Int)/\(-1:Int)<_;omega,ht.wc,ht.pl,λ_=>h3.1,ht.ep,ht.we,ht.wv,ht.wf⟩
 |false=>exact⟨by show -1<=x.aJ/\x.aJ<_;omega,by show -1<=(-1:Int)/\(-1:Int)<_;omega,by show -1<=(-1:Int)/\(-1:Int)<_;omega,by show -1<=(-1:Int)/\(-1:Int)<_;omega,ht.wc,λ_=>h2.1,ht.sh,ht.ep,ht.we,ht.wv,ht.wf⟩
theorem yV:∀(l:List eu) {ts:List bM},GS c ts->GS c (fq c s ts l)
 | [],ts,h=>h
 |x::r,ts,h=>by rw[fq];cases hp:nX c s ts x with|true=>exact yV r (ajQ h hp)|false=>exact yV r h
theorem Gw:∀(a b:List eu) (ts:List bM),fq c s ts (a++b)=fq c s (fq c s ts a) b
 | [],b,ts=>rfl
 |x::r,b,ts=>by rw[Je,fq,fq];exact Gw r b _
theorem Jm:∀(l:List eu) (ts:List bM),(fq c s ts l).length=ts.length
 | [],ts=>rfl
 |x::r,ts=>by rw[fq,Jm r];cases nX c s ts x<;>simp[nS]
theorem aKb(hc:VC c)(hv:VS c s){rc:j4->fH->List Int->Int->Option (fH×Int)}{e:fH}{lf:List Int}{j x:Int}{st:List eu}(hst:st.length<=1001)(hlf:lf.length<=1000)(hes:e.bH.length<=100000)(hj:0<=j/\j<=1000){res:fH×Int}(hg:GS c ts)
  (hn:rc (sit c s (fq c s ts st)) {e with bH:=e.bH++st} (bif st.isEmpty then lf++ [x]else lf) (j+1)=some res):
  FQ rc e lf j x st (st.length:Int) fuel (sit c s ts) 0=some res:=by
 apply o8;refine jX (L:=λm p i=>FQ rc e lf j x st (st.length:Int) m p i) st.length ah (λk p=>∃ts',p=sit c s ts'/\GS c ts'/\fq c s ts' (st.drop k)=fq c s ts st) ⟨ts,rfl,hg,rfl⟩ ?_ ?_
 .rintro m k p hk ⟨ts',rfl,hg',e1⟩ ih;show Ok (FQ rc e lf j x st _ (m+1) _ k) _;rw[FQ,eFZ,dJZ,gL,aLE hc hv hg',bE,bIZ];have ed:st.drop k=st.getD k aG::st.drop (k+1):=by rw[D9 hk];simp[fD,hk]
  rw[ed,fq]at e1;refine ih _ ⟨_,rfl,?_,e1⟩;cases hp:nX c s ts' (st.getD k aG)with|true=>exact ajQ hg' hp|false=>exact hg'
 .rintro m p ⟨ts',rfl,hg',e1⟩;show Ok (FQ rc e lf j x st _ (m+1) _ _) _;rw[Pv,fq]at e1;subst e1;rw[FQ,fAZ];unfold Yy;rw[bIZ];cases st with|nil=>rw[show(((([]:List eu).length:Nat):Int)==0)=true from rfl,aY,mV (by simp only[qM];unfold room;omega),mV (by simp only[xW];unfold room;omega)];exact akx hn|cons a b=>have:((((a::b).length:Nat):Int)==0)=false:=(by rw[yQ];simp;omega);rw[this,aX,mV (by unfold room;omega)];exact akx hn
theorem abD:∀(l:List Int) {q:xw},GS c q.1->GS c (kM c s l q).1
 | [],q,h=>h
 |x::r,q,h=>abD r (q:=(fq c s q.1 (kS c s q.1 x),q.2.1++kS c s q.1 x,bif(kS c s q.1 x).isEmpty then q.2.2++ [x]else q.2.2)) (yV _ h)
theorem Vg(hc:VC c):∀(l:List Int) {q:xw},GS c q.1->(kM c s l q).2.1.length+1001*(kM c s l q).2.2.length<=q.2.1.length+1001*(q.2.2.length+l.length)/\(kM c s l q).2.2.length<=q.2.2.length+l.length
 | [],q,h=>⟨by simp[kM],by simp[kM]⟩
 |x::r,q,h=>by have ih:=Vg hc r (q:=(fq c s q.1 (kS c s q.1 x),q.2.1++kS c s q.1 x,bif(kS c s q.1 x).isEmpty then q.2.2++ [x]else q.2.2)) (yV _ h);have h1:=aq9 (s:=s) hc h x;rw[kM];simp only at ih;rcases hst:kS c s q.1 x with _|⟨a,b⟩;rw[hst]at ih h1;simp only[aa5,aY,qp,qM,xW,yQ]at ih h1⊢;omega;rw[hst]at ih h1;simp only[aa4,aX,qp,yQ]at ih h1⊢;omega
theorem aio:∀(l:List Int) {q:xw} {y:Int},y∈(kM c s l q).2.2->y∈q.2.2\/y∈l
 | [],q,y,h=> .inl h
 |x::r,q,y,h=>by
  rcases aio r h with h1|h1
  .simp only at h1;cases hst:(kS c s q.1 x).isEmpty with
   |true=>rw[hst,aY,oU,oV]at h1;rcases h1 with h1|h1;exact .inl h1;exact .inr (h1▸qb)
   |false=>rw[hst]at h1;exact .inl h1
  .exact .inr (ou _ h1)
theorem aKc(hc:VC c)(hv:VS c s){rc:j4->fH->Option (fH×Int)}{R:Int}{L:List Int}{st0:List eu}(hl:L.length<=32)(hL:∀y∈L,0<=y/\y<((c.aH.length:Nat):Int))(hb:st0.length+1001*L.length<=33000)(hg:GS c ts){res:fH×Int}
  (hn:(bif(kM c s L (ts,st0,[])).2.2.length==L.length then some ({Region:=R,bH:=(kM c s L (ts,st0,[])).2.1,jv:=L},0)else rc (sit c s (kM c s L (ts,st0,[])).1) {Region:=R,bH:=(kM c s L (ts,st0,[])).2.1,jv:=(kM c s L (ts,st0,[])).2.2})=some res):
  FR rc L (L.length:Int) fuel (sit c s ts) {Region:=R,bH:=st0,jv:=L} [] 0=some res:=by
 apply o8
 refine jX (L:=λm (p:j4×fH×List Int) i=>FR rc L (L.length:Int) m p.1 p.2.1 p.2.2 i) (x:=(sit c s ts,{Region:=R,bH:=st0,jv:=L},[])) L.length ah
  (λk p=>∃q:xw,p=(sit c s q.1,{Region:=R,bH:=q.2.1,jv:=L},q.2.2)/\GS c q.1/\kM c s (L.drop k) q=kM c s L (ts,st0,[])/\q.2.1.length+1001*(q.2.2.length+(L.length-k))<=33000/\q.2.2.length<=k) ⟨(ts,st0,[]),rfl,hg,rfl,aD hb,gy _⟩ ?_ ?_
 .rintro m k p hk ⟨q,rfl,hg',e1,hb',hk'⟩ ih;show Ok (FR rc L _ (m+1) _ _ _ k) _;have hy:=hL _ (jw hk);have hgl:=hg'.len;rw[FR,eFZ,dJZ,gL,aKI hc hv hg' ah,bE];have h1:=aq9 (s:=s) hc hg' (L.getD k aG);rw[apG hk,kM]at e1
  obtain⟨res',er,hr⟩:=ih (sit c s (fq c s q.1 (kS c s q.1 (L.getD k aG))),{Region:=R,bH:=q.2.1++kS c s q.1 (L.getD k aG),jv:=L},bif(kS c s q.1 (L.getD k aG)).isEmpty then q.2.2++ [L.getD k aG]else q.2.2) ⟨_,rfl,yV _ hg',e1,by
    cases hst:kS c s q.1 (L.getD k aG)with|nil=>rw[hst]at h1;simp only[aa5,aY,qp,qM,xW]at h1⊢;omega|cons a b=>rw[hst]at h1;simp only[aa4,aX,qp,yQ]at h1⊢;omega,by
    cases hst:(kS c s q.1 (L.getD k aG)).isEmpty with
    |true=>simp only[aY,qp,qM];omega
    |false=>simp only[aX];omega⟩
  refine⟨res',?_,hr⟩;rw[<-bI (x:=(k:Int)+1) ah ah]at er;exact aKb (lf:=q.2.2) (j:=(k:Int)) hc hv h1 ah (by show q.2.1.length<=_;omega) ah hg' (by rw[bIZ]at er;exact er)
 .rintro m p ⟨q,rfl,hg',e1,hb',hk'⟩;show Ok (FR rc L _ (m+1) _ _ _ _) _;rw[Pv,kM]at e1;rw[FR,fAZ];rw[<-e1]at hn;have e2:((q.2.2.length:Int)==(L.length:Int))=(q.2.2.length==L.length):=by
   by_cases h:q.2.2.length=L.length
   .rw[h];simp
   .have:(q.2.2.length:Int)≠(L.length:Int):=ah;rw[beq_false_of_ne this,beq_false_of_ne h]
  show Ok (bif((q.2.2.length:Int)==(L.length:Int))then _ else _) _;rw[e2];exact akx hn
theorem aqP(hc:VC c)(hv:VS c s){R:Int}:∀(n m:Nat) (q:xw),q.2.2.length<n->n<=m->GS c q.1->q.2.2.length<=32->(∀y∈q.2.2,0<=y/\y<((c.aH.length:Nat):Int))->q.2.1.length+1001*q.2.2.length<=33000→
  SE m (sit c s q.1) {Region:=R,bH:=q.2.1,jv:=q.2.2}=some ({Region:=R,bH:=(yG c s n q).2.1,jv:=(yG c s n q).2.2},0)
 |0,_,_,h,_,_,_,_,_=>absurd h (kJ _)
 |n+1,0,_,_,h,_,_,_,_=>absurd h ah
 |n+1,m+1,q,h1,h2,hg,h3,h4,h5=>by rw[SE];have hp:=Vg (s:=s) hc q.2.2 (q:=(q.1,q.2.1,[])) hg;simp only[xW,nM]at hp;refine aKc hc hv h3 h4 h5 hg ?_;rw[yG];cases hb:((kM c s q.2.2 (q.1,q.2.1,[])).2.2.length==q.2.2.length)with
  |true=>rfl
  |false=>
   have hne:(kM c s q.2.2 (q.1,q.2.1,[])).2.2.length≠q.2.2.length:=(aD hb);simp only[aX]
   exact aqP hc hv n m (kM c s q.2.2 (q.1,q.2.1,[])) ah ah (abD _ hg) ah (λy hy=>by
    rcases aio _ hy with h|h
    .exact absurd h nU
    .exact h4 y h) ah
theorem aLf(hc:VC c)(hv:VS c s){r:Int}(hr:0<=r/\r<c.gK):KJ c s r=some ({Region:=r,bH:=(mkS c s r).2.1,jv:=(mkS c s r).2.2},0):=by
 unfold KJ mkS;have e:(decide (r<0)||decide (c.gK<=r))=false:=by rw[fV ah,fV ah];rfl
 have hl:=OX (s:=s) hc (r:=r);rw[e,aX,aJN hc hv,bE,aJR hc hv,bE];exact aqP hc hv 33 fuel (s.aH,[],oZ c s r) (by show(oZ c s r).length<33;omega) aB hv.gs hl (λy hy=>((ahq hc).1 hy).1) (by show 0+1001*(oZ c s r).length<=_;omega)
inductive Run(c:aM)(s:aN)(Ao:List bM):List eu->List Int->List bM->Prop
 |nil:Run c s Ao [] [] Ao
 |snoc {st:List eu} {mv:List Int} {ts:List bM} {i:Int} (h:Run c s Ao st mv ts) (hi:0<=i/\i<(ts.length:Int)) (hn:kS c s ts i≠ []):Run c s Ao (st++kS c s ts i) (mv++ [i]) (fq c s ts (kS c s ts i))
theorem ain{Ao:List bM}:∀(l:List Int) {q:xw} {mv:List Int},(∀y∈l,0<=y/\y<(c.aH.length:Int))->GS c q.1->Run c s Ao q.2.1 mv q.1→∃mv',Run c s Ao (kM c s l q).2.1 mv' (kM c s l q).1/\(mv'++(kM c s l q).2.2).Perm (mv++q.2.2++l)
 | [],q,mv,_,hg,h=>⟨mv,h,by rw[nE];exact ajp _⟩
 |x::r,q,mv,hL,hg,h=>by rw[kM];have hx:=hL x qb;have hgl:=hg.len;cases hst:kS c s q.1 x with
  |nil=>simp only[aa5,aY,nE,fq];obtain⟨mv',h1,h2⟩:=ain r (q:=(q.1,q.2.1,q.2.2++ [x])) (mv:=mv) (λy hy=>hL y (ou _ hy)) hg h;refine⟨mv',h1,h2.trans ?_⟩;simp only[rH,arq];exact ajp _
  |cons a b=>simp only[aa4,aX];have hr:=Run.snoc h (i:=x) ah (by rw[hst];simp);rw[hst]at hr;obtain⟨mv',h1,h2⟩:=ain r (q:=(fq c s q.1 (a::b),q.2.1++(a::b),q.2.2)) (mv:=mv++ [x]) (λy hy=>hL y (ou _ hy)) (yV _ hg) hr;refine⟨mv',h1,h2.trans ?_⟩;simp only[rH,arq];refine List.Perm.append_left _ ?_;exact(List.perm_middle).symm
theorem apX(hc:VC c):∀(l:List Int) {q:xw},GS c q.1->(kM c s l q).2.2.length=q.2.2.length+l.length->(∀x∈l,kS c s q.1 x=[])/\(kM c s l q).1=q.1/\(kM c s l q).2.1=q.2.1
 | [],q,_,_=>⟨λx hx=>absurd hx nU,rfl,rfl⟩
 |x::r,q,hg,h=>by have h1:=(Vg (s:=s) hc r (q:=(fq c s q.1 (kS c s q.1 x),q.2.1++kS c s q.1 x,bif(kS c s q.1 x).isEmpty then q.2.2++ [x]else q.2.2)) (yV _ hg)).2;rw[kM]at h⊢;cases hst:kS c s q.1 x with
  |cons a b=>rw[hst]at h h1;simp only[aa4,aX,yQ]at h h1;omega
  |nil=>
   rw[hst]at h;simp only[aa5,aY,nE,fq]at h⊢;obtain⟨i1,i2,i3⟩:=apX hc r (q:=(q.1,q.2.1,q.2.2++ [x])) hg (by rw[h];show q.2.2.length+(r.length+1)=(q.2.2++ [x]).length+r.length;rw[qp,qM];omega);refine⟨λy hy=> ?_,i2,i3⟩;rcases Ck.1 hy with rfl|hy
   .exact hst
   .exact i1 y hy
theorem arP(hc:VC c){Ao:List bM}:∀(n:Nat) (q:xw) (mv:List Int),q.2.2.length<n->GS c q.1->(∀y∈q.2.2,0<=y/\y<((c.aH.length:Nat):Int))->Run c s Ao q.2.1 mv q.1→
  ∃mv',Run c s Ao (yG c s n q).2.1 mv' (yG c s n q).1/\(mv'++(yG c s n q).2.2).Perm (mv++q.2.2)/\(∀x∈(yG c s n q).2.2,kS c s (yG c s n q).1 x=[])/\GS c (yG c s n q).1
 |0,_,_,h,_,_,_=>absurd h (kJ _)
 |n+1,q,mv,h1,hg,hL,hr=>by rw[yG];have hp:=(Vg (s:=s) hc q.2.2 (q:=(q.1,q.2.1,[])) hg).2;simp only[xW,nM]at hp;cases hb:((kM c s q.2.2 (q.1,q.2.1,[])).2.2.length==q.2.2.length)with
  |true=>have he:(kM c s q.2.2 (q.1,q.2.1,[])).2.2.length=q.2.2.length:=(aD hb);obtain⟨i1,i2,i3⟩:=apX (s:=s) hc q.2.2 (q:=(q.1,q.2.1,[])) hg (by rw[he];simp);simp only[aY];rw[i2,i3];exact⟨mv,hr,ajp _,i1,hg⟩
  |false=>
   have hne:(kM c s q.2.2 (q.1,q.2.1,[])).2.2.length≠q.2.2.length:=(aD hb);simp only[aX];obtain⟨mv1,r1,r2⟩:=ain (Ao:=Ao) q.2.2 (q:=(q.1,q.2.1,[])) (mv:=mv) hL hg hr
   obtain⟨mv2,a1,a2,a3,a4⟩:=arP hc n (kM c s q.2.2 (q.1,q.2.1,[])) mv1 ah (abD _ hg) (λy hy=>by
    rcases aio _ hy with h|h
    .exact absurd h nU
    .exact hL y h) r1
   exact⟨mv2,a1,a2.trans (aD r2),a3,a4⟩
structure Made(c:aM)(s:aN)(r:Int)(mv:List Int):Prop where
 run:Run c s s.aH (mkS c s r).2.1 mv (mkS c s r).1
 perm:(mv++(mkS c s r).2.2).Perm (oZ c s r)
 left:∀x∈(mkS c s r).2.2,kS c s (mkS c s r).1 x=[]
 gs:GS c (mkS c s r).1
theorem made(hc:VC c)(hv:VS c s)(r:Int):∃mv,Made c s r mv:=by have hl:=OX (s:=s) hc (r:=r);obtain⟨mv,a1,a2,a3,a4⟩:=arP (s:=s) hc (Ao:=s.aH) 33 (s.aH,[],oZ c s r) [] (by show(oZ c s r).length<33;omega) hv.gs (λy hy=>((ahq hc).1 hy).1) .nil;exact⟨mv,a1,by rw[zq]at a2;exact a2,a3,a4⟩
end
section
variable {x:eu}{j:Nat}{k i:Int}
def NI(s:aN):Prop:=∀t∈s.aH,0<=t.Next->t.Next≠t.bB
section
variable {c:aM} {s:aN} {e:aP} {ts:List bM}
theorem Ef(h:NI s){t:bM}(ht:0<=t.Next->t.Next≠t.bB):NI (gX (bump s e) e.aI t):=by
 intro x hx;rcases Gs hx with q|q
 .exact h x q
 .rw[q];exact ht
theorem Qa(h:NI s)(hv:VS c s)(ht:d9 c e):0<=(aO s e.aI).Next->(aO s e.aI).Next≠(aO s e.aI).bB:=by have:=hv.tl;unfold d9 at ht;exact h _ (jw (xs:=s.aH) (i:=e.aI.toNat) ah)
theorem aKh(h:VC c)(hI:Inv c s)(hN:NI s){s':aN}(hs:Step c s e s'):NI s':=by cases hs with
 |place k t ce o np m1 m2 f1 f2 y1 y2 fit=>
  have htl:=hI.vs.tl;have ht:=t;unfold d9 at ht;have q:=(hI.t e.aI.toNat ah).np np;refine Ef hN (λw=> ?_);have:(aO s e.aI).Next= -1:=by have q':aO s e.aI=uU:=q;rw[q'];rfl
  have w':0<=(aO s e.aI).Next:=w;omega
 |grant k t ce ep w n pl sh cl m1 m2 eq v1 v2 w1 w2 w3 w4 w5 w6 fit=>refine Ef hN ?_;have h0:=Qa hN hI.vs t;unfold wH;simp only;cases (e.aJ==(aO s e.aI).bL)with|true=>exact h0|false=>cases (e.aJ==(aO s e.aI).bB)with|true=>intro w;exact absurd w (by show¬(0:Int)≤-1;omega)|false=>exact h0
 |cut k t pl ep ep1=>exact Ef hN (Qa hN hI.vs t)
 |aaD k t ce pl fit=>exact Ef hN (λw=>absurd w (by rw[ce];show¬(0:Int)≤-1;omega))
 |jB k t ce pl n1 n2 n3 m1 f1 y1 t1 t2 fit=>exact Ef hN (λ_=>n2)
 |ready k t ce pl n1 m1=>exact Ef hN (λw=>absurd w (by show¬(0:Int)≤-1;omega))
 |migrate k t ce pl sh tg n1 n2 n3 m1 f1 y1 t1 t2 fit=>exact Ef hN (Qa hN hI.vs t)
 |abandon k t pl tg=>exact Ef hN (Qa hN hI.vs t)
 |shed k t n pl sh w=>exact Ef hN (Qa hN hI.vs t)
 |back k t n sh m1 fit=>exact Ef hN (Qa hN hI.vs t)
 |mode k ce n m1=>exact hN
 |want k ce n n1 v1 v2 f=>exact hN
 |runs k ce n n1 n2 f w=>exact hN
 |prove k n n1 b=>exact hN
 |mM k o n n1=>exact hN
 |expand k h1 h2 h3=>exact hN
 |contract k h1=>exact hN
 |note k=>exact hN
theorem aLj:NI (newS c):=by intro t ht;have:t=uU:=Li ht;rw[this];intro w;exact absurd w ak
theorem aLs(h:VC c)(l:List aP):∀s,Inv c s->NI s->yJ c s l->NI (yD c s l):=by induction l with|nil=>intro s _ hN _;exact hN|cons e l ih=>intro s hI hN ho;exact ih _ (ahC h hI ho.1) (aKh h hI hN (ZP h ho.1).2.2.2) ho.2
structure PT(t:bM):Prop where
 ht:0<=t.dN->t.bL≠t.dN
 hs:0<=t.bB->t.bL≠t.bB
 st:0<=t.bB->t.dN≠t.bB
 sn:0<=t.bB->t.Next≠t.bB
def PI(ts:List bM):Prop:=∀t∈ts,PT t
theorem abE(h:VC c)(hI:Inv c s)(hN:NI s):PI s.aH:=by
 intro t ht;obtain⟨i,hi,rfl⟩:=xV ht;have e:s.aH.getD i aG=s.aH[i]:=by simp[fD,hi]
 have q:=hI.t i hi;rw[e]at q;refine⟨q.ht,λw e2=> ?_,λw e2=> ?_,λw e2=> ?_⟩
 .have:=q.hs;rw[e2,ahR w]at this;cases this
 .have:=q.ts;rw[e2,ahR w]at this;cases this
 .exact hN _ ht ah e2
theorem asQ(h:PI ts)(hx:x.aI.toNat<ts.length):PI (nS ts x):=by
 intro t ht;have h0:=h _ (jw hx);rcases Gs ht with q|q
 .exact h t q
 .rw[q];unfold pU;cases (x.aL==1)with
  |true=>exact⟨λw=>absurd w (by show¬(0:Int)≤-1;omega),h0.hs,λw e2=>by have w':0<=(ts.getD x.aI.toNat aG).bB:=w;have e2':(-1:Int)=(ts.getD x.aI.toNat aG).bB:=e2;omega,h0.sn⟩
  |false=>exact⟨λw=>absurd w (by show¬(0:Int)≤-1;omega),λw=>absurd w (by show¬(0:Int)≤-1;omega),λw=>absurd w (by show¬(0:Int)≤-1;omega),λw=>absurd w (by show¬(0:Int)≤-1;omega)⟩
theorem ahA{k:Int}{n:Int}{j:Nat}(h:k=(j:Int)):hit k n j=n:=by unfold hit;rw[bW h]
theorem VB{k:Int}{n:Int}{j:Nat}(h:k≠(j:Int)):hit k n j=0:=by unfold hit;rw[dn h]
theorem Ja(h:x.aI.toNat≠j):(nS ts x).getD j aG=ts.getD j aG:=by unfold nS;simp[fD,xU,h]
theorem UY(h:x.aI.toNat<ts.length:=by omega):(nS ts x).getD x.aI.toNat aG=pU (ts.getD x.aI.toNat aG) x:=pY h
theorem abJ:(nS ts x).length=ts.length:=by simp[nS]
theorem aHd(hc:VC c)(hg:GS c ts)(hp:nX c s ts (jE k i)=true)(hj:j<c.aK.length):(jf c s (nS ts (jE k i))).getD j 0<=(jf c s ts).getD j 0:=by
 obtain⟨h1,h2,h3,h4⟩:=xO hp;have hi:i.toNat<ts.length:=by have h1:0<=i/\i<(ts.length:Int):=h1;omega
 have hd:=yM hc (k:=i.toNat) (by have:=hg.len;omega);show(jf c s (ts.set i.toNat _)).getD j 0<=_;rw[Vv hi hj];rw[Jb]at h3;have h3:(ts.getD i.toNat aG).dZ=true/\(ts.getD i.toNat aG).fC=false:=h3;unfold dl pU jE;simp only[h3.1,h3.2,l5,nH,mJ,PK,aY];have a1:=Co (i:=(ts.getD i.toNat aG).bL) (n:=(c.aH.getD i.toNat aG).eD) hd.1 j;have a2:=Co (i:=(ts.getD i.toNat aG).dN) (n:=(c.aH.getD i.toNat aG).eD) hd.1 j;omega
theorem aHc(hc:VC c)(hg:GS c ts)(hP:PI ts)(hp:nX c s ts (jE k i)=true):(jf c s (nS ts (jE k i))).getD k.toNat 0=(jf c s ts).getD k.toNat 0-(tn c i).eD:=by
 obtain⟨h1,h2,h3,h4⟩:=xO hp;have h1:0<=i/\i<(ts.length:Int):=h1;have h2:0<=k/\k<(c.aK.length:Int):=h2;have hi:i.toNat<ts.length:=ah
 have hh:(ts.getD i.toNat aG).bL=k:=by
  rcases h4 with⟨_,q⟩|⟨q,_⟩
  .exact q
  .exact absurd q (by show¬(1:Int)=2;omega)
 have hpt:=hP _ (jw hi);show(jf c s (ts.set i.toNat _)).getD k.toNat 0=_;rw[Vv hi ah];rw[Jb]at h3;have h3:(ts.getD i.toNat aG).dZ=true/\(ts.getD i.toNat aG).fC=false:=h3;unfold dl pU jE;simp only[h3.1,h3.2,l5,nH,mJ,PK,aY];rw[ahA (k:=(ts.getD i.toNat aG).bL) ah,VB (k:=(ts.getD i.toNat aG).dN)]
 .unfold tn;omega
 .intro e;exact hpt.ht ah ah
theorem agE(hc:VC c)(hg:GS c ts)(hP:PI ts)(hp:nX c s ts (kE k i)=true)(hj:j<c.aK.length):
  ((j:Int)≠k->(jf c s (nS ts (kE k i))).getD j 0<=(jf c s ts).getD j 0)/\((j:Int)=k->(jf c s (nS ts (kE k i))).getD j 0=(jf c s ts).getD j 0+((tn c i).eD-(tn c i).kK)):=by
 obtain⟨h1,h2,h3,h4⟩:=xO hp;have h1:0<=i/\i<(ts.length:Int):=h1;have h2:0<=k/\k<(c.aK.length:Int):=h2;have hi:i.toNat<ts.length:=ah
 have hh:(ts.getD i.toNat aG).bB=k:=by
  rcases h4 with⟨q,_⟩|⟨_,q,_⟩
  .exact absurd q (by show¬(2:Int)=1;omega)
  .exact q
 have hd:=yM hc (k:=i.toNat) (by have:=hg.len;omega);have hpt:=hP _ (jw hi);rw[Jb]at h3;have h3:(ts.getD i.toNat aG).dZ=true/\(ts.getD i.toNat aG).fC=false:=h3;have key:(jf c s (nS ts (kE k i))).getD j 0=(jf c s ts).getD j 0+(hit k (tn c i).eD j-((hit (ts.getD i.toNat aG).bL (tn c i).eD j+hit (ts.getD i.toNat aG).dN (tn c i).eD j)+(hit (ts.getD i.toNat aG).bB (tn c i).kK j+hit (ts.getD i.toNat aG).Next (tn c i).kK j))):=by
  show(jf c s (ts.set i.toNat _)).getD j 0=_;rw[Vv hi hj];unfold dl pU kE;have k1:((2:Int)==1)=false:=ak
  have n1:∀n:Int,hit (-1) n j=0:=λn=>Pn ah j;simp only[h3.1,h3.2,l5,nH,mJ,k1,aX,n1];unfold tn;omega
 have b1:0<=(tn c i).eD:=hd.1;have b2:0<=(tn c i).kK:=hd.2.2.1;have a1:=Co (i:=(ts.getD i.toNat aG).bL) (n:=(tn c i).eD) b1 j;have a2:=Co (i:=(ts.getD i.toNat aG).dN) (n:=(tn c i).eD) b1 j;have a3:=Co (i:=(ts.getD i.toNat aG).bB) (n:=(tn c i).kK) b2 j;have a4:=Co (i:=(ts.getD i.toNat aG).Next) (n:=(tn c i).kK) b2 j;refine⟨λhjk=> ?_,λhjk=> ?_⟩
 .rw[key,VB (k:=k) (λe=>hjk e.symm)];omega
 .have s0:0<=(ts.getD i.toNat aG).bB:=ah
  rw[key,ahA (k:=k) hjk.symm,ahA (k:=(ts.getD i.toNat aG).bB) ah,VB (k:=(ts.getD i.toNat aG).bL) (λe=>hpt.hs s0 ah),VB (k:=(ts.getD i.toNat aG).dN) (λe=>hpt.st s0 ah),VB (k:=(ts.getD i.toNat aG).Next) (λe=>hpt.sn s0 ah)];omega
def Cw(c:aM)(s:aN)(ts:List bM):Prop:=∀j,j<c.aK.length->(jf c s ts).getD j 0<=(c.aK.getD j aG).mg
def lV(c:aM)(s:aN):List bM->List eu->Prop
 |_,[]=>True
 |ts,x::r=>nX c s ts x=true/\lV c s (nS ts x) r
theorem Lu{r:List eu}(h:nX c s ts x=true):fq c s ts (x::r)=fq c s (nS ts x) r:=by rw[fq,h];rfl
theorem Jd:∀(a b:List eu) (ts:List bM),lV c s ts (a++b) ↔ lV c s ts a/\lV c s (fq c s ts a) b
 | [],b,ts=>by simp[lV,fq]
 |x::r,b,ts=>by
  rw[Je,lV,lV];constructor
  .rintro⟨h1,h2⟩;have:=(Jd r b _).1 h2;rw[Lu h1];exact⟨⟨h1,this.1⟩,this.2⟩
  .rintro⟨⟨h1,h2⟩,h3⟩;rw[Lu h1]at h3;exact⟨h1,(Jd r b _).2 ⟨h2,h3⟩⟩
theorem ab0:∀(l:List eu) {ts:List bM},lV c s ts l->PI ts->PI (fq c s ts l)
 | [],ts,_,h=>h
 |x::r,ts,ht,h=>by rw[Lu ht.1];have:=(xO ht.1).1;exact ab0 r ht.2 (asQ h ah)
def mR(c:aM):List Int->Int
 | []=>0
 |y::r=>(tn c y).eD+mR c r
theorem aql:∀(a b:List Int),mR c (a++b)=mR c a+mR c b
 | [],b=>by simp[mR]
 |x::r,b=>by rw[Je,mR,mR,aql r b];omega
theorem aaz(hc:VC c){k:Int}(hk:0<=k/\k<((c.aK.length:Nat):Int)):∀(ys:List Int) {ts:List bM},GS c ts->PI ts->ys.Nodup->(∀y∈ys,(0<=y/\y<((ts.length:Nat):Int))/\kY (ts.getD y.toNat aG)=true/\(ts.getD y.toNat aG).bL=k)→
  lV c s ts (ys.map (jE k))/\(jf c s (fq c s ts (ys.map (jE k)))).getD k.toNat 0=(jf c s ts).getD k.toNat 0-mR c ys/\(∀j,j<c.aK.length->(jf c s (fq c s ts (ys.map (jE k)))).getD j 0<=(jf c s ts).getD j 0)∧∀i:Nat,(i:Int) ∉ ys->(fq c s ts (ys.map (jE k))).getD i aG=ts.getD i aG
 | [],ts,hg,hP,_,_=>⟨trivial,by simp[mR,fq],λj _=>jh _,λi _=>rfl⟩
 |y::r,ts,hg,hP,hn,hy=>by
  obtain⟨q1,q2,q3⟩:=hy y qb;have hp:nX c s ts (jE k y)=true:=aIq q1 hk q2 q3;rw[List.nodup_cons]at hn
  obtain⟨i1,i2,i3,i4⟩:=aaz hc hk r (ts:=nS ts (jE k y)) (ajQ hg hp) (asQ hP (by show y.toNat<_;omega)) hn.2 (λz hz=>by
   obtain⟨z1,z2,z3⟩:=hy z (ou _ hz);have hne:(jE k y).aI.toNat≠z.toNat:=by
    show y.toNat≠z.toNat
    intro e;have:y=z:=ah;subst this;exact hn.1 hz
   rw[Ja hne,abJ];exact⟨z1,z2,z3⟩)
  rw[mH,Lu hp];refine⟨⟨hp,i1⟩,?_,λj hj=>wR (i3 j hj) (aHd hc hg hp hj),λi hi=> ?_⟩
  .rw[i2,aHc hc hg hP hp,mR];omega
  .rw[Ck]at hi;have h1:(i:Int)≠y:=λe=>hi (.inl e);rw[i4 i (λe=>hi (.inr e)),Ja];show y.toNat≠i;omega
theorem ahI:∀(l:List Int) (m:Int),∃b,l=(pR c l m).1++b/\(pR c l m).2=m-mR c (pR c l m).1/\((pR c l m).2<=0\/b=[])/\(∀a d,(pR c l m).1=a++d->d≠ []->0<m-mR c a)
 | [],m=>⟨[],rfl,by simp[pR,mR],.inr rfl,λa d h hd=>by
   simp only[pR]at h;have:=(arn.1 h).2
   exact absurd this hd⟩
 |y::r,m=>by
  rw[pR];by_cases hm:m<=0
  .rw[eY hm];refine⟨y::r,rfl,by simp[mR],.inl hm,λa d h hd=> ?_⟩;simp only[aY]at h;exact absurd (arn.1 h).2 hd
  .rw[fV hm];obtain⟨b,i1,i2,i3,i4⟩:=ahI r (m-(tn c y).eD);simp only[aX];refine⟨b,by rw[Je,<-i1],by rw[i2,mR];omega,i3,λa d h hd=> ?_⟩;rcases a with _|⟨a0,a⟩;simp[mR];omega;rw[Je,List.cons.injEq]at h;have:=i4 a d h.2 hd;rw[<-h.1,mR];omega
structure Grp(c:aM)(s:aN)(ts:List bM)(i k:Int)(ys:List Int):Prop where
 sb:(ts.getD i.toNat aG).bB=k
 act:kY (ts.getD i.toNat aG)=true
 us:rU c s k=true
 nd:ys.Nodup
 y:∀y∈ys,(0<=y/\y<(ts.length:Int))/\kY (ts.getD y.toNat aG)=true/\(ts.getD y.toNat aG).bL=k/\(tn c y).gM<(tn c i).gM
 st:kS c s ts i=ys.map (jE k)++ [kE k i]
 enough:tK c s ts i<=mR c ys
 last:∀a d,ys=a++d->d≠ []->mR c a<tK c s ts i
theorem aKa(hc:VC c)(hg:GS c ts){pr y:Int}(hy:y∈yA c ts k pr):(0<=y/\y<(ts.length:Int))/\kY (ts.getD y.toNat aG)=true/\(ts.getD y.toNat aG).bL=k/\(tn c y).gM<pr:=by obtain⟨h1,h2⟩:=(aij hc hg).1 hy;unfold zI at h2;simp only[dQ,Cn,ow]at h2;exact⟨h1,h2.1.1,h2.1.2,h2.2⟩
theorem grp(hc:VC c)(hg:GS c ts)(hn:kS c s ts i≠ []):∃ys,Grp c s ts i (ts.getD i.toNat aG).bB ys:=by have hn':=hn;unfold kS at hn;cases ha:kY (ts.getD i.toNat aG)with
 |false=>rw[ha]at hn;exact absurd rfl hn
 |true=>
  rcases hu:rU c s (ts.getD i.toNat aG).bB with _|_;rw[ha,hu]at hn;exact absurd rfl hn;rw[ha,hu]at hn;simp only[gI,nO,aX]at hn;by_cases h0:0<(pR c (yA c ts (ts.getD i.toNat aG).bB (tn c i).gM) (tK c s ts i)).2
  .rw[eY h0]at hn;exact absurd rfl hn
  .have est:kS c s ts i=(pR c (yA c ts (ts.getD i.toNat aG).bB (tn c i).gM) (tK c s ts i)).1.map (jE (ts.getD i.toNat aG).bB)++ [kE (ts.getD i.toNat aG).bB i]:=(by unfold kS;rw[ha,hu,fV h0];rfl);obtain⟨b,p1,p2,p3,p4⟩:=ahI (c:=c) (yA c ts (ts.getD i.toNat aG).bB (tn c i).gM) (tK c s ts i);have hnd:=ao5 hc hg (ts.getD i.toNat aG).bB (tn c i).gM;rw[p1]at hnd;refine⟨_,rfl,ha,hu,(Jh.1 hnd).1,λy hy=> ?_,est,ah,λa d h hd=>by have:=p4 a d h hd;omega⟩;exact aKa hc hg (by rw[p1];exact Cj _ hy)
theorem aLk(hc:VC c)(hg:GS c ts){i:Int}(ha:kY (ts.getD i.toNat aG)=true)(hu:rU c s (ts.getD i.toNat aG).bB=true)(hn:kS c s ts i=[]):mR c (yA c ts (ts.getD i.toNat aG).bB (tn c i).gM)<tK c s ts i:=by
 unfold kS at hn;rw[ha,hu]at hn;simp only[gI,nO,aX]at hn;obtain⟨b,p1,p2,p3,p4⟩:=ahI (c:=c) (yA c ts (ts.getD i.toNat aG).bB (tn c i).gM) (tK c s ts i);by_cases h0:0<(pR c (yA c ts (ts.getD i.toNat aG).bB (tn c i).gM) (tK c s ts i)).2
 .have hb:b=[]:=by rcases p3 with h|h;omega;exact h
  rw[hb,nE]at p1;rw[p1];omega
 .rw[fV h0,aX]at hn;exact absurd hn aj
theorem apq(hc:VC c)(hg:GS c ts)(hP:PI ts){i k:Int}(hi:0<=i/\i<(ts.length:Int))(hsb:(ts.getD i.toNat aG).bB=k)(ha:kY (ts.getD i.toNat aG)=true)(hu:rU c s k=true){ys:List Int}(hn:ys.Nodup)
  (hy:∀y∈ys,(0<=y/\y<(ts.length:Int))/\kY (ts.getD y.toNat aG)=true/\(ts.getD y.toNat aG).bL=k/\(tn c y).gM<(tn c i).gM):
  lV c s ts (ys.map (jE k)++ [kE k i])/\(jf c s (fq c s ts (ys.map (jE k)++ [kE k i]))).getD k.toNat 0=(c.aK.getD k.toNat aG).mg+(tK c s ts i-mR c ys)∧∀j,j<c.aK.length->(j:Int)≠k->(jf c s (fq c s ts (ys.map (jE k)++ [kE k i]))).getD j 0<=(jf c s ts).getD j 0:=by
 have hk:=PX hu;obtain⟨s1,s2,s3,s4⟩:=aaz (s:=s) hc hk ys hg hP hn (λy q=>by obtain⟨a,b,d,_⟩:=hy y q;exact⟨a,b,d⟩);have hiy:((i.toNat:Nat):Int) ∉ ys:=λq=>by have:=(hy _ q).2.2.2;rw[show((i.toNat:Nat):Int)=i by omega]at this;omega
 have hti:=s4 i.toNat hiy;have hlen:=Jm (c:=c) (s:=s) (ys.map (jE k)) ts;have hp:nX c s (fq c s ts (ys.map (jE k))) (kE k i)=true:=aIp (by rw[hlen];exact hi) hu (by rw[hti];exact ha) (by rw[hti];exact hsb);have hg':=yV (s:=s) (ys.map (jE k)) hg;have hP':=ab0 (ys.map (jE k)) s1 hP;have er:fq c s ts (ys.map (jE k)++ [kE k i])=nS (fq c s ts (ys.map (jE k))) (kE k i):=by rw[Gw,Lu hp];rfl
 refine⟨(Jd _ _ _).2 ⟨s1,hp,trivial⟩,?_,λj hj hjk=> ?_⟩
 .rw[er,(agE hc hg' hP' hp (j:=k.toNat) ah).2 ah,s2];unfold tK;rw[hsb];omega
 .rw[er];exact wR ((agE hc hg' hP' hp hj).1 hjk) (s3 j hj)
end
end
section
variable {c:aM}
theorem ap3{α:Type}(a b:α){n k:Nat}(hk:k<n):(List.replicate k a++List.replicate (n-k) b).set k a=List.replicate (k+1) a++List.replicate (n-(k+1)) b:=by
 apply Ea;intro j;rw[xU];simp only[List.getElem?_append,Vm,Eb,qp];repeat' split
 all_goals first|rfl|(exfalso;omega)
theorem aKu{α:Type} [Inhabited α](a b:α){n k:Nat}(hk:k<n):(List.replicate k a++List.replicate (n-k) b).getD k aG=b:=by rw[fD,uo aj,Vm,Nat.sub_self,Eb,bW ah];rfl
theorem aps(hc:VC c):OQ c=some (newS c):=by
 have hct:=hc.tl;have hcl:=hc.cl;unfold OQ;rw[mV,mV];simp only[gL,Vm];apply o8;refine jX (L:=λm x i=>IX (c.aH.length:Int) m x i) c.aH.length ah (λk x=>x={newS c with aH:=List.replicate k uU++List.replicate (c.aH.length-k) aG,aK:=List.replicate c.aK.length aG}) (by simp[newS]) ?_ ?_
 .rintro m k x hk rfl ih;show Ok (IX _ (m+1) _ k) _;rw[IX,eFZ,dJ ah ay,gL,bIZ];unfold bG;refine ih _ ?_;have:=ap3 uU (aG:bM) hk;simp only;rw[<-this];rfl
 .rintro m x rfl;show Ok (IX _ (m+1) _ _) _;rw[IX,fAZ];simp only[Vm,Nat.sub_self,List.replicate_zero,nE];refine jX (L:=λm x i=>IW (c.aK.length:Int) m x i) c.aK.length ah (λk x=>x={newS c with aK:=List.replicate k EZ++List.replicate (c.aK.length-k) aG}) (by simp[newS]) ?_ ?_
  .rintro m k x hk rfl ih;show Ok (IW _ (m+1) _ k) _;rw[IW,eFZ,dJ ah ay,gL,bIZ];unfold bG;refine ih _ ?_;have:=ap3 EZ (aG:gG) hk;simp only;rw[aKu _ _ hk,<-this];rfl
  .rintro m x rfl;show Ok (IW _ (m+1) _ _) _;rw[IW,fAZ];refine Ok.some ?_;simp[newS]
end
section
variable {c:aM} {s:aN} {ts:List bM}
theorem RS.ni(h:VC c)(hr:RS c s):NI s:=by obtain⟨o,q⟩:=hr;rw[<-q.run];exact aLs h o _ (Vd h) aLj q.ok
theorem ase(hc:VC c)(hv:VS c s)(i:Int):NV c s i=some ((decide (0<=i)&&decide (i<(s.aH.length:Int)))&&kY (aO s i)&&rU c s (aO s i).bB):=by
 have htl:=hv.tl;unfold NV;by_cases hi:0<=i/\i<(s.aH.length:Int)
 .have e:((decide (i<0)||decide ((c.aH.length:Int)<=i))||decide ((s.aH.length:Int)<=i))=false:=by rw[fV ah,fV ah,fV ah];rfl
  rw[e,aX,dJ hi.1 hi.2,eY hi.1,eY hi.2];show(((bif kY (aO s i)then IE c s (aO s i).bB else some aG)).bind λx2=>some (kY (aO s i)&&x2))=_;cases kY (aO s i)with|true=>rw[aY,ahT hc hv];rfl|false=>rfl
 .have e:((decide (i<0)||decide ((c.aH.length:Int)<=i))||decide ((s.aH.length:Int)<=i))=true:=by simp only[pO,ow];omega
  have e2:(decide (0<=i)&&decide (i<(s.aH.length:Int)))=false:=by rw[abN];simp only[dQ,ow,ne_eq];exact hi
  rw[e,e2];rfl
theorem aLg(hc:VC c)(hv:VS c s)(r:Int):(mkS c s r).2.1.length<=33000:=by
 have hl:=OX (s:=s) hc (r:=r);have key:∀(n:Nat) (q:xw),GS c q.1->(yG c s n q).2.1.length<=q.2.1.length+1001*q.2.2.length:=by intro n;induction n with|zero=>intro q _;show q.2.1.length<=_;omega|succ n ih=>intro q hg;rw[yG];have hp:=Vg (s:=s) hc q.2.2 (q:=(q.1,q.2.1,[])) hg;simp only[xW,nM]at hp;cases ((kM c s q.2.2 (q.1,q.2.1,[])).2.2.length==q.2.2.length)with|true=>simp only[aY];omega|false=>simp only[aX];have:=ih (kM c s q.2.2 (q.1,q.2.1,[])) (abD _ hg);omega
 have:=key 33 (s.aH,[],oZ c s r) hv.gs;simp only[xW,nM]at this;unfold mkS;omega
end
section
variable {c:aM} {s:aN} {ts:List bM}
theorem GQ{α:Type} [Inhabited α]{a b:List α}{n:Nat}(h:n<a.length:=by omega):(a++b).getD n aG=a.getD n aG:=by rw[fD,fD,p9 h]
theorem EF{α:Type} [Inhabited α]{a b:List α}{n:Nat}:(a++b).getD (a.length+n) aG=b.getD n aG:=by rw[fD,fD,uo (abf _ _),ars]
theorem ai3{α β:Type} [Inhabited α] [Inhabited β]{f:α->β}{l:List α}{n:Nat}(h:n<l.length):(l.map f).getD n aG=f (l.getD n aG):=by simp[fD,h]
structure PRk(c:aM)(s:aN)(st:List eu)(a k:Nat):Prop where
 lt:a<k/\k<st.length
 sh:∀j,a<=j->j<k->(st.getD j aG).aL=1
 mv:(st.getD k aG).aL≠1
 cell:(st.getD k aG).aJ=(st.getD a aG).aJ
 rng:0<=(st.getD a aG).aJ/\(st.getD a aG).aJ<(c.aK.length:Int)
 t1:0<=(st.getD a aG).aI/\(st.getD a aG).aI<(c.aH.length:Int)
 t2:0<=(st.getD k aG).aI/\(st.getD k aG).aI<(c.aH.length:Int)
 pr:(tn c (st.getD a aG).aI).gM<(tn c (st.getD k aG).aI).gM
 wD:lV c s s.aH (st.take (k-1)++ [st.getD k aG])
 ov:(c.aK.getD (st.getD a aG).aJ.toNat aG).mg<(jf c s (fq c s s.aH (st.take (k-1)++ [st.getD k aG]))).getD (st.getD a aG).aJ.toNat 0
structure aLJ(c:aM)(s:aN)(st:List eu)(mv:List Int)(ts:List bM):Prop where
 wD:lV c s s.aH st
 en:fq c s s.aH st=ts
 gs:GS c ts
 pi:PI ts
 cap:∀n,n<=st.length->Cw c s (fq c s s.aH (st.take n))
 Xd:(st.filter (λx=>x.aL==2)).map (·.aI)=mv
 pr:∀a,a<st.length->(st.getD a aG).aL=1→∃k,PRk c s st a k
 kd:∀x∈st,x.aL=1\/x.aL=2
theorem aqG(k:Int):∀ys:List Int,(ys.map (jE k)).filter (λx=>x.aL==2)=[]
 | []=>rfl
 |y::r=>by rw[mH,Pw,aqG k r];rfl
theorem ajc(hc:VC c)(hI:Inv c s)(hN:NI s){st:List eu}{mv:List Int}(hr:Run c s s.aH st mv ts):aLJ c s st mv ts:=by induction hr with
 |nil=>
  refine⟨trivial,rfl,hI.vs.gs,abE hc hI hN,λn hn=> ?_,rfl,λa ha=>absurd ha (kJ _),λx hx=>absurd hx nU⟩;have:n=0:=aD hn
  subst this;intro j hj;show(jf c s s.aH).getD j 0<=_;rw[abn hj];exact O8.1 hI.ov j hj
 | @snoc st mv ts i h hi hn ih=>
  obtain⟨ys,G⟩:=grp hc ih.gs hn;generalize hk:(ts.getD i.toNat aG).bB=k at G;have hlen:=ih.gs.len;have hkr:=PX G.us;have hst:=G.st;obtain⟨m1,m2,m3⟩:=apq hc ih.gs ih.pi hi G.sb G.act G.us G.nd G.y;rw[hst];have hcap0:Cw c s ts:=by have:=ih.cap st.length (gy _);rw[sF,ih.en]at this;exact this
  have hgl:(ys.map (jE k)++ [kE k i]).length=ys.length+1:=aj
  refine⟨(Jd _ _ _).2 ⟨ih.wD,by rw[ih.en];exact m1⟩,by rw[Gw,ih.en],yV _ ih.gs,ab0 _ m1 ih.pi,λn hn=> ?_,?_,λa ha hka=> ?_,λx hx=> ?_⟩
  .by_cases h1:n<=st.length
   .rw[Vq h1];exact ih.cap n h1
   .have e:(st++(ys.map (jE k)++ [kE k i])).take n=st++(ys.map (jE k)++ [kE k i]).take (n-st.length):=(by rw[abd,Ll ah]);rw[qp,hgl]at hn;rw[e,Gw,ih.en];by_cases h2:n-st.length<=ys.length
    .rw[Vq (by rw[kQ];exact h2),<-aa8];obtain⟨_,_,s3,_⟩:=aaz (s:=s) hc hkr (ys.take (n-st.length)) ih.gs ih.pi (G.nd.sublist (List.take_sublist _ _)) (λy hy=>by obtain⟨q1,q2,q3,_⟩:=G.y y (aiL hy);exact⟨q1,q2,q3⟩);intro j hj;exact wR (s3 j hj) (hcap0 j hj)
    .rw[Ll (by rw[hgl];omega)];intro j hj;by_cases hjk:(j:Int)=k
     .have:j=k.toNat:=ah;subst this;rw[m2];have:=G.enough;omega
     .exact wR (m3 j hj hjk) (hcap0 j hj)
  .rw[Ci,Pz,ih.Xd,Ci,aqG];rfl
  .by_cases h1:a<st.length
   .rw[GQ h1]at hka;obtain⟨kk,P⟩:=ih.pr a h1 hka;have hkk:=P.lt.2;have e1:(st++(ys.map (jE k)++ [kE k i])).getD a aG=st.getD a aG:=GQ h1;have e2:(st++(ys.map (jE k)++ [kE k i])).getD kk aG=st.getD kk aG:=GQ hkk;have e3:(st++(ys.map (jE k)++ [kE k i])).take (kk-1)=st.take (kk-1):=Vq ah;refine⟨kk,⟨P.lt.1,by rw[qp];omega⟩,λj q1 q2=> ?_,?_,?_,?_,?_,?_,?_,?_,?_⟩
    .rw[GQ];exact P.sh j q1 q2
    .rw[e2];exact P.mv
    .rw[e1,e2];exact P.cell
    .rw[e1];exact P.rng
    .rw[e1];exact P.t1
    .rw[e2];exact P.t2
    .rw[e1,e2];exact P.pr
    .rw[e2,e3];exact P.wD
    .rw[e1,e2,e3];exact P.ov
   .obtain⟨b,rfl⟩:∃b,a=st.length+b:=⟨a-st.length,ah⟩;rw[qp,hgl]at ha;have hb:b<ys.length:=by
     rcases mI b ys.length with q|q
     .exact q
     .have:b=ys.length:=ah;subst this;have e:(st++(ys.map (jE k)++ [kE k i])).getD (st.length+ys.length) aG=kE k i:=(by rw[EF];have:=EF (a:=ys.map (jE k)) (b:=[kE k i]) (n:=0);rw[kQ,vk]at this;rw[this];rfl);rw[e]at hka;exact absurd hka (by show¬(2:Int)=1;omega)
    have eA:∀j,j<ys.length->(st++(ys.map (jE k)++ [kE k i])).getD (st.length+j) aG=jE k (ys.getD j aG):=(by intro j hj;rw[EF,GQ (by rw[kQ];exact hj),ai3 hj]);have eK:(st++(ys.map (jE k)++ [kE k i])).getD (st.length+ys.length) aG=kE k i:=(by rw[EF];have:=EF (a:=ys.map (jE k)) (b:=[kE k i]) (n:=0);rw[kQ,vk]at this;rw[this];rfl);have eT:(st++(ys.map (jE k)++ [kE k i])).take (st.length+ys.length-1)=st++(ys.take (ys.length-1)).map (jE k):=(by rw[abd,Ll ah,Vq (by rw[kQ];omega),<-aa8];congr 3;omega);obtain⟨n1,n2,n3⟩:=apq (s:=s) hc ih.gs ih.pi hi G.sb G.act G.us (ys:=ys.take (ys.length-1)) (G.nd.sublist (List.take_sublist _ _)) (λy hy=>G.y y (aiL hy));have hy:=G.y _ (jw hb);refine⟨st.length+ys.length,⟨ah,by rw[qp,hgl];omega⟩,λj q1 q2=> ?_,?_,?_,?_,?_,?_,?_,?_,?_⟩
    .obtain⟨j',rfl⟩:∃j',j=st.length+j':=⟨j-st.length,ah⟩;rw[eA j' ah];rfl
    .rw[eK];show¬(2:Int)=1;omega
    .rw[eA b hb,eK];rfl
    .rw[eA b hb];exact hkr
    .rw[eA b hb];show 0<=ys.getD b aG/\ys.getD b aG<_;omega
    .rw[eK];show 0<=i/\i<_;omega
    .rw[eA b hb,eK];exact hy.2.2.2
    .rw[eK,eT,rH];exact(Jd _ _ _).2 ⟨ih.wD,by rw[ih.en];exact n1⟩
    .rw[eA b hb,eK,eT,rH,Gw,ih.en];show(c.aK.getD k.toNat aG).mg<(jf c s _).getD k.toNat 0;rw[n2];have:=G.last (ys.take (ys.length-1)) (ys.drop (ys.length-1)) (Vp _ _).symm (by intro e;have:=congrArg List.length e;simp at this;omega);omega
  .rcases oU.1 hx with q|q
   .exact ih.kd x q
   .rcases oU.1 q with q|q
    .obtain⟨y,_,rfl⟩:=qw.1 q;exact .inl rfl
    .rw[oV.1 q];exact .inr rfl
theorem ahQ{st:List eu}(h:lV c s ts st)(n:Nat):lV c s ts (st.take n):=by rw[<-Vp n st]at h;exact((Jd _ _ _).1 h).1
theorem aqQ{e:fH}(hl:e.bH.length<=100000)(kd:Int):Tj e kd=some ((e.bH.filter (λx=>x.aL==kd)).map (·.aI)):=by
 unfold Tj;apply o8;refine jX (L:=λm x i=>FM kd e.bH (e.bH.length:Int) m x i) e.bH.length ah (λk x=>x=((e.bH.take k).filter (λx=>x.aL==kd)).map (·.aI)) rfl ?_ ?_
 .rintro m k x hk rfl ih;show Ok (FM kd _ _ (m+1) _ k) _;have nx:=ih _ rfl;have hfl:=zY (λx:eu=>x.aL==kd) (e.bH.take k);rw[sD]at hfl;rw[um hk,Ci,Pw,aiC,Pz]at nx;rw[FM,eFZ,dJZ,gL];unfold Yt;rw[bIZ];cases hq:((e.bH.getD k aG).aL==kd)with|true=>rw[hq]at nx;rw[aY,mV (by simp only[qM,kQ];unfold room;omega)];exact nx|false=>rw[hq]at nx;simp only[nH,mJ,yR,nE]at nx;exact nx
 .rintro m x rfl;show Ok (FM kd _ _ (m+1) _ _) _;rw[FM,fAZ,sF];exact Ok.some rfl
end
structure FS(c:aM)(s:aN):Prop where
 tl:s.aH.length=c.aH.length
 cl:s.aK.length=c.aK.length
 t:∀x∈s.aH,(-1<=x.bL/\x.bL<(c.aK.length:Int))/\(-1<=x.bB/\x.bB<(c.aK.length:Int))
 mM:0<=s.eH/\s.eH<8
def aL9(c:aM)(t:bM)(r:Int):Bool:=((t.dZ&& !t.fC)&&decide (0<=t.bL))&&(jG c t.bL==r)
section
variable {c:aM} {s:aN} {r:Int}
end
def mv1(c:aM)(r:Int)(t:bM):bM:=
 bif aL9 c t r then {t with bL:=t.bB,bB:= -1,Next:= -1,dN:= -1}else t
section
variable {c:aM} {s:aN} {r:Int}
end
section
variable {c:aM} {s:aN} {ts:List bM}
theorem aIC(hc:VC c)(hI:Inv c s){i:Nat}(hi:i<s.aH.length)(hp:(s.aH.getD i aG).dZ=true)(hs:0<=(s.aH.getD i aG).bB):jG c (s.aH.getD i aG).bB≠jG c (s.aH.getD i aG).bL:=by have q:=hI.t i hi;have hh:=(hI.vs.t _ (jw hi)).pl hp;have:=aIL hh hs q.hs;unfold tC at this;simp only[dQ,AX,ow]at this;exact λe=>this.2 e.symm
theorem aJx(hc:VC c)(hI:Inv c s)(hN:NI s){r:Int}{st:List eu}{mv:List Int}(hr:Run c s s.aH st mv ts):mv.Nodup->(∀i∈mv,vK c s r i=true)→∀i:Nat,i<s.aH.length->vK c s r (i:Int)=true->(i:Int) ∉ mv->ts.getD i aG=s.aH.getD i aG:=by induction hr with
 |nil=>intro _ _ i _ _ _;rfl
 | @snoc st mv ts i0 h hi hn ih=>
  intro hnd hcb i hil hci hnm;have R:=ajc hc hI hN h;have hgl:=R.gs.len;have hvl:=hI.vs.tl;rw[Jh]at hnd;have hi0:i0 ∉ mv:=λq=>hnd.2.2 i0 q i0 aj rfl;have hnm':(i:Int) ∉ mv:=λq=>hnm (Cj _ q);have hne:(i:Int)≠i0:=λe=>hnm (by rw[e];simp);have ihK:=ih hnd.1 (λj hj=>hcb j (Cj _ hj));have e0:=ihK i0.toNat ah (by rw[show((i0.toNat:Nat):Int)=i0 by omega];exact hcb i0 aj) (by rw[show((i0.toNat:Nat):Int)=i0 by omega];exact hi0);have ei:=ihK i hil hci hnm';obtain⟨ys,G⟩:=grp hc R.gs hn;have hc0:=hcb i0 aj;unfold vK at hc0 hci;rw[dQ,Cn]at hc0 hci;have t0:aO s i0=s.aH.getD i0.toNat aG:=rfl;have ti:aO s (i:Int)=s.aH.getD i aG:=by unfold aO;rw[gL]
  have hrg:=PX G.us;rw[e0]at hrg G;have ql:=aIC hc hI (i:=i0.toNat) ah (Jb.1 hc0.1).1 hrg.1;have hiy:(i:Int) ∉ ys:=by intro q;have:=(G.y _ q).2.2.1;rw[gL,ei]at this;rw[ti,this]at hci;rw[t0]at hc0;exact ql (hci.2.trans hc0.2.symm)
  rw[G.st,Gw];obtain⟨s1,_,_,s4⟩:=aaz (s:=s) hc hrg ys R.gs R.pi G.nd (λy q=>by obtain⟨a,b,d,_⟩:=G.y y q;exact⟨a,b,d⟩);have:∀ts':List bM,(fq c s ts' [kE (s.aH.getD i0.toNat aG).bB i0]).getD i aG=ts'.getD i aG:=by intro ts';rw[fq,fq];cases nX c s ts' (kE (s.aH.getD i0.toNat aG).bB i0)with|false=>rfl|true=>rw[aY,Ja];show i0.toNat≠i;omega
  rw[this,s4 i hiy,ei]
def G7(f:Int->Int):List Int->Int
 | []=>0
 |x::l=>f x+G7 f l
theorem aoG(f:Int->Int){x:Int}:∀{l:List Int},x∈l->G7 f l=f x+G7 f (l.erase x)
 | [],h=>absurd h nU
 |y::l,h=>by
  by_cases e:y=x
  .subst e;rw[List.erase_cons_head,G7]
  .rw[List.erase_cons_tail (aD e),G7,G7];rcases Ck.1 h with h|h
   .exact absurd h.symm e
   .have:=aoG f h;omega
theorem aiw{f:Int->Int}(h0:∀x,0<=f x){F:Nat->Int}(JM:F 0=0)(hF:∀n:Nat,F (n+1)=F n+f (n:Int)):∀(n:Nat) (l:List Int),l.Nodup->(∀x∈l,0<=x/\x<(n:Int))->G7 f l<=F n
 |0,[],_,_=>by rw[JM];exact jh _
 |0,x::l,_,h=>by have:=h x qb;omega
 |n+1,l,hn,h=>by
  by_cases hm:(n:Int)∈l
  .rw[aoG f hm,hF]
   have:=aiw h0 JM hF n (l.erase (n:Int)) (hn.erase _) (λx hx=>by
    have h1:=h x (List.mem_of_mem_erase hx);have h2:x≠(n:Int):=λe=>by subst e;exact(hn.not_mem_erase) hx
    omega)
   omega
  .have:=aiw h0 JM hF n l hn (λx hx=>by
    have h1:=h x hx;have h2:x≠(n:Int):=λe=>by subst e;exact hm hx
    omega)
   rw[hF];have:=h0 (n:Int);omega
end
end Go.CP
