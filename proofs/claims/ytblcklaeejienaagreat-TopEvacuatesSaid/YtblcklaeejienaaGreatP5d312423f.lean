/- The load: what is booked, what a lost region would bring, and the headroom rule, as the program has it. -/
import Derived.KernelRfl
import Derived.Deep.Slices
import Derived.ChangeArms
import Derived.Below
import Derived.Test.YtblcklaeejienaaGreatP462a8de4d
set_option linter.defProp false
set_option linter.unusedSectionVars false
set_option linter.unusedSimpArgs false
set_option linter.unusedVariables false
namespace Go.CP
open Go
variable [Fuel]
structure FS(c:aN)(s:aO):Prop where
 tl:s.aH.length=c.aH.length
 cl:s.aJ.length=c.aJ.length
 t:∀x∈s.aH,(-1<=x.bC/\x.bC<(c.aJ.length:Int))/\(-1<=x.aT/\x.aT<(c.aJ.length:Int))
 lD:0<=s.d9/\s.d9<8
theorem aam{α:Type}(b:Bool)(x y:α):(bif b then some x else some y)=some (bif b then x else y):=by cases b<;>rfl
def w9(P:Nat->Bool):Nat->Nat->Bool
 |0,_=>true
 |j+1,k=>P k&&w9 P j (k+1)
theorem ahO{P:Nat->Bool}:∀{j k:Nat},w9 P j k=true→∀i,k<=i->i<k+j->P i=true
 |0,k,_,i,h1,h2=>ah
 |j+1,k,h,i,h1,h2=>by
  simp only[w9,dD]at h;by_cases e:i=k
  .exact e▸h.1
  .exact ahO h.2 i ah ah
def uM(c:aN)(t:bI)(r:Int):Bool:=((t.dN&& !t.eX)&&decide (0<=t.bC))&&(eF c t.bC==r)
def extra1(c:aN)(r:Int)(l:List Int)(t:bI)(d:iq):List Int:=
 bif(uM c t r&&decide (0<=t.aT))&&(eF c t.aT !=r)then pI l t.aT (d.dZ-d.jA)else l
def zn(c:aN)(r:Int)(ts:List bI):Nat->List Int->List Int
 |0,l=>l
 |k+1,l=>extra1 c r (zn c r ts k l) (ts.getD k aG) (c.aH.getD k aG)
def wR(c:aN)(s:aO)(r:Int):List Int:=zn c r s.aH s.aH.length (List.replicate c.aJ.length 0)
section
variable {c:aN} {s:aO} {r:Int}
theorem aH3(l:List Int)(t:bI)(d:iq):(extra1 c r l t d).length=l.length:=by unfold extra1;cases (uM c t r&&decide (0<=t.aT))&&(eF c t.aT !=r)<;>simp[qm]
theorem ag8(ts:List bI)(l:List Int):∀k,(zn c r ts k l).length=l.length
 |0=>rfl
 |k+1=>by rw[zn,aH3,ag8 ts l k]
theorem aI0:(wR c s r).length=c.aJ.length:=by unfold wR;rw[ag8];simp
theorem aiv(h:VC c){k:Nat}(hk:k<c.aH.length):0<=(c.aH.getD k aG).dZ-(c.aH.getD k aG).jA/\(c.aH.getD k aG).dZ-(c.aH.getD k aG).jA<=65536:=by have hv:=h.t _ (jk hk);have h1:=hv.load;have h2:=hv.shadow;omega
theorem aIY{l:List Int}{b:Int}{t:bI}{d:iq}(h:Bd l b)(hd:0<=d.dZ-d.jA/\d.dZ-d.jA<=65536):Bd (extra1 c r l t d) (b+65536):=by
 unfold extra1;cases (uM c t r&&decide (0<=t.aT))&&(eF c t.aT !=r)
 .intro x hx;have:=h x hx;omega
 .exact yI h hd
theorem ahv(h:VC c){ts:List bI}{l:List Int}(hl:Bd l 0):∀k,k<=c.aH.length->Bd (zn c r ts k l) (65536*k)
 |0,_=>by simpa[zn]using hl
 |k+1,hk=>by have:=aIY (c:=c) (r:=r) (t:=ts.getD k aG) (ahv h (ts:=ts) hl k ah) (aiv h (by omega:k<c.aH.length));intro x hx;have:=this x hx;push_cast;omega
theorem aJV(h:VC c)(hl:s.aH.length=c.aH.length):Bd (wR c s r) 2097152:=by have htl:=h.tl;intro x hx;have:=ahv h (r:=r) (ts:=s.aH) (abh c.aJ.length) s.aH.length ah x hx;omega
theorem apz(h:VC c){t:bI}(ht: -1<=t.bC/\t.bC<(c.aJ.length:Int)):UC c t r=some (uM c t r):=by
 unfold UC Uy uM;(try simp only[gF,bF])
 simp only[bD,Ay h,aam];cases hA:(t.dN&& !t.eX)with
 |false=>rfl
 |true=>
  simp only[kN];by_cases hh:0<=t.bC
  .have hr0:=Zm h (i:=t.bC) ⟨hh,ht.2⟩;rw[dU hh];simp only[kN];by_cases hr:0<=r
   .rw[dU hr];rfl
   .rw[fF hr];have:(eF c t.bC==r)=false:=ay;rw[this];rfl
  .have e:eF c t.bC= -1:=(by unfold eF;rw[cZ ah]);rw[e,fF hh];by_cases hr:0<=r
   .rw[dU hr];have:((-1:Int)==r)=false:=ay;simp[this]
   .rw[fF hr];rfl
theorem apart_eq(h:VC c){t:bI}(h1: -1<=t.bC/\t.bC<(c.aJ.length:Int))(h2: -1<=t.aT/\t.aT<(c.aJ.length:Int)):
  (uM c t r&&qx c t.bC t.aT)=((uM c t r&&decide (0<=t.aT))&&(eF c t.aT !=r)):=by
 rcases hl:uM c t r with _|_;rfl;unfold uM at hl;simp only[dD,oo,uE]at hl;obtain⟨⟨_,hh⟩,hr⟩:=hl;have g1:=Zm h (i:=t.bC) ⟨hh,h1.2⟩;unfold qx;rw[dU g1,hr];simp only[kN];by_cases hs:0<=t.aT
 .have g2:=Zm h (i:=t.aT) ⟨hs,h2.2⟩;rw[dU g2,dU hs];simp only[kN];rw[LK];simp only[yP,ne_eq];exact⟨λq w=>q w.symm,λq w=>q w.symm⟩
 .have e:eF c t.aT= -1:=by unfold eF;rw[cZ ah]
  rw[fF hs,e];rfl
theorem aob(h:VC c)(hf:FS c s){l0:List Int}(h0:Bd l0 0):
  ∀(m k:Nat),s.aH.length-k<m->k<=s.aH.length->OA c s r (s.aH.length:Int) m (zn c r s.aH k l0) (k:Int)=some (zn c r s.aH s.aH.length l0)
 |0,_,hm,_=>absurd hm (kF _)
 |m+1,k,hm,hk=>by
  have htl:=h.tl;have hl:=hf.tl;rw[OA];(try simp only[gF,bF])
  by_cases hlt:k<s.aH.length
  .have i1:0<=(k:Int)/\(k:Int)<(s.aH.length:Int):=ah;have i2:0<=(k:Int)/\(k:Int)<(c.aH.length:Int):=ah;have hb:Bd (zn c r s.aH k l0) 2097152:=(by intro x hx;have:=ahv h (r:=r) (ts:=s.aH) h0 k ah x hx;omega);have hd:=aiv h (by omega:k<c.aH.length);have hd2:=AB h (by omega:k<c.aH.length);have hT:=hf.t _ (jk hlt);rw[dU i1.2,idx_eq i1,idx_eq i2];simp only[aY,bD,gW,apz h hT.1,agO h,aam];rw[bL (x:=(c.aH.getD k aG).dZ-(c.aH.getD k aG).jA) ah ah,(zZ hb ah hd).2];unfold Zd;(try simp only[gF,bF])
   rw[bL (x:=(k:Int)+1) ah ah];have next:=aob h hf h0 m (k+1) ah ah
   have ec:((k+1:Nat):Int)=(k:Int)+1:=ah;rw[ec,zn]at next
   unfold extra1 at next
   rw[<-apart_eq h hT.1 hT.2]at next
   simp only[bD,qm,VL,bq,aY];rcases hA:uM c (s.aH.getD k aG) r with _|_;simp only[hA,nC,aZ]at next⊢;exact next
   simp only[hA,kN,aY]at next⊢
   rcases hB:qx c (s.aH.getD k aG).bC (s.aH.getD k aG).aT with _|_;simp only[hB,aZ]at next⊢;exact next
   simp only[hB,aY]at next⊢;exact next
  .rw[fF (show¬(k:Int)<(s.aH.length:Int)by omega)];have:k=s.aH.length:=ah;subst this;rfl
theorem aH6(h:VC c)(hf:FS c s):Z7 c s r=some (wR c s r):=by
 have hcl:=h.cl;have htl:=h.tl;have hl:=hf.tl;unfold Z7 wR KX;(try simp only[gF,bF])
 rw[dU ah];have:=aob h hf (r:=r) (abh c.aJ.length) fuel 0 aB ah;simpa[bq,zn,je,hl]using this
def Qa(c:aN)(s:aO)(t:bI)(r:Int):Bool:=
 !((decide (eF c t.aT<0)||(eF c t.aT==r))||hasB s.d9 (eF c t.aT))&&
  !(((s.aJ.getD t.aT.toNat aG).gJ !=1)||((s.aJ.getD t.aT.toNat aG).fI !=(s.aJ.getD t.aT.toNat aG).iN))
def ED(c:aN)(s:aO)(r:Int)(k:Nat):Bool:=
 !((eF c k !=r)&&decide ((c.aJ.getD k aG).lT<(nA c s).getD k aG+(wR c s r).getD k aG))
def Cg(c:aN)(s:aO)(r:Int)(k:Nat):Bool:= !(uM c (s.aH.getD k aG) r&& !Qa c s (s.aH.getD k aG) r)
def tL(c:aN)(s:aO)(r:Int):Bool:=
 bif decide (r<0)||decide (c.gH<=r)then false else w9 (ED c s r) c.aJ.length 0&&w9 (Cg c s r) s.aH.length 0
theorem ahi{i:Int}(h:VC c)(h1:i<(c.aJ.length:Int)):eF c i<0 ↔ i<0:=by
 constructor
 .intro q;rcases ab4 i 0 with h2|h2
  .exact h2
  .have:=Zm h (i:=i) ⟨h2,h1⟩;omega
 .intro q;unfold eF;rw[cZ ah];omega
theorem aId(h:VC c)(hf:FS c s){t:bI}(ht: -1<=t.aT/\t.aT<(c.aJ.length:Int)):Z8 c s t r=some (Qa c s t r):=by
 have hcl:=hf.cl;have hb:=agM h t.aT;have nX:=h.reg;have hev:=hf.lD;unfold Z8 Qa;(try simp only[gF,bF])
 simp only[Ay h,bD];rw[fF (show¬(s.aJ.length:Int)<=t.aT by omega),pG];by_cases hn:eF c t.aT<0
 .rw[dU hn];rfl
 .rw[fF hn];have hs0:¬t.aT<0:=λq=>hn ((ahi h ht.2).2 q);have i1:0<=t.aT/\t.aT<(s.aJ.length:Int):=ah
  cases hq:(eF c t.aT==r)with
  |true=>rfl
  |false=>
   simp only[jZ,aZ,idx_eq i1,bD];rw[Jh ah ah,dU (show(0:Int)<=eF c t.aT by omega),Qd];simp only[bq,aY,iF,IntKind.bits];have hp:(0:Int)<2^(eF c t.aT).toNat:=Wd ak;have hd0:0<=s.d9 / 2^(eF c t.aT).toNat:=ajR hev.1 (ab3 hp);have hd1:=Int.ediv_le_self (2^(eF c t.aT).toNat) hev.1;rw[Ef ah,fdiv_pow hev.1,and_one hd0];unfold hasB;rw[dU (show 0<=eF c t.aT/\eF c t.aT<62 by omega)];simp only[kN]
   rcases Int.emod_two_eq (s.d9 / 2^(eF c t.aT).toNat)with hm|hm<;>rw[hm]<;>simp only[bne]<;>
    cases ((s.aJ.getD t.aT.toNat aG).gJ==1)<;>cases ((s.aJ.getD t.aT.toNat aG).fI==(s.aJ.getD t.aT.toNat aG).iN)<;>rfl
theorem aoV(h:VC c)(hf:FS c s):∀(m k:Nat),s.aH.length-k<m->k<=s.aH.length->Te c s r (s.aH.length:Int) m (k:Int)=some (w9 (Cg c s r) (s.aH.length-k) k)
 |0,_,hm,_=>absurd hm (kF _)
 |m+1,k,hm,hk=>by
  have htl:=h.tl;have hl:=hf.tl;rw[Te];(try simp only[gF,bF])
  by_cases hlt:k<s.aH.length
  .have i1:0<=(k:Int)/\(k:Int)<(s.aH.length:Int):=ah;have hT:=hf.t _ (jk hlt);rw[dU i1.2,idx_eq i1];simp only[aY,bD,gW,apz h hT.1,aId h hf hT.2,aam];rw[bL (x:=(k:Int)+1) ah ah];have next:=aoV h hf m (k+1) ah ah
   have ec:((k+1:Nat):Int)=(k:Int)+1:=ah;rw[ec]at next
   rw[next];have es:s.aH.length-k=(s.aH.length-(k+1))+1:=ah;rw[es,w9];unfold Cg;cases uM c (s.aH.getD k aG) r<;>cases Qa c s (s.aH.getD k aG) r<;>rfl
  .rw[fF (show¬(k:Int)<(s.aH.length:Int)by omega)];have:s.aH.length-k=0:=ah;rw[this];rfl
theorem aoU(h:VC c)(hf:FS c s):∀(m k:Nat),c.aJ.length-k<m->k<=c.aJ.length->NZ c s r (nA c s) (wR c s r) c.aJ (c.aJ.length:Int) m (k:Int)=some (w9 (ED c s r) (c.aJ.length-k) k&&w9 (Cg c s r) s.aH.length 0)
 |0,_,hm,_=>absurd hm (kF _)
 |m+1,k,hm,hk=>by
  have hcl:=h.cl;have htl:=h.tl;have hl:=hf.tl;have bl:=KU c s;have xl:=aI0 (c:=c) (s:=s) (r:=r);rw[NZ];(try simp only[gF,bF])
  by_cases hlt:k<c.aJ.length
  .have i1:0<=(k:Int)/\(k:Int)<(c.aJ.length:Int):=ah;have i2:0<=(k:Int)/\(k:Int)<(((nA c s).length:Nat):Int):=ah;have i3:0<=(k:Int)/\(k:Int)<(((wR c s r).length:Nat):Int):=ah;have b1:=apg h hl _ (jk (by omega:k<(nA c s).length));have b2:=aJV h (r:=r) hl _ (jk (by omega:k<(wR c s r).length));rw[dU i1.2,idx_eq i1];simp only[aY,bD,gW,Ay h,Lv i2,Lv i3];rw[bL (x:=(k:Int)+1) ah ah];have next:=aoU h hf m (k+1) ah ah
   have ec:((k+1:Nat):Int)=(k:Int)+1:=ah;rw[ec]at next
   rw[next];have es:c.aJ.length-k=(c.aJ.length-(k+1))+1:=ah;rw[es,w9];unfold ED;cases (eF c k !=r)with|false=>rfl|true=>simp only[aY,kN];have hw:aQ ((nA c s).getD k aG+(wR c s r).getD k aG)=(nA c s).getD k aG+(wR c s r).getD k aG:=bLZ;simp only[hw];cases decide ((c.aJ.getD k aG).lT<(nA c s).getD k aG+(wR c s r).getD k aG)<;>rfl
  .rw[fF (show¬(k:Int)<(c.aJ.length:Int)by omega)];have:c.aJ.length-k=0:=ah;rw[this];have:=aoV h hf (r:=r) fuel 0 aB ah;simpa[KX,je,hl,w9]using this
theorem apE(h:VC c)(hf:FS c s):Ub c s r=some (tL c s r):=by
 have hcl:=h.cl;unfold Ub tL;(try simp only[gF,bF])
 rw[Uz h hf.tl,aH6 h hf];have:=aoU h hf (r:=r) fuel 0 aB ah;simp only[bD];have t2:NZ c s r (nA c s) (wR c s r) c.aJ (c.aJ.length:Int) fuel 0=_:=this;rw[t2,aam];rfl
end
def mv1(c:aN)(r:Int)(t:bI):bI:=
 bif uM c t r then {t with bC:=t.aT,aT:= -1,Next:= -1,dK:= -1}else t
def MH(c:aN)(r:Int)(t:bI)(d:iq)(j:Nat):Int:=
 bif(uM c t r&&decide (0<=t.aT))&&(eF c t.aT !=r)then hit t.aT (d.dZ-d.jA) j else 0
def JF(c:aN)(r:Int)(ts:List bI)(j:Nat):Nat->Int
 |0=>0
 |k+1=>JF c r ts j k+MH c r (ts.getD k aG) (c.aH.getD k aG) j
section
variable {c:aN} {s:aO} {r:Int}
theorem aH2(l:List Int)(t:bI)(d:iq){j:Nat}(hj:j<l.length):(extra1 c r l t d).getD j 0=l.getD j 0+MH c r t d j:=by unfold extra1 MH;cases (uM c t r&&decide (0<=t.aT))&&(eF c t.aT !=r)with|true=>exact zO l _ _ hj|false=>simp
theorem aoP(ts:List bI)(l:List Int){j:Nat}(hj:j<l.length):∀k,(zn c r ts k l).getD j 0=l.getD j 0+JF c r ts j k
 |0=>by simp[zn,JF]
 |k+1=>by rw[zn,aH2 _ _ _ (by rw[ag8];exact hj),aoP ts l hj k,JF];omega
theorem aIZ{j:Nat}(hj:j<c.aJ.length):(wR c s r).getD j 0=JF c r s.aH j s.aH.length:=by unfold wR;rw[aoP _ _ (aD hj),aqD];omega
end
section
variable {c:aN} {s:aO} {ts:List bI}
theorem aaz(hc:VC c)(hI:Inv c s){i:Nat}(hi:i<s.aH.length)(hp:(s.aH.getD i aG).dN=true)(hs:0<=(s.aH.getD i aG).aT):eF c (s.aH.getD i aG).aT≠eF c (s.aH.getD i aG).bC:=by have q:=hI.t i hi;have hh:=(hI.vs.t _ (jk hi)).pl hp;have:=ap3 hh hs q.hs;unfold qx at this;simp only[dD,yP,oo]at this;exact λe=>this.2 e.symm
theorem Vl(hc:VC c)(hI:Inv c s)(hN:NI s){r:Int}{st:List eU}{mv:List Int}(hr:Run c s s.aH st mv ts):mv.Nodup->(∀i∈mv,j3 c s r i=true)→∀i:Nat,i<s.aH.length->j3 c s r (i:Int)=true->(i:Int) ∉ mv->ts.getD i aG=s.aH.getD i aG:=by induction hr with
 |nil=>intro _ _ i _ _ _;rfl
 | @snoc st mv ts i0 h hi hn ih=>
  intro hnd hcb i hil hci hnm;have R:=LC hc hI hN h;have hgl:=R.gs.len;have hvl:=hI.vs.tl;rw[Ca]at hnd;have hi0:i0 ∉ mv:=λq=>hnd.2.2 i0 q i0 aj rfl;have hnm':(i:Int) ∉ mv:=λq=>hnm (wL _ q);have hne:(i:Int)≠i0:=λe=>hnm (by rw[e];simp);have ihK:=ih hnd.1 (λj hj=>hcb j (wL _ hj));have e0:=ihK i0.toNat ah (by rw[show((i0.toNat:Nat):Int)=i0 by omega];exact hcb i0 aj) (by rw[show((i0.toNat:Nat):Int)=i0 by omega];exact hi0);have ei:=ihK i hil hci hnm';obtain⟨ys,G⟩:=Xn hc R.gs hn;have hc0:=hcb i0 aj;unfold j3 at hc0 hci;rw[dD,uE]at hc0 hci;have t0:aL s i0=s.aH.getD i0.toNat aG:=rfl;have ti:aL s (i:Int)=s.aH.getD i aG:=by unfold aL;rw[gW]
  have hrg:=AZ G.us;rw[e0]at hrg G;have nX:=aaz hc hI (i:=i0.toNat) ah (D8.1 hc0.1).1 hrg.1;have hiy:(i:Int) ∉ ys:=by intro q;have:=(G.y _ q).2.2.1;rw[gW,ei]at this;rw[ti,this]at hci;rw[t0]at hc0;exact nX (hci.2.trans hc0.2.symm)
  rw[G.st,LB];obtain⟨s1,_,_,s4⟩:=aaR (s:=s) hc hrg ys R.gs R.pi G.nd (λy q=>by obtain⟨a,b,d,_⟩:=G.y y q;exact⟨a,b,d⟩);have:∀ts':List bI,(iR c s ts' [jw (s.aH.getD i0.toNat aG).aT i0]).getD i aG=ts'.getD i aG:=by intro ts';rw[iR,iR];cases nE c s ts' (jw (s.aH.getD i0.toNat aG).aT i0)with|false=>rfl|true=>rw[aY,Va];show i0.toNat≠i;omega
  rw[this,s4 i hiy,ei]
def rz(f:Int->Int):List Int->Int
 | []=>0
 |x::l=>f x+rz f l
theorem aif(f:Int->Int):∀a b,rz f (a++b)=rz f a+rz f b
 | [],b=>by simp[rz]
 |x::l,b=>by rw[I9,rz,rz,aif f l b];omega
theorem apb(f:Int->Int){x:Int}:∀{l:List Int},x∈l->rz f l=f x+rz f (l.erase x)
 | [],h=>absurd h l6
 |y::l,h=>by
  by_cases e:y=x
  .subst e;rw[List.erase_cons_head,rz]
  .rw[List.erase_cons_tail (aD e),rz,rz];rcases BZ.1 h with h|h
   .exact absurd h.symm e
   .have:=apb f h;omega
theorem aiW{f:Int->Int}(h0:∀x,0<=f x){F:Nat->Int}(JM:F 0=0)(hF:∀n:Nat,F (n+1)=F n+f (n:Int)):∀(n:Nat) (l:List Int),l.Nodup->(∀x∈l,0<=x/\x<(n:Int))->rz f l<=F n
 |0,[],_,_=>by rw[JM];exact jc _
 |0,x::l,_,h=>by have:=h x pE;omega
 |n+1,l,hn,h=>by
  by_cases hm:(n:Int)∈l
  .rw[apb f hm,hF]
   have:=aiW h0 JM hF n (l.erase (n:Int)) (hn.erase _) (λx hx=>by
    have h1:=h x (List.mem_of_mem_erase hx);have h2:x≠(n:Int):=λe=>by subst e;exact(hn.not_mem_erase) hx
    omega)
   omega
  .have:=aiW h0 JM hF n l hn (λx hx=>by
    have h1:=h x hx;have h2:x≠(n:Int):=λe=>by subst e;exact hm hx
    omega)
   rw[hF];have:=h0 (n:Int);omega
theorem as1(hc:VC c){r:Int}{t:bI}{d:iq}(hd:0<=d.dZ-d.jA)(j:Nat):0<=MH c r t d j:=by unfold MH;cases ((uM c t r&&decide (0<=t.aT))&&(eF c t.aT !=r))with|true=>exact AR hd j|false=>exact jc _
def Hg(c:aN)(s:aO)(r:Int)(j:Nat)(i:Int):Int:=MH c r (aL s i) (tn c i) j
theorem ah1(hc:VC c)(hI:Inv c s)(hN:NI s){r:Int}(hh:tL c s r=true){st:List eU}{mv:List Int}(hr:Run c s s.aH st mv ts):mv.Nodup->(∀i∈mv,(0<=i/\i<((c.aH.length:Nat):Int))/\j3 c s r i=true)→
  (st.filter (λx=>x.aM==1)=[])/\st.length=mv.length/\(∀j,j<c.aJ.length->(jv c s ts).getD j 0<=(jv c s s.aH).getD j 0+rz (Hg c s r j) mv)∧
  ∀i,(0<=i/\i<(c.aH.length:Int))->j3 c s r i=true->i ∉ mv->qj c s (aL s i).aT=true/\rR c s ts i<=0:=by
 have hvl:=hI.vs.tl;have hct:=hc.tl;unfold tL at hh;cases hb:(decide (r<0)||decide (c.gH<=r))with
 |true=>rw[hb]at hh;cases hh
 |false=>
 rw[hb,aZ,dD]at hh;have hroom:∀k,k<c.aJ.length->ED c s r k=true:=λk hk=>ahO hh.1 k (zk _) ah;have aLW:∀k,k<s.aH.length->Cg c s r k=true:=λk hk=>ahO hh.2 k (zk _) ah
 -- a candidate's jF
 have ab9:∀i,(0<=i/\i<(c.aH.length:Int))->j3 c s r i=true->qj c s (aL s i).aT=true/\eF c (aL s i).aT≠r/\0<=(aL s i).aT/\uM c (aL s i) r=true:=by
  intro i hi hcb;have Js:=hcb;unfold j3 at Js;rw[dD,uE]at Js;have hts:=hI.vs.t _ (jk (xs:=s.aH) (i:=i.toNat) ah);have hpl:=D8.1 Js.1;have hhome:0<=(aL s i).bC:=hts.pl hpl.1;have as6:uM c (aL s i) r=true:=by unfold uM;rw[hpl.1,hpl.2,dU hhome,Js.2];simp
  have hm:=aLW i.toNat ah;unfold Cg at hm;have et:s.aH.getD i.toNat aG=aL s i:=rfl;rw[et,as6,kN,Bool.not_not]at hm;unfold Qa at hm;simp only[dD,uL,ng,xV,rQ,Cc]at hm;obtain⟨⟨⟨m1,m2⟩,m3⟩,m4,m5⟩:=hm;have hsb:0<=(aL s i).aT:=by
   have:=ahi (i:=(aL s i).aT) hc hts.sb.2;rcases ab4 (aL s i).aT 0 with q|q
   .exact absurd (this.2 q) m1
   .exact q
  refine⟨?_,m2,hsb,as6⟩;unfold qj oG;have e1:((bX s (aL s i).aT).gJ==1)=true:=by rw[uE];exact m4
  have e2:((bX s (aL s i).aT).fI==(bX s (aL s i).aT).iN)=true:=by rw[uE];exact m5
  rw[dU hsb,dU (show(aL s i).aT<(c.aJ.length:Int)from hts.sb.2),e1,e2,m3];rfl
 have hex:∀i,(0<=i/\i<(c.aH.length:Int))->j3 c s r i=true->Hg c s r (aL s i).aT.toNat i=(tn c i).dZ-(tn c i).jA:=by
  intro i hi hcb;obtain⟨_,q2,q3,q4⟩:=ab9 i hi hcb;unfold Hg MH;have e:(eF c (aL s i).aT !=r)=true:=aD q2
  rw[q4,dU q3,e];simp only[Ba,aY];exact aaK ah
 have hdn:∀(j:Nat) (x:Int),0<=Hg c s r j x:=by
  intro j x;unfold Hg;by_cases hx:x.toNat<c.aH.length
  .have:=aiv hc hx;exact as1 hc this.1 j
  .have e:tn c x=aG:=(by unfold tn;rw[fC,wK ah];rfl);rw[e];exact as1 hc ak j
 have hmiss:∀(ts:List bI) (mv:List Int),(∀j,j<c.aJ.length->(jv c s ts).getD j 0<=(jv c s s.aH).getD j 0+rz (Hg c s r j) mv)->mv.Nodup->(∀i∈mv,(0<=i/\i<(c.aH.length:Int))/\j3 c s r i=true)→
   ∀i,(0<=i/\i<(c.aH.length:Int))->j3 c s r i=true->i ∉ mv->ts.getD i.toNat aG=aL s i->rR c s ts i<=0:=by
  intro ts mv hbk hnd hmv i hi hcb hnm het;obtain⟨q1,q2,q3,q4⟩:=ab9 i hi hcb;have hkr:=AZ q1
  have hle:=aiW (hdn (aL s i).aT.toNat) (F:=JF c r s.aH (aL s i).aT.toNat) rfl (λn=>by
   rw[JF];unfold Hg aL tn
   rw[gW]) c.aH.length (mv++ [i]) (by
    rw[Ca]
    exact⟨hnd,aj,λa ha b hb e=>by rw[qw]at hb;subst hb;subst e;exact hnm ha⟩) (λx hx=>by
    rcases qp.1 hx with q|q
    .exact(hmv x q).1
    .rw[qw.1 q];exact hi)
  rw[aif]at hle;have e1:rz (Hg c s r (aL s i).aT.toNat) [i]=(tn c i).dZ-(tn c i).jA:=by rw[rz,rz,hex i hi hcb];omega
  rw[e1]at hle;have hro:=hroom (aL s i).aT.toNat ah;unfold ED at hro;rw[show(((aL s i).aT.toNat:Nat):Int)=(aL s i).aT by omega]at hro;have e2:(eF c (aL s i).aT !=r)=true:=aD q2
  rw[e2,kN,uL,xV]at hro;have e3:(wR c s r).getD (aL s i).aT.toNat aG=JF c r s.aH (aL s i).aT.toNat s.aH.length:=aIZ ah;rw[e3,hvl]at hro;have hb2:=hbk (aL s i).aT.toNat ah;have e4:(nA c s).getD (aL s i).aT.toNat aG=(jv c s s.aH).getD (aL s i).aT.toNat 0:=rfl;rw[e4]at hro;unfold rR;rw[het];omega
 induction hr with
 |nil=>intro _ _;refine⟨rfl,rfl,λj _=>by rw[rz];omega,λi hi hcb _=>⟨(ab9 i hi hcb).1,?_⟩⟩;exact hmiss s.aH [] (λj _=>by rw[rz];omega) abx (λi hi=>absurd hi l6) i hi hcb l6 rfl
 | @snoc st mv ts i0 h hi hn ih=>
  intro hnd hcb;have hnd':=hnd;rw[Ca]at hnd;obtain⟨i1,i2,i3,i4⟩:=ih hnd.1 (λj hj=>hcb j (wL _ hj));have R:=LC hc hI hN h;have hgl:=R.gs.len;have hi0:i0 ∉ mv:=λq=>hnd.2.2 i0 q i0 aj rfl;obtain⟨hr0,hc0⟩:=hcb i0 aj;obtain⟨ys,G⟩:=Xn hc R.gs hn;have hkeep:=Vl hc hI hN (r:=r) h hnd.1 (λj hj=>(hcb j (wL _ hj)).2);have et:=hkeep i0.toNat ah (by rw[show((i0.toNat:Nat):Int)=i0 by omega];exact hc0) (by rw[show((i0.toNat:Nat):Int)=i0 by omega];exact hi0);have hys:ys=[]:=by rcases ys with _|⟨y,r⟩;rfl;have:=G.last [] (y::r) rfl aj;have h0:=(i4 i0 hr0 hc0 hi0).2;simp only[ug]at this;omega
  subst hys;have hst:kK c s ts i0=[jw (ts.getD i0.toNat aG).aT i0]:=G.st;have hp:nE c s ts (jw (ts.getD i0.toNat aG).aT i0)=true:=ahD hi G.us G.act rfl;have hbk':∀j,j<c.aJ.length->(jv c s (iR c s ts (kK c s ts i0))).getD j 0<=(jv c s s.aH).getD j 0+rz (Hg c s r j) (mv++ [i0]):=by
   intro j hj;rw[hst,Jg hp];show(jv c s (mV ts _)).getD j 0<=_;obtain⟨b1,b2⟩:=ag3 hc R.gs R.pi hp hj;have h3:=i3 j hj;have h4:=hdn j i0;rw[aif,rz,rz];by_cases hjk:(j:Int)=(ts.getD i0.toNat aG).aT
   .rw[b2 hjk];have he:=hex i0 hr0 hc0;have et':ts.getD i0.toNat aG=aL s i0:=et;rw[et']at hjk;have:(aL s i0).aT.toNat=j:=ah;rw[this]at he;omega
   .have:=b1 hjk;omega
  refine⟨?_,?_,hbk',λi hir akH auu=>⟨(ab9 i hir akH).1,?_⟩⟩
  .rw[AO,i1,hst];rfl
  .rw[pY,pY,hst,i2];rfl
  .have hall:=Vl hc hI hN (r:=r) (Run.snoc h hi hn) hnd' (λj hj=>(hcb j hj).2) i.toNat ah (by rw[show((i.toNat:Nat):Int)=i by omega];exact akH) (by rw[show((i.toNat:Nat):Int)=i by omega];exact auu);exact hmiss _ _ hbk' hnd' hcb i hir akH auu hall
theorem aiX(hc:VC c):∀(l:List Int),(∀y∈l,0<=y/\y<(c.aH.length:Int))->0<=ug c l
 | [],_=>jc _
 |y::r,h=>by have h1:=ato hc (h y pE);have h2:=aiX hc r (λz hz=>h z (nR _ hz));rw[ug];omega
theorem VS.fs7(h:VS c s):FS c s:=⟨h.tl,h.cl,λx hx=>⟨(h.t x hx).lW,(h.t x hx).sb⟩,h.lD⟩
end
section
variable {c:aN} {s:aO} {e:aP} {ts:List bI}
theorem ag2(h:VC c)(hP:qz c e)(ht:s.bf<=e.bf/\0<=e.bf/\e.bf<=1073741824)(hcnt:s.eH<4096):iy c s e=Cn c (bump s e) e:=by have hvalid:A8 c e=true:=((valid_eq (e:=e) h).2).2 ⟨ht.2,hP⟩;unfold iy;rw[hvalid,fF (show¬4096<=s.eH by omega),fF (show¬e.bf<s.bf by omega)];rfl
theorem aG5(h:VC c)(k:e.aM=2)(t:eB c e)(ce:fG c e)(o:e.dx= -1)(ep:1<=e.bN/\e.bN<=1048576)(w:0<=e.From/\e.From<=1073741824/\0<=e.bV/\e.bV<=1073741824)(n:ig c e)(ht:s.bf<=e.bf/\0<=e.bf/\e.bf<=1073741824)(hcnt:s.eH<4096)
  (pl:(aL s e.aI).dN=true) (sb:e.aK=(aL s e.aI).aT) (nh:e.aK≠(aL s e.aI).bC) (md:(bX s e.aK).gJ=1) (e1:e.bN=(aL s e.aI).bN+1) (v1:e.N=(bX s e.aK).fI) (v2:(bX s e.aK).fI=(bX s e.aK).iN)
  (w1:e.bf<=e.From) (w2:e.From<=e.bf+c.iC) (w3:e.From<e.bV) (w4:e.bV-e.From<=c.iC) (w5:(aL s e.aI).dn.bV<=e.bf)
  (fit:qb c (gX (bump s e) e.aI (uW (aL s e.aI) e))=[]):iy c s e=(gX (bump s e) e.aI (uW (aL s e.aI) e),0):=by
 rw[ag2 h (.grant k t ce o ep w n) ht hcnt];unfold Cn;rw[k];show AQ c (bump s e) e=_;unfold AQ;have t0:aL (bump s e) e.aI=aL s e.aI:=rfl;have c0:bX (bump s e) e.aK=bX s e.aK:=rfl;have b1:(!(aL s e.aI).dN||((aL s e.aI).eX&&(e.aK !=(aL s e.aI).aT)))=false:=by rw[pl,sb];simp
 have b2:(((e.aK !=(aL s e.aI).bC)&&(e.aK !=(aL s e.aI).aT))&&(e.aK !=(aL s e.aI).dK))=false:=by rw[<-sb];simp
 have hg:AJ c (bump s e) e=0:=by
  unfold AJ;have hn:(e.aK==(aL s e.aI).bC)=false:=aD nh
  simp only[t0,c0,hn,md,jG,kN,nC,jZ];rw[show((1:Int)==3)=false from rfl,show((1:Int)==2)=false from rfl];have a1:(e.bN !=(aL s e.aI).bN+1)=false:=by rw[e1];simp
  have a2:((e.N !=(bX s e.aK).fI)||((bX s e.aK).fI !=(bX s e.aK).iN))=false:=by rw[v1,v2];simp
  rw[a1,a2];rw[fF ah,fF ah,fF ah,fF ah,fF (show¬e.From<(aL s e.aI).dn.bV by omega),fF (show¬e.bf<(aL s e.aI).dn.bV by omega)];rfl
 simp only[t0];rw[b1,b2,hg];show nN c _=_;rw[ar7 fit]
def EI(s:aO):Prop:=∀t∈s.aH,t.bN<=s.eH
theorem Ej(h:EI s){t:bI}(ht:t.bN<=s.eH+1):EI (gX (bump s e) e.aI t):=by
 intro x hx;show x.bN<=s.eH+1;rcases Gm hx with q|q
 .have:=h x q;omega
 .rw[q];exact ht
theorem I8(h:EI s){s':aO}(h1:s'.aH=s.aH)(h2:s'.eH=s.eH+1):EI s':=by intro x hx;rw[h1]at hx;have:=h x hx;omega
theorem aKJ(h:VC c)(hI:Inv c s)(hE:EI s){s':aO}(hs:Step c s e s'):EI s':=by
 have hat:∀(t:eB c e),(aL s e.aI).bN<=s.eH:=by intro t;have:=hI.vs.tl;unfold eB at t;exact hE _ (jk (xs:=s.aH) (i:=e.aI.toNat) ah)
 cases hs with
 |place k t ce o np m1 m2 f1 f2 y1 y2 fit=>exact Ej hE (by have:=hat t;show(aL s e.aI).bN<=_;omega)
 |grant k t ce ep w n pl sh cl m1 m2 eq v1 v2 w1 w2 w3 w4 w5 w6 fit=>
  refine Ej hE ?_;have:=hat t;have he:(uW (aL s e.aI) e).bN=e.bN:=by unfold uW;cases (e.aK==(aL s e.aI).bC)<;>cases (e.aK==(aL s e.aI).aT)<;>rfl
  rw[he];rcases eq with q|q<;>omega
 |cut k t pl ep ep1=>exact Ej hE (by have:=hat t;show(aL s e.aI).bN<=_;omega)
 |Vn k t ce pl fit=>exact Ej hE (by have:=hat t;show(aL s e.aI).bN<=_;omega)
 |jF k t ce pl n1 n2 n3 m1 f1 y1 t1 t2 fit=>exact Ej hE (by have:=hat t;show(aL s e.aI).bN<=_;omega)
 |ready k t ce pl n1 m1=>exact Ej hE (by have:=hat t;show(aL s e.aI).bN<=_;omega)
 |migrate k t ce pl sh tg n1 n2 n3 m1 f1 y1 t1 t2 fit=>exact Ej hE (by have:=hat t;show(aL s e.aI).bN<=_;omega)
 |abandon k t pl tg=>exact Ej hE (by have:=hat t;show(aL s e.aI).bN<=_;omega)
 |shed k t n pl sh w=>exact Ej hE (by have:=hat t;show(aL s e.aI).bN<=_;omega)
 |back k t n sh m1 fit=>exact Ej hE (by have:=hat t;show(aL s e.aI).bN<=_;omega)
 |mode k ce n m1=>exact I8 hE rfl rfl
 |want k ce n n1 v1 v2 f=>exact I8 hE rfl rfl
 |runs k ce n n1 n2 f w=>exact I8 hE rfl rfl
 |prove k n n1 b=>exact I8 hE rfl rfl
 |lD k o n n1=>exact I8 hE rfl rfl
 |expand k h1 h2 h3=>exact I8 hE rfl rfl
 |contract k h1=>exact I8 hE rfl rfl
 |note k=>exact I8 hE rfl rfl
theorem aLH:EI (newS c):=by intro t ht;have:t=uV:=Ll ht;rw[this];exact jc _
theorem aMc(h:VC c)(l:List aP):∀s,Inv c s->EI s->xE c s l->EI (vY c s l):=by induction l with|nil=>intro s _ hN _;exact hN|cons e l ih=>intro s hI hN ho;exact ih _ (aaL h hI ho.1) (aKJ h hI hN (UQ h ho.1).2.2.2) ho.2
theorem RS.ei(h:VC c)(hr:RS c s):EI s:=by obtain⟨o,q⟩:=hr;rw[<-q.run];exact aMc h o _ (Li h) aLH q.ok
structure Alike(a b:bI):Prop where
 pl:a.dN=b.dN
 sh:a.eX=b.eX
 ho:a.bC=b.bC
 sb:a.aT=b.aT
 nx:a.Next=b.Next
 tg:a.dK=b.dK
theorem Alike.dl{a b:bI}(h:Alike a b)(d:iq)(j:Nat):dl a d j=dl b d j:=by unfold CP.dl;rw[h.pl,h.sh,h.ho,h.sb,h.nx,h.tg]
structure aQM(c:aN)(s:aO)(ts:List bI)(now:aO)(bZ:Int)(n:Nat):Prop where
 inv:Inv c now
 ei:EI now
 len:now.aH.length=ts.length
 al:∀i,i<ts.length->Alike (now.aH.getD i aG) (ts.getD i aG)
 cl:now.aJ=s.aJ
 cnt:now.eH=s.eH+n
 tk:now.bf<=bZ
 win:∀i,i<ts.length->(now.aH.getD i aG).dn.bV<=bZ+1
 lim:bZ<=3000000+n
theorem apa{a b:List bI}{j:Nat}:∀n,(∀i,i<n->Alike (a.getD i aG) (b.getD i aG))->ru c a j n=ru c b j n
 |0,_=>rfl
 |n+1,h=>by rw[ru,ru,apa n (λi hi=>h i ah),(h n ah).dl]
theorem aoy{x:bI}{i:Int}(hi:i.toNat<s.aH.length):(gX (bump s e) i x).aH.getD i.toNat aG=x:=pV hi
end
section
variable {c:aN} {s:aO} {ts:List bI}
structure akj(c:aN)(s:aO)(mv:List Int)(ts:List bI)(now:aO)(t:Int):Prop where
 inv:Inv c now
 len:now.aH.length=ts.length
 al:∀i,i<ts.length->Alike (now.aH.getD i aG) (ts.getD i aG)
 cl:now.aJ=s.aJ
 cnt:now.eH=s.eH+(mv.length:Nat)
 tk:now.bf<=t
 kp:∀i,0<=i->i ∉ mv->aL now i=aL s i
theorem aIa{now:aO}(hlen:now.aH.length=ts.length)(al:∀i,i<ts.length->Alike (now.aH.getD i aG) (ts.getD i aG))(hcap:Qh c s ts):qb c now=[]:=by rw[Pp];intro j hj;have h:=hcap j hj;rw[abF hj]at h;rw[hlen];exact wS (Int.le_of_eq (apa _ al)) h
theorem aI3(hc:VC c)(hrs:RS c s)(hcn:s.eH<=100){r t:Int}(ht:s.bf<=t/\t<=1000000000)(hh:tL c s r=true){st:List eU}{mv:List Int}(hr:Run c s s.aH st mv ts){i:Int}(hn:(mv++ [i]).Nodup)
  (hm:∀j∈mv++ [i],(0<=j/\j<(c.aH.length:Int))/\j3 c s r j=true) (hl:mv.length<=32) (hw:(aL s i).dn.bV<=t) {q:SE} (L:akj c s mv ts q.1 t):
  (ME c t q i).2=q.2++ [gE c q.1 i t]∧∃st' ts',Run c s s.aH st' (mv++ [i]) ts'/\akj c s (mv++ [i]) ts' (ME c t q i).1 t:=by
 have hI:=hrs.inv hc;have hN:=hrs.ni hc;have hn1:=Ca.1 hn;have hmv:∀j∈mv,(0<=j/\j<(c.aH.length:Int))/\j3 c s r j=true:=λj hj=>hm j (wL _ hj);obtain⟨hir,hcb⟩:=hm i aj;have him:i ∉ mv:=λw=>hn1.2.2 i w i aj rfl;obtain⟨_,_,_,f4⟩:=ah1 hc hI hN hh hr hn1.1 hmv;obtain⟨Xt,hmiss⟩:=f4 i hir hcb him;have R:=LC hc hI hN hr;have hgl:=R.gs.len;have ei:((i.toNat:Nat):Int)=i:=ah
 have hti:=Vl hc hI hN (r:=r) hr hn1.1 (λj hj=>(hmv j hj).2) i.toNat (by have:=hI.vs.tl;omega) (by rw[ei];exact hcb) (by rw[ei];exact him);have et:s.aH.getD i.toNat aG=aL s i:=rfl;rw[et]at hti;have hact:kX (aL s i)=true:=by unfold j3 at hcb;rw[dD]at hcb;exact hcb.1
 have hst:kK c s ts i≠ []:=by
  intro h0;have:=asv hc R.gs (s:=s) (i:=i) (by rw[hti];exact hact) (by rw[hti];exact Xt) h0
  have h2:0<=ug c (xu c ts (ts.getD i.toNat aG).aT (tn c i).iT):=aiX hc _ (λy hy=>by
   have:=(aiK hc R.gs hy).1
   omega)
  omega
 obtain⟨ys,G⟩:=Xn hc R.gs hst;have hys:ys=[]:=by rcases ys with _|⟨y,l⟩;rfl;have:=G.last [] (y::l) rfl aj;simp only[ug]at this;omega
 subst hys;have aNq:kK c s ts i=[jw (ts.getD i.toNat aG).aT i]:=G.st;have hi':0<=i/\i<(ts.length:Int):=ah
 have hp:nE c s ts (jw (ts.getD i.toNat aG).aT i)=true:=ahD hi' G.us G.act rfl;have hrun:=Run.snoc hr hi' hst;have R':=LC hc hI hN hrun;have akN:iR c s ts (kK c s ts i)=mV ts (jw (ts.getD i.toNat aG).aT i):=by rw[aNq,Jg hp];rfl
 rw[hti]at akN hp;have aMP:Qh c s (mV ts (jw (aL s i).aT i)):=by have:=R'.cap _ (gI _);rw[tF,R'.en,akN]at this;exact this
 -- the entry
 have Ju:=L.kp i hir.1 him;have Ra:=L.inv.vs;have hnl:=Ra.tl;have hpl:=D8.1 hact;have hsr:=AZ Xt;have hcs:bX q.1 (aL s i).aT=bX s (aL s i).aT:=by unfold bX;rw[L.cl]
 have QD:=Xt;unfold qj at QD;simp only[dD,oo,uE]at QD;have MK:TS c (aL s i):=hI.vs.t _ (jk (xs:=s.aH) (i:=i.toNat) (by have:=hI.vs.tl;omega));have hTI:=hI.t i.toNat (by have:=hI.vs.tl;omega);rw[et]at hTI;have hhome:=MK.pl hpl.1;have hep:=MK.ep;have hle:=hc.yg;have jB:=hrs.ei hc (aL s i) (jk (xs:=s.aH) (i:=i.toNat) (by have:=hI.vs.tl;omega));have Q9:(aL s i).aT≠(aL s i).bC:=by intro w;have:=aaW (c:=c) hsr.1;have h2:=hTI.hs;rw[<-w,this]at h2;cases h2
 have JN:gE c q.1 i t={aM:=2,bf:=t,aI:=i,aK:=(aL s i).aT,dx:=(-1),bN:=(aL s i).bN+1,From:=t,bV:=t+c.iC,N:=(bX s (aL s i).aT).fI:aP}:=by unfold gE;rw[Ju,hcs]
 have hfo:uW (aL q.1 i) (gE c q.1 i t)=yA c q.1 i t:=by
  unfold uW;have b1:((gE c q.1 i t).aK==(aL q.1 i).bC)=false:=by rw[JN,Ju];exact rQ.2 Q9
  have b2:((gE c q.1 i t).aK==(aL q.1 i).aT)=true:=by simp[gE]
  simp only[b1,b2,aZ,aY];unfold yA gE;rw[Ju,hpl.1]
 have hvr:0<=(bX s (aL s i).aT).fI/\(bX s (aL s i).aT).fI<(c.fD.length:Int):=(hI.vs.oK _ (jk (xs:=s.aJ) (i:=(aL s i).aT.toNat) (by have:=hI.vs.cl;omega))).run;have hlk:∀k,k<ts.length->Alike ((gX (bump q.1 (gE c q.1 i t)) i (yA c q.1 i t)).aH.getD k aG) ((mV ts (jw (aL s i).aT i)).getD k aG):=by
  intro k hk;by_cases w:i.toNat=k
  .subst w;rw[aoy (by rw[L.len];exact hk),show i.toNat=(jw (aL s i).aT i).aI.toNat from rfl,ap2 hk];show Alike _ (yE (ts.getD i.toNat aG) (jw (aL s i).aT i));rw[hti];unfold yE yA;rw[Ju];exact⟨hpl.1.symm,hpl.2.symm,rfl,rfl,rfl,rfl⟩
  .rw[aiT w,Va (show(jw (aL s i).aT i).aI.toNat≠k from w)];exact L.al k hk
 have as5:(gX (bump q.1 (gE c q.1 i t)) i (yA c q.1 i t)).aH.length=(mV ts (jw (aL s i).aT i)).length:=by show(q.1.aH.set _ _).length=_;rw[oQ,V5];exact L.len
 have hcnt:=L.cnt;have aQP:=Ra.bZ;have aQO:=L.tk;have e1:(gE c q.1 i t).aI=i:=rfl
 have hz:=aG5 (s:=q.1) (e:=gE c q.1 i t) hc rfl (by unfold eB;rw[e1];omega) (by unfold fG;rw[JN];exact hsr) rfl (by rw[JN];show 1<=(aL s i).bN+1/\(aL s i).bN+1<=1048576;omega) (by rw[JN];show 0<=t/\t<=1073741824/\0<=t+c.iC/\t+c.iC<=1073741824;omega) (by unfold ig;rw[JN];exact hvr) (by show q.1.bf<=t/\0<=t/\t<=1073741824;omega) ah
  (by rw[e1,Ju];exact hpl.1) (by rw[e1];rfl) (by rw[e1,Ju,JN];exact Q9) (by rw[JN];show(bX q.1 (aL s i).aT).gJ=1;rw[hcs];exact QD.1.2.1) (by rw[e1];rfl) (by rfl) (by rw[JN];show(bX q.1 (aL s i).aT).fI=(bX q.1 (aL s i).aT).iN;rw[hcs];exact QD.1.2.2) (by show t<=t;omega) (by show t<=t+c.iC;omega) (by show t<t+c.iC;omega) (by show t+c.iC-t<=c.iC;omega) (by rw[e1,Ju];exact hw)
  (by rw[e1,hfo];exact aIa as5 (λk hk=>hlk k (by rw[V5]at hk;exact hk)) aMP)
 rw[e1,hfo]at hz;have hent:uP c q.1 i t=(gE c q.1 i t,0):=by unfold uP;rw[hz,Ju,hpl.1];rw[dF (show¬i<0 by omega),dF (show¬(c.aH.length:Int)<=i by omega),dF (show¬t<0 by omega),dF (show¬1073741824<t by omega),dF (show¬(aL s i).aT<0 by omega)];rfl
 have aMR:(uP c q.1 i t).2=0:=by rw[hent]
 have akM:=ajK aMR;have hI':=aLx (i:=i) (t:=t) hc L.inv;rw[hz]at akM;refine⟨by rw[akM],_,_,hrun,?_⟩;rw[akN];rw[akM]at hI'⊢;refine⟨hI',as5,λk hk=>hlk k (by rw[V5]at hk;exact hk),L.cl,?_,?_,λj hj0 hj=> ?_⟩
 .show q.1.eH+1=_;rw[hcnt,pY,qo];push_cast;omega
 .show t<=t;omega
 .rw[qp,qw,not_or]at hj;show(gX (bump q.1 (gE c q.1 i t)) i (yA c q.1 i t)).aH.getD j.toNat aG=_;rw[aiT];exact L.kp j hj0 hj.1
end
def yD(bZ j:Int):aP:={aM:=9,bf:=bZ,aI:= -1,aK:=j,dx:= -1,bN:=0,From:=0,bV:=0,N:=3}
def rX(bZ r:Int):aP:={aM:=13,bf:=bZ,aI:= -1,aK:= -1,dx:=r,bN:=0,From:=0,bV:=0,N:=1}
section
variable {c:aN} {s s':aO} {e:aP}
theorem aJE(h:VC c){j bZ:Int}(hj:0<=j/\j<(c.aJ.length:Int))(ht:s.bf<=bZ/\0<=bZ/\bZ<=1073741824)(hcnt:s.eH<4096)(hm:(bX s j).gJ≠3):
  iy c s (yD bZ j)=(uf (bump s (yD bZ j)) j {bX s j with gJ:=3,p9:=bZ},0):=by
 rw[ag2 (e:=yD bZ j) h (.mode rfl rfl hj rfl ⟨rfl,rfl,rfl⟩ ⟨by show(1:Int)<=3;omega,by show(3:Int)<=3;omega⟩) ht hcnt];show EA (bump s (yD bZ j)) (yD bZ j)=_;unfold EA;rw[show((bX (bump s (yD bZ j)) (yD bZ j).aK).gJ==(yD bZ j).N)=false from rQ.2 hm];rfl
theorem ap6(h:VC c){r bZ:Int}(hr:0<=r/\r<c.gH)(ht:s.bf<=bZ/\0<=bZ/\bZ<=1073741824)(hcnt:s.eH<4096)(hb:hasB s.d9 r=false):
  iy c s (rX bZ r)=({bump s (rX bZ r)with d9:=wm .i64 s.d9 (iV .i64 1 (IntKind.u64.wrap r))},0):=by
 rw[ag2 (e:=rX bZ r) h (.lD rfl rfl rfl hr ⟨rfl,rfl,rfl⟩ (.inr rfl)) ht hcnt];show Ew (bump s (rX bZ r)) (rX bZ r)=_;unfold Ew;rw[show hasB (bump s (rX bZ r)).d9 (rX bZ r).dx=false from hb];rfl
theorem aKw:∀(a:Fin 8) (r q:Fin 3),hasB (wm .i64 (a.1:Int) (iV .i64 1 (IntKind.u64.wrap (r.1:Int)))) (q.1:Int)=if q=r then !hasB (a.1:Int) (q.1:Int)else hasB (a.1:Int) (q.1:Int):=by decide+kernel
theorem arO{a r q:Int}(ha:0<=a/\a<8)(hr:0<=r/\r<3)(hq:0<=q/\q<3):hasB (wm .i64 a (iV .i64 1 (IntKind.u64.wrap r))) q=if q=r then !hasB a q else hasB a q:=by
 have:=aKw ⟨a.toNat,ah⟩ ⟨r.toNat,ah⟩ ⟨q.toNat,ah⟩;simp only[show((a.toNat:Nat):Int)=a by omega,show((r.toNat:Nat):Int)=r by omega,show((q.toNat:Nat):Int)=q by omega,Fin.mk.injEq]at this;rw[this];by_cases w:q=r
 .rw[bU w,bU ah]
 .rw[cZ w,cZ ah]
theorem aas{r:Int}(hc:VC c)(ht:s'.aH=s.aH)(hv:VS c s)(hk:∀k,0<=k->k<((c.aJ.length:Nat):Int)->eF c k≠r->bX s' k=bX s k)(hb:∀q,0<=q->q<c.gH->q≠r->hasB s'.d9 q=hasB s.d9 q):tL c s' r=tL c s r:=by
 unfold tL;have e1:∀k,ED c s' r k=ED c s r k:=λk=>by unfold ED nA wR;rw[ht]
 have e2:∀k,k<s.aH.length->Cg c s' r k=Cg c s r k:=λk hk'=>by
  unfold Cg;rw[ht];congr 2;unfold Qa;have hts:=hv.t _ (jk hk');by_cases h0:eF c (s.aH.getD k aG).aT<0
  .rw[dT h0];rfl
  .by_cases h1:eF c (s.aH.getD k aG).aT=r
   .rw[show(eF c (s.aH.getD k aG).aT==r)=true by simpa using h1];simp
   .have hs0:0<=(s.aH.getD k aG).aT:=by
     rcases ab4 (s.aH.getD k aG).aT 0 with q|q
     .exact absurd ((ahi hc hts.sb.2).2 q) h0
     .exact q
    have hrb:=agM hc (s.aH.getD k aG).aT;have nX:=hc.reg;have:=hk _ hs0 hts.sb.2 h1;unfold bX at this;rw[this,hb _ ah ah h1]
 have e3:∀n k,w9 (ED c s' r) n k=w9 (ED c s r) n k:=λn=>by induction n with|zero=>intro k;rfl|succ n ih=>intro k;simp only[w9,e1,ih]
 have e4:∀n k,k+n<=s.aH.length->w9 (Cg c s' r) n k=w9 (Cg c s r) n k:=λn=>by induction n with|zero=>intro k _;rfl|succ n ih=>intro k hkn;simp only[w9];rw[e2 k ah,ih (k+1) ah]
 rw[e3,ht,e4 _ _ ah]
end
section
variable {p:List Int}
theorem rm{n:Nat}(h:n<=140737488355328:=by omega):n<=room:=h
theorem xX(x:Int):0<=IntKind.u64.wrap x/\IntKind.u64.wrap x<18446744073709551616:=by simp only[IntKind.wrap,IntKind.signed,IntKind.bits,nC,nD,mJ,show(2:Int)^64=18446744073709551616 from rfl];omega
theorem aIU(hp:p.length<=1000000):Z0 p 10=some p:=by unfold Z0;rw[bL (x:=(p.length:Int)+10) ah ah];rw[gZ (by exact dT ⟨ah,ah,ah,ah⟩),gZ (dT (rm ay))];rfl
theorem asA:∀(k m:Nat) (p:List Int) (x:Int),0<=x->x<128^(k+1)->k<m->p.length+k<=2000000->k<=20->Ok (OX m p x) (λr=>r.length<=p.length+(k+1))
 |_,0,_,_,_,_,hm,_,_=>absurd hm (kF _)
 |0,m+1,p,x,h0,h1,_,hp,_=>by rw[OX,fHZ,gZ (dT (rm ay))];exact Ok.some aj
 |k+1,m+1,p,x,h0,h1,hm,hp,hk=>by
  rw[OX];refine Ok.cond (λh=> ?_) (λ_=> ?_)
  .refine Ok.bq (dT (rm ay)) ?_;have e:iF .u64 x 7=x / 128:=(by unfold iF;rw[show(min (7:Int).toNat IntKind.u64.bits)=7 from rfl,show(2:Int)^7=128 from rfl,asU _ ah]);rw[e];have hx:x / 128<128^(k+1):=(by rw[Int.pow_succ]at h1;omega);exact(asA k m _ _ ah hx ah ay ah).mono λr hr=>by simp at hr;omega
  .exact Ok.bq (dT (rm ay)) (Ok.some aj)
theorem aKD(v:Int):Ok (aaC v) (λr=>0<=r/\r<18446744073709551616):=by unfold aaC;exact Ok.cond (λ_=>Ok.some (xX _)) (λ_=>Ok.some (xX _))
theorem Ce(v:Int)(hp:p.length<=1000000):Ok (qP p v) (λr=>r.length<=p.length+10):=by
 unfold qP;rw[aIU hp,bG];unfold ain;refine Ok.bind (P:=λr=>r.length<=p.length+10) (Ok.bind (aKD v) λx hx=> ?_) λr hr=>Ok.some hr;refine asA 9 fuel p x hx.1 ?_ aB ah ah;have:(128:Int)^(9+1)=1180591620717411303424:=ak
 omega
theorem ari(hp:p.length<=20):Ok (OI p) (λr=>r.length<=10*p.length):=by
 unfold OI;refine lJ (L:=λm x k=>Og p (p.length:Int) m x k) p.length ah (λk x=>x.length<=10*k) aj (λm k x hk hI hn=> ?_) (λm x hI=> ?_)
 .rw[Og,eZZ,dVZ];refine Ok.bind (Ce _ ah) λy hy=> ?_;rw[bLZ];exact hn y ah
 .rw[Og,fHZ];exact Ok.some hI
theorem apr(hp:p.length<=1000000)(x:Int):Ok (UU x p) (λ_=>True):=by
 unfold UU OZ;rw[bG];refine Ok.bind (P:=λ_=>True) ?_ (λr _=>Ok.some trivial);unfold agG;refine lJ (L:=λm y k=>Oa p p (p.length:Int) m y k) p.length ah (λk y=>True) trivial (λm k y hk hI hn=> ?_) (λm y hI=> ?_)
 .rw[Oa,eZZ,dVZ];unfold OZ;rw[bG,bLZ];exact hn _ trivial
 .rw[Oa,fHZ];exact Ok.some trivial
theorem V3{p:List Int}(hp:p.length<=60000):Ok (aar [] 8 p) (λr=>r.length<=p.length+18):=by
 unfold aar;rw[fHZ];refine Ok.bind (Ce _ aj) λy hy=>Ok.bind (apr ah _) λz _=> ?_;refine aiJ (L:=λm (x:List Int×Int) k=>IL p m x.1 x.2 k) 8 (λk x=>x.1.length<=10+k) (λm k x hk hI hn=> ?_) (λm x hI=> ?_) fuel 0 (y,z) ah aB (aD hy)
 .show Ok (IL p (m+1) x.1 x.2 _) _;rw[IL,eZZ,gZ (dT (rm ay)),bLZ];exact hn (x.1++ [IntKind.u8.wrap x.2],iF .u64 x.2 8) ay
 .show Ok (IL p (m+1) x.1 x.2 _) _;rw[IL,fHZ,gZ (dT (rm))];exact Ok.some ay
theorem aJH(e:aP):Ok (ZJ e) (λr=>r.length<=90):=by unfold ZJ;show Ok ((qP [] e.aM).bind λx1=>(qP x1 e.bf).bind λx2=>(qP x2 e.aI).bind λx3=>(qP x3 e.aK).bind λx4=>(qP x4 e.dx).bind λx5=>(qP x5 e.bN).bind λx6=>(qP x6 e.From).bind λx7=>(qP x7 e.bV).bind λx8=>(qP x8 e.N).bind λx9=>some x9) _;refine Ok.bind (Ce _ aj) λx1 h1=>Ok.bind (Ce _ (by simp at h1;omega)) λx2 h2=>Ok.bind (Ce _ (by simp at h1;omega)) λx3 h3=>Ok.bind (Ce _ (by simp at h1;omega)) λx4 h4=>Ok.bind (Ce _ (by simp at h1;omega)) λx5 h5=>Ok.bind (Ce _ (by simp at h1;omega)) λx6 h6=>Ok.bind (Ce _ (by simp at h1;omega)) λx7 h7=>Ok.bind (Ce _ (by simp at h1;omega)) λx8 h8=>Ok.bind (Ce _ (by simp at h1;omega)) λx9 h9=>Ok.some (by simp at h1;omega)
structure oI(d:bS)(b:Nat):Prop where
 lo:0<=d.qR
 hi:d.qR<=(d.data.length:Int)
 ln:d.data.length<=b
theorem oI.up{d:bS}{b b':Nat}(h:oI d b)(hb:b<=b'):oI d b':=⟨h.lo,h.hi,Cb h.ln hb⟩
theorem aqW{j:fU}{b:Nat}{r:List Int}(h:oI j.bW b)(hb:b<=1000000000)(hr:r.length<=150:=by omega):
  Ok (Nr j r) (λj'=>∃d,j'={j with bW:=d}/\oI d (b+170)):=by
 unfold Nr afW;have hd:=h.ln;refine Ok.bind (V3 ah) λy hy=> ?_;rw[fJ,gZ (dT (rm)),bG];exact Ok.some ⟨_,rfl,h.lo,by have:=h.hi;show j.bW.qR<=((j.bW.data++y).length:Int);simp;omega,by show(j.bW.data++y).length<=_;simp;omega⟩
theorem abj{j:fU}{b:Nat}(h:oI j.bW b):Ok (NA j) (λj'=>∃d,j'={j with bW:=d}/\oI d b):=by unfold NA agr;rw[bG];exact Ok.some ⟨_,rfl,by show(0:Int)<=(j.bW.data.length:Int);omega,jc _,h.ln⟩
end
abbrev LG:=List cO
def nk(l:LG)(i:Int):Int:=if 0<=i/\i<(l.length:Int)then(l.getD i.toNat aG).iB else 0
theorem aLw{l:LG}{i:Int}(h:i<0\/(l.length:Int)<=i):nk l i=0:=by unfold nk;rw[cZ ah]
theorem arK{l r:LG}{i:Int}(h:i<(l.length:Int):=by omega):nk (l++r) i=nk l i:=by
 unfold nk;by_cases h0:0<=i
 .rw[bU ⟨h0,ay⟩,bU ⟨h0,h⟩];congr 1;rw[fC,fC,pX ah]
 .rw[cZ ah,cZ ah]
theorem aKp{l:LG}{x:cO}:nk (l++ [x]) (l.length:Int)=x.iB:=by unfold nk;rw[bU ⟨ah,ay⟩];simp
theorem Er(j:fU)(i:Int):y8 j i=some (nk j.bT i):=by
 unfold y8 FD nk;by_cases h:0<=i/\i<(j.bT.length:Int)
 .rw[dF (show¬i<0 by omega),dF (show¬(j.bT.length:Int)<=i by omega),bU h];simp only[pG,aZ];rw[dV h.1 h.2];rfl
 .rw[cZ h];by_cases h1:i<0
  .rw[dT h1];rfl
  .rw[dT (show(j.bT.length:Int)<=i by omega)];simp
theorem aiC(r:bA)(hl:r.aS.bT.length<=1000000){i:Int}(hi:0<=i):Fv r i=some (r.aS.bT.drop i.toNat):=by
 unfold Fv;refine pJ ?_;have key:∀(m:Nat) (i:Nat) (acc:LG),r.aS.bT.length-i<m->acc.length<=i->Ok (Nc r m (i:Int) acc) (λx=>x=acc++r.aS.bT.drop i):=by intro m;induction m with
  |zero=>intro i acc h;omega
  |succ m ih=>
   intro i acc h ha;rw[Nc];unfold nu xI;rw[bG,bG];by_cases hi:i<r.aS.bT.length
   .rw[eZZ];unfold NH FD;rw[dF (show¬(i:Int)<0 by omega),dF (show¬(r.aS.bT.length:Int)<=(i:Int)by omega)];simp only[pG,aZ];rw[dVZ,bG,bG,gZ (dT (rm ay)),bLZ];have:=ih (i+1) (acc++ [r.aS.bT.getD i aG]) ah ay;rw[show((i+1:Nat):Int)=(i:Int)+1 by omega]at this;refine this.mono λx hx=> ?_;rw[hx,qU];congr 1;rw[Ec hi];simp[fC,hi]
   .rw[fHZ];exact Ok.some (by rw[PN ah,nK])
 have:=key fuel i.toNat [] aB aj;rw[show((i.toNat:Nat):Int)=i by omega]at this;simpa using this
theorem ZU{r:bA}{b:Nat}{t v:Int}(h:oI r.aS.bW b)(hb:b<=1000000)(ht:0<=t/\t<=1073741824)(hv: -1<=v/\v<5)
  (hc:r.aS.gM<t\/(r.aS.gM=t/\(r.aS.iW= -1\/r.aS.iW=v)):=by omega):
  Ok (Ng r t v) (λr'=>∃d,r'={r with aS:={bW:=d,gM:=t,iW:=v,bT:=r.aS.bT}}/\oI d (b+170)):=by
 unfold Ng aew R5;rw[dF (show¬t<0 by omega),dF (show¬1073741824<t by omega),dF (show¬v< -1 by omega),dF (show¬5<=v by omega),dF (show¬t<r.aS.gM by omega)];simp only[pG,jZ,aZ];have e:((t==r.aS.gM&&r.aS.iW != -1)&&r.aS.iW !=v)=false:=by
  rcases hc with hc|⟨h1,h2|h2⟩
  .rw[show(t==r.aS.gM)=false by rw[rQ];omega];rfl
  .rw[h2];simp
  .rw[h2];simp
 rw[e];simp only[aZ,bG,jY];refine Ok.bind (P:=λx=>∃d,x=(0,{bW:=d,gM:=t,iW:=v,bT:=r.aS.bT})/\oI d (b+170)) (Ok.bind (ari aj) λy hy=>Ok.bind (aqW (j:={r.aS with gM:=t,iW:=v}) h ah (by simp at hy;omega)) λz hz=> ?_) λx hx=> ?_
 .obtain⟨d,rfl,hd⟩:=hz;exact Ok.some ⟨d,rfl,hd⟩
 .obtain⟨d,rfl,hd⟩:=hx;refine Ok.bind (abj (j:={bW:=d,gM:=t,iW:=v,bT:=r.aS.bT}) hd) λz hz=> ?_;obtain⟨d',rfl,hd'⟩:=hz;exact Ok.some ⟨d',rfl,hd'⟩
def lastT(l:LG):Int:=nk l ((l.length:Int)-1)
theorem ahp{j:fU}{b:Nat}{t:Int}{e:aP}(h:oI j.bW b)(hb:b<=1000000)(ht:1<=t/\t<=1073741824)(hs:sG e=some true)(h1:t<=j.gM)(h2:lastT j.bT<=t)(hl:j.bT.length<4096):
  Ok (Sg j t e) (λx=>∃d,x=(0,{j with bW:=d,bT:=j.bT++ [⟨t,e⟩]})/\oI d (b+170)):=by
 unfold Sg SG;rw[dF (show¬t<1 by omega),dF (show¬1073741824<t by omega),dF (show¬j.gM<t by omega)];simp only[pG,jZ,jG,aY,hs,bG,gN,aZ];rw[bLZ,Er,bG,dF (show¬t<nk j.bT ((j.bT.length:Int)-1)from by unfold lastT at h2;omega),fHZ,aZ,gZ (dT (rm ay)),bG];simp only[jY,aZ];refine Ok.bind (ari aj) λy hy=>Ok.bind (aJH e) λz hz=> ?_;simp at hy;rw[gZ (dT (rm))];refine Ok.bind (aqW (j:={j with bT:=j.bT++ [⟨t,e⟩]}) h ah ay) λw hw=> ?_;obtain⟨d,rfl,hd⟩:=hw;exact Ok.some ⟨d,rfl,hd⟩
def gA(a:uZ):Nat->Int
 |0=>a.e0
 |1=>a.e1
 |2=>a.e2
 |_=>0
def sA(a:uZ)(v:Int):Nat->uZ
 |0=>{a with e0:=v}
 |1=>{a with e1:=v}
 |2=>{a with e2:=v}
 |_=>a
theorem VW(a:uZ)(v:Int){k i:Nat}(hk:k<3):gA (sA a v k) i=if i=k then v else gA a i:=by
 have:k=0\/k=1\/k=2:=ah
 rcases this with rfl|rfl|rfl<;>rcases i with _|_|_|i<;>simp[gA,sA]
def xg(r:bA)(k:Nat):bJ:=
 {aM:=3,From:=r.id,To:=(k:Int),iB:=r.aS.gM,gQ:=gA r.next k,l5:=nk r.aS.bT (gA r.next k-1),qW:=r.fM,OK:=false,mZ:=r.aS.bT.drop (gA r.next k).toNat}
theorem agC{r:bA}{k:Nat}(hk:k<3)(hl:r.aS.bT.length<=1000000)(hn:0<=gA r.next k/\gA r.next k<=1000000:=by omega):H6 r (k:Int)=some (xg r k):=by
 unfold H6 yF jl o9;simp only[bG];have:k=0\/k=1\/k=2:=ah
 rcases this with rfl|rfl|rfl<;>simp only[show(((0:Nat):Int)==4)=false from rfl,show(((0:Nat):Int)==3)=false from rfl,show(((0:Nat):Int)==2)=false from rfl,show(((0:Nat):Int)==1)=false from rfl,show(((0:Nat):Int)==0)=true from rfl,show(((1:Nat):Int)==4)=false from rfl,show(((1:Nat):Int)==3)=false from rfl,show(((1:Nat):Int)==2)=false from rfl,show(((1:Nat):Int)==1)=true from rfl,show(((2:Nat):Int)==4)=false from rfl,show(((2:Nat):Int)==3)=false from rfl,show(((2:Nat):Int)==2)=true from rfl,aY,aZ]<;>
 .unfold HV;simp only[gA]at hn;simp only[Er,bG];rw[aiC r hl hn.1,bLZ];rfl
def E5:Nat->List Nat
 |0=> [1,2]
 |1=> [0,2]
 |_=> [0,1]
theorem aqU{r:bA}{i:Nat}(hi:i<3)(hid:r.id=(i:Int))(hn:r.n=3)(hl:r.aS.bT.length<=1000000)(hx:∀k,k<3->0<=gA r.next k/\gA r.next k<=1000000):
  BF r=some ((E5 i).map (xg r)):=by
 unfold BF;rw[hn];obtain⟨f,hf⟩:∃f,fuel=f+4:=⟨18446744073709551612,by rw[iK]⟩;rw[hf];have a0:=agC (r:=r) (k:=0) ah hl (hx 0 ah);have a1:=agC (r:=r) (k:=1) ah hl (hx 1 ah);have a2:=agC (r:=r) (k:=2) ah hl (hx 2 ah);have:i=0\/i=1\/i=2:=ah
 rcases this with rfl|rfl|rfl<;>
  simp only[Hy,MW,hid,eZ (show(0:Int)<3 by omega),show aQ (0+1)=1 from rfl,show aQ (1+1)=2 from rfl,show aQ (2+1)=3 from rfl,eZ (show(1:Int)<3 by omega),eZ (show(2:Int)<3 by omega),fH (show¬(3:Int)<3 by omega),
   show(((0:Nat):Int))=0 from rfl,show(((1:Nat):Int))=1 from rfl,show(((2:Nat):Int))=2 from rfl]at a0 a1 a2⊢<;>
  simp[a0,a1,a2,bq,E5,room]
def JO(r:bA)(k:Nat)(m:Int):Bool:=(((k:Int) !=r.id)&&decide (m<=gA r.gL k))
def Qt(r:bA)(m:Int):Bool:=JO r 0 m||JO r 1 m||JO r 2 m
theorem arX{r:bA}{rc:Int->Option bA}{m:Int}(hn:r.n=3):BG rc m r.n r fuel 1 0=(bif Qt r m then some {r with fM:=m}else rc (aQ (m-1))):=by
 obtain⟨f,hf⟩:∃f,fuel=f+4:=⟨18446744073709551612,by rw[iK]⟩;rw[hf,hn];unfold Qt JO
 simp only[BG,H7,RG,RD,eZ (show(0:Int)<3 by omega),show aQ (0+1)=1 from rfl,show aQ (1+1)=2 from rfl,show aQ (2+1)=3 from rfl,eZ (show(1:Int)<3 by omega),eZ (show(2:Int)<3 by omega),fH (show¬(3:Int)<3 by omega),hn,gA,
  show((0:Int)==4)=false from rfl,show((0:Int)==3)=false from rfl,show((0:Int)==2)=false from rfl,show((0:Int)==1)=false from rfl,show((0:Int)==0)=true from rfl,show((1:Int)==4)=false from rfl,show((1:Int)==3)=false from rfl,show((1:Int)==2)=false from rfl,show((1:Int)==1)=true from rfl,show((2:Int)==4)=false from rfl,show((2:Int)==3)=false from rfl,show((2:Int)==2)=true from rfl,aY,aZ,
  show(((0:Nat):Int))=0 from rfl,show(((1:Nat):Int))=1 from rfl,show(((2:Nat):Int))=2 from rfl]
 rw[gZ (by cases ((0:Int) !=r.id)<;>rfl)]
 cases (((0:Int) !=r.id)&&decide (m<=r.gL.e0))<;>cases (((1:Int) !=r.id)&&decide (m<=r.gL.e1))<;>cases h2:(((2:Int) !=r.id)&&decide (m<=r.gL.e2))<;>
  simp only[aY,aZ,gZ (show(!((1:Int) !=r.id)||decide ((0:Int)<=1/\(1:Int)<((5:Nat):Int)))=true by cases ((1:Int) !=r.id)<;>rfl),gZ (show(!((2:Int) !=r.id)||decide ((0:Int)<=2/\(2:Int)<((5:Nat):Int)))=true by cases ((2:Int) !=r.id)<;>rfl),h2,show aQ (1+1)=2 from rfl,show aQ (2+1)=3 from rfl,show aQ (3+1)=4 from rfl,show aQ (2*1)=2 from rfl,show aQ (2*2)=4 from rfl,show aQ (2*3)=6 from rfl,show aQ (2*4)=8 from rfl,fH (show¬(3:Int)<2 by omega),eZ (show(3:Int)<4 by omega),eZ (show(3:Int)<6 by omega),eZ (show(3:Int)<8 by omega),pG,jZ,Qd,Ep]
theorem atu{r:bA}(hn:r.n=3)(hc:0<=r.fM)(hl:r.aS.bT.length<=1000000)
  (h:∀m:Int,r.fM<m->m<=(r.aS.bT.length:Int)->nk r.aS.bT (m-1)=r.aS.gM->Qt r m=false):zL r=some r:=by
 unfold zL nu xI;simp only[bG];have key:∀(f:Nat) (m:Int),(m-r.fM).toNat<f->m<=(r.aS.bT.length:Int)->H8 r f m=some r:=by intro f;induction f with
  |zero=>intro m hm;omega
  |succ f ih=>
   intro m hm hml;rw[H8];by_cases hd:r.fM<m
   .rw[eZ hd,bLZ,Er];unfold jl o9;simp only[bG];by_cases ht:nk r.aS.bT (m-1)=r.aS.gM
    .rw[ht,jY,aZ,arX hn,h m hd hml ht,aZ,bLZ];exact ih _ ah ah
    .rw[show(nk r.aS.bT (m-1) !=r.aS.gM)=true by simpa using ht,aY];unfold RD;rw[bLZ];exact ih _ ah ah
   .rw[fH hd]
 exact key fuel _ aB (jc _)
theorem aNb{r:bA}(hn:r.n=3)(hc:0<=r.fM)(hl:r.aS.bT.length<=1000000)(h1:r.fM<(r.aS.bT.length:Int))(h2:lastT r.aS.bT=r.aS.gM)(h3:Qt r (r.aS.bT.length:Int)=true):
  zL r=some {r with fM:=(r.aS.bT.length:Int)}:=by
 unfold zL nu xI;simp only[bG];obtain⟨f,hf⟩:∃f,fuel=f+1:=⟨18446744073709551615,by rw[iK]⟩;unfold lastT at h2;rw[hf,H8,eZ h1,bLZ,Er];unfold jl o9;simp only[bG];rw[h2,jY,aZ,arX hn,h3];rfl
structure PM(r:bA)(m:bJ):Prop where
 to:m.To=r.id
 fr:m.From≠r.id
 f0:0<=m.From
 f1:m.From<r.n
 t0:1<=m.iB
 t1:m.iB<=1073741824
 i0:0<=m.gQ
 i1:m.gQ<=4096
 p0:0<=m.l5
 p1:m.l5<=m.iB
 c0:0<=m.qW
 c1:m.qW<=4096
theorem aqz{r:bA}{m:bJ}(h:PM r m):Ib r m=(bif(m.aM==1)then Dp m m.aM (m.aM==1)else(bif(m.aM==2)then Dp m m.aM (m.aM==2)else Dp m m.aM (m.aM==4))):=by unfold Ib;have a:=h.to;have b:=h.fr;have c:=h.f0;have d:=h.f1;have e:=h.t0;have f:=h.t1;have g:=h.i0;have i:=h.i1;have j:=h.p0;have k:=h.p1;have l:=h.c0;have n:=h.c1;rw[show(m.To !=r.id)=false by simpa using a,show(m.From==r.id)=false by simpa using b,dF (show¬m.From<0 by omega),dF (show¬r.n<=m.From by omega),dF (show¬m.iB<1 by omega),dF (show¬1073741824<m.iB by omega),dF (show¬m.gQ<0 by omega),dF (show¬4096<m.gQ by omega),dF (show¬m.l5<0 by omega),dF (show¬m.iB<m.l5 by omega),dF (show¬m.qW<0 by omega),dF (show¬4096<m.qW by omega)];rfl
theorem aaP{r:bA}{m:bJ}(h:PM r m)(k:m.aM=1\/m.aM=2\/m.aM=4):Ib r m=some true:=by rw[aqz h];rcases k with k|k|k<;>rw[k]<;>rfl
theorem aKa{r:bA}{m:bJ}(h:PM r m)(k:m.aM=3)(ha:NK m=some true):Ib r m=some true:=by rw[aqz h,k];show Dp m 3 false=_;unfold Dp;rw[ha];rfl
theorem aK7{m:bJ}(h0:(m.l5=0 ↔ m.gQ=0))(h1:0<=m.gQ/\m.gQ<=4000)(hp:m.l5<=m.iB)(he:m.mZ=[]∨∃e,m.mZ=[⟨m.iB,e⟩]/\1<=m.iB/\sG e=some true):NK m=some true:=by
 unfold NK;obtain⟨f,hf⟩:∃f,fuel=f+2:=⟨18446744073709551614,by rw[iK]⟩;have e1:((m.l5==0)==(m.gQ==0))=true:=by
  by_cases q:m.gQ=0
  .rw[h0.2 q,q];rfl
  .rw[show(m.l5==0)=false by simpa using λx=>q (h0.1 x),show(m.gQ==0)=false by simpa using q];rfl
 have hl:m.mZ.length<=1:=by rcases he with h|⟨e,h,_⟩<;>rw[h]<;>simp
 rw[e1,bLZ,dF (show¬4096<m.gQ+(m.mZ.length:Int)by omega)];simp only[gN,pG,aZ];rw[hf];rcases he with h|⟨e,h,ht,hs⟩
 .rw[h,Nk];rfl
 .rw[h,Nk];simp only[qo];rw[eZZ,dV ah aj];simp only[show([(⟨m.iB,e⟩:cO)].getD (0:Int).toNat aG)=⟨m.iB,e⟩from rfl,hs,bG,gN,jZ];have hmx:jE 1 m.l5<=m.iB:=by unfold jE;split<;>omega
  rw[dF (show¬m.iB<jE 1 m.l5 by omega),dF (show¬m.iB<m.iB by omega)];simp only[pG,aZ];rw[Nk,show aQ (0+1)=1 from rfl];rfl
def Bu(j i T x:Int):bJ:={aM:=4,From:=j,To:=i,iB:=T,gQ:=x,l5:=0,qW:=0,OK:=true,mZ:=[]}
def Dk(r:bA)(k:Nat):bJ:={aM:=1,From:=r.id,To:=(k:Int),iB:=r.aS.gM,gQ:=(r.aS.bT.length:Int),l5:=lastT r.aS.bT,qW:=0,OK:=false,mZ:=[]}
def Bv(j i T:Int):bJ:={aM:=2,From:=j,To:=i,iB:=T,gQ:=0,l5:=0,qW:=0,OK:=true,mZ:=[]}
theorem aKs{r:bA}{i:Nat}(hi:i<3)(hid:r.id=(i:Int))(hn:r.n=3)(hl:r.aS.bT.length<=1000000):
  Na r=some ((E5 i).map (Dk r)):=by
 unfold Na;rw[hn];obtain⟨f,hf⟩:∃f,fuel=f+4:=⟨18446744073709551612,by rw[iK]⟩;rw[hf];have a:∀k:Nat,J6 (k:Int) r=some (Dk r k):=by intro k;unfold J6 yF jl o9 H9 nu xI;simp only[bG,Er];rw[bLZ];rfl
 have a0:=a 0;have a1:=a 1;have a2:=a 2;have:i=0\/i=1\/i=2:=ah
 rcases this with rfl|rfl|rfl<;>
  simp only[M6,Rx,hid,eZ (show(0:Int)<3 by omega),show aQ (0+1)=1 from rfl,show aQ (1+1)=2 from rfl,show aQ (2+1)=3 from rfl,eZ (show(1:Int)<3 by omega),eZ (show(2:Int)<3 by omega),fH (show¬(3:Int)<3 by omega),
   show(((0:Nat):Int))=0 from rfl,show(((1:Nat):Int))=1 from rfl,show(((2:Nat):Int))=2 from rfl]at a0 a1 a2⊢<;>
  simp[a0,a1,a2,bq,E5,room]
theorem aMN{r:bA}{b:Nat}{i j T cm:Int}{L es:LG}(hid:r.id=j)(hn:r.n=3)(hro:r.fP≠3)(rC:r.aS.gM=T)(wB:r.aS.bT=L)(hd:oI r.aS.bW b)(hb:b<=1000000)
  (hi:0<=i/\i<3/\i≠j) (hT:1<=T/\T<=1073741824) (hL:L.length<=3000) (hcm:0<=cm/\cm<=4096) (hco:r.fM<=(L.length:Int)) (hpos:∀x∈L,1<=x.iB) (hla:lastT L<=T)
  (hes:es=[]∨∃e,es=[⟨T,e⟩]/\sG e=some true):
  Ok (nP r {aM:=3,From:=i,To:=j,iB:=T,gQ:=(L.length:Int),l5:=lastT L,qW:=cm,OK:=false,mZ:=es})
   (λo=>∃d,o=([Bu j i T ((L.length+es.length:Nat):Int)],{r with aS:={bW:=d,gM:=T,iW:=r.aS.iW,bT:=L++es},fP:=1,fM:=jE r.fM (je cm ((L.length+es.length:Nat):Int))})/\oI d (b+170)):=by
 have hl1:es.length<=1:=by rcases hes with h|⟨e,h,_⟩<;>rw[h]<;>simp
 have hlast:(lastT L=0 ↔ (L.length:Int)=0)/\0<=lastT L:=by
  unfold lastT nk;by_cases q:L=[]
  .subst q;simp
  .have hp:0<L.length:=aja.2 q;rw[bU ah]
   have:=hpos (L.getD ((L.length:Int)-1).toNat aG) (by
    rw[fC,jN ah]
    exact yN _)
   omega
 unfold nP
 rw[aKa ⟨hid.symm,by rw[hid];exact hi.2.2,hi.1,by rw[hn];exact hi.2.1,hT.1,hT.2,by show(0:Int)<=(L.length:Int);omega,by show(L.length:Int)<=4096;omega,hlast.2,hla,hcm.1,hcm.2⟩ rfl
  (aK7 hlast.1 ⟨by show(0:Int)<=(L.length:Int);omega,by show(L.length:Int)<=4000;omega⟩ hla (by
   rcases hes with h|⟨e,h,hs⟩
   .exact .inl h
   .exact .inr ⟨e,h,hT.1,hs⟩))]
 unfold jl o9;simp only[bG,gN,aZ,rC];rw[fHZ];unfold Ia ad7 jl o9 nu xI;simp only[bG,rC,wB,show((3:Int)==1)=false from rfl,show((3:Int)==2)=false from rfl,show((3:Int)==3)=true from rfl,aZ,aY,show(r.fP==3)=false by simpa using hro];rw[fH (show¬T<T by omega),dF (show¬(L.length:Int)<(L.length:Int)by omega)];simp only[jG,kN,jZ]
 have e2:((bif decide (0<(L.length:Int))then y8 r.aS (aQ ((L.length:Int)-1))else some aG).bind λbQ=>
   (bif decide (0<(L.length:Int))&&bQ !=lastT L then
    (Fj {r with fP:=1} i (je (L.length:Int) (aQ ((L.length:Int)-1))) false).bind λdz=>some (dz,{r with fP:=1})
   else MZ {aM:=3,From:=i,To:=j,iB:=T,gQ:=(L.length:Int),l5:=lastT L,qW:=cm,OK:=false,mZ:=es} {r with fP:=1} fuel 0))=
   MZ {aM:=3,From:=i,To:=j,iB:=T,gQ:=(L.length:Int),l5:=lastT L,qW:=cm,OK:=false,mZ:=es} {r with fP:=1} fuel 0:=by
  by_cases q:0<(L.length:Int)
  .rw[dT q,aY,Er,bG,bLZ,wB];rw[show nk L ((L.length:Int)-1)=lastT L from rfl,jY];rfl
  .rw[dF q,aZ,bG];rfl
 have e3:=e2;rw[e3];refine Ok.bind (P:=λo=>∃d,o=([Bu j i T ((L.length+es.length:Nat):Int)],{r with aS:={bW:=d,gM:=T,iW:=r.aS.iW,bT:=L++es},fP:=1,fM:=jE r.fM (je cm ((L.length+es.length:Nat):Int))})/\oI d (b+170)) ?_ (λo ho=>by obtain⟨d,rfl,hd⟩:=ho;exact Ok.some ⟨d,rfl,hd⟩);obtain⟨f,hf⟩:∃f,fuel=f+2:=⟨18446744073709551614,by rw[iK]⟩;rw[hf,MZ];rcases hes with h|⟨e,h,hs⟩
 .subst h;simp only[xR,show decide ((0:Int)<((0:Nat):Int))=false from rfl,aZ,bG,nC];rw[abP (by intro h;cases h)];unfold Ru Fj yF jl o9;simp only[bG,xR,rC,hid];rw[bLZ];refine Ok.some ⟨r.aS.bW,?_,hd.up ah⟩;rw[nK,<-wB];simp[Bu,rC,nK];rw[<-rC]
 .subst h;simp only[qo,show decide ((0:Int)<((1:Nat):Int))=true from rfl,aY,kN];rw[Er,bG,Lv ⟨ah,aj⟩];simp only[show([(⟨T,e⟩:cO)].getD (0:Int).toNat aG)=⟨T,e⟩from rfl];rw[bLZ,wB,aLw (.inr ah),show((0:Int)==T)=false by rw[rQ];omega,aZ];rw[fH (by show¬(L.length:Int)+0<r.fM;omega),gZ (dT aj)];unfold aeE nu xI;simp only[bG,wB];rw[fHZ];unfold X0;refine Ok.bind (P:=λx=>∃d,x={r with aS:={bW:=d,gM:=T,iW:=r.aS.iW,bT:=L++ [⟨T,e⟩]},fP:=1}/\oI d (b+170)) ?_ (λx hx=> ?_)
  .simp only[show([(⟨T,e⟩:cO)].drop (0:Int).toNat)=[⟨T,e⟩]from rfl,qo];rw[hf,RH,eZZ,dV ah aj];simp only[show([(⟨T,e⟩:cO)].getD (0:Int).toNat aG)=⟨T,e⟩from rfl];refine Ok.bind (ahp (j:=r.aS) hd hb hT hs (by rw[rC];omega) (by rw[wB];exact hla) (by rw[wB];omega)) λx hx=> ?_;obtain⟨d,rfl,hd'⟩:=hx;rw[show aQ (0+1)=1 from rfl,RH,fHZ];refine Ok.bind (abj (j:={r.aS with bW:=d,bT:=r.aS.bT++ [⟨T,e⟩]}) hd') λx hx=> ?_;obtain⟨d',rfl,hd''⟩:=hx;exact Ok.some ⟨d',by rw[wB,<-rC],hd''⟩
  .obtain⟨d,rfl,hd'⟩:=hx;unfold Ru Fj yF jl o9;simp only[bG,qo,rC,hid];rw[bLZ];refine Ok.some ⟨d,?_,hd'⟩;simp only[Bu,rC];rfl
theorem aMO{r:bA}{k:Nat}{i T x:Int}(hid:r.id=i)(hn:r.n=3)(hro:r.fP=3)(rC:r.aS.gM=T)(hk:k<3)(hki:(k:Int)≠i)(hT:1<=T/\T<=1073741824)(hx:0<=x/\x<=(r.aS.bT.length:Int))(hl:r.aS.bT.length<=4000):
  nP r (Bu (k:Int) i T x)=(zL {r with gL:=sA r.gL (jE (gA r.gL k) x) k,next:=sA r.next (jE (gA r.gL k) x) k}).bind λr'=>some ([],r'):=by
 unfold Bu nP;rw[aaP ⟨hid.symm,by rw[hid];exact hki,by show(0:Int)<=(k:Int);omega,by rw[hn];show(k:Int)<3;omega,hT.1,hT.2,hx.1,by show x<=4096;omega,by show(0:Int)<=0;omega,by show(0:Int)<=T;omega,by show(0:Int)<=0;omega,by show(0:Int)<=4096;omega⟩ (.inr (.inr rfl))];unfold jl o9;simp only[bG,gN,aZ,rC];rw[fH (by show¬T<T;omega)];unfold Ia ad8 jl o9 nu xI;simp only[bG,rC,hro,show((4:Int)==1)=false from rfl,show((4:Int)==2)=false from rfl,show((4:Int)==3)=false from rfl,show((4:Int)==4)=true from rfl,aZ,aY,show((3:Int) !=3)=false from rfl,jG,jY,jZ,gN];rw[eZ hx.2];have:k=0\/k=1\/k=2:=ah
 rcases this with rfl|rfl|rfl<;>
  simp only[show(((0:Nat):Int)==4)=false from rfl,show(((0:Nat):Int)==3)=false from rfl,show(((0:Nat):Int)==2)=false from rfl,show(((0:Nat):Int)==1)=false from rfl,show(((0:Nat):Int)==0)=true from rfl,show(((1:Nat):Int)==4)=false from rfl,show(((1:Nat):Int)==3)=false from rfl,show(((1:Nat):Int)==2)=false from rfl,show(((1:Nat):Int)==1)=true from rfl,show(((2:Nat):Int)==4)=false from rfl,show(((2:Nat):Int)==3)=false from rfl,show(((2:Nat):Int)==2)=true from rfl,aY,aZ,
   J3,J2,XP,show((0:Int)==4)=false from rfl,show((0:Int)==3)=false from rfl,show((0:Int)==2)=false from rfl,show((0:Int)==1)=false from rfl,show((0:Int)==0)=true from rfl,show((1:Int)==4)=false from rfl,show((1:Int)==3)=false from rfl,show((1:Int)==2)=false from rfl,show((1:Int)==1)=true from rfl,show((2:Int)==4)=false from rfl,show((2:Int)==3)=false from rfl,show((2:Int)==2)=true from rfl,fT,bG,sA,gA,hro]
def LY(r:bA)(d:bS)(i:Nat):bA:=
 {r with aS:={bW:=d,gM:=r.aS.gM+1,iW:=(i:Int),bT:=r.aS.bT},fP:=2,nG:=iV .i64 1 (IntKind.u64.wrap (i:Int))}
theorem aG6{r:bA}{b i:Nat}(hi:i<3)(hid:r.id=(i:Int))(hn:r.n=3)(hd:oI r.aS.bW b)(hb:b<=1000000)(ht:0<=r.aS.gM/\r.aS.gM<=1000000)(hl:r.aS.bT.length<=1000000):
  Ok (y9 r) (λo=>∃d,o=((E5 i).map (Dk (LY r d i)),LY r d i)/\oI d (b+170)):=by
 unfold y9 jl o9;simp only[bG];rw[fHZ,bLZ];refine Ok.bind (ZU (r:=r) (t:=r.aS.gM+1) (v:=r.id) hd hb ah ah (.inl ah)) λx hx=> ?_;obtain⟨d,rfl,hd'⟩:=hx;refine Ok.bq (dT (xX _).1) ?_;simp only[hn,show((3:Int)==1)=false from rfl,aZ];have e:({r with aS:={bW:=d,gM:=r.aS.gM+1,iW:=r.id,bT:=r.aS.bT},fP:=2,nG:=iV .i64 1 (IntKind.u64.wrap r.id)}:bA)=LY r d i:=by unfold LY;rw[hid]
 rw[show({aS:={bW:=d,gM:=r.aS.gM+1,iW:=r.id,bT:=r.aS.bT},id:=r.id,n:=3,fP:=2,fM:=r.fM,nG:=iV .i64 1 (IntKind.u64.wrap r.id),next:=r.next,gL:=r.gL}:bA)=LY r d i by rw[<-e,<-hn]];rw[aKs (r:=LY r d i) hi hid hn hl,bG];exact Ok.some ⟨d,rfl,hd'⟩
theorem aLT{r:bA}{b:Nat}{i j T:Int}{L:LG}(hid:r.id=j)(hn:r.n=3)(rC:r.aS.gM<T)(wB:r.aS.bT=L)(hd:oI r.aS.bW b)(hb:b<=900000)
  (hi:0<=i/\i<3/\i≠j) (hT:1<=T/\T<=1073741824) (hL:L.length<=3000) (h0:0<=lastT L/\lastT L<=T):
  Ok (nP r {aM:=1,From:=i,To:=j,iB:=T,gQ:=(L.length:Int),l5:=lastT L,qW:=0,OK:=false,mZ:=[]})
   (λo=>∃d,o=([Bv j i T],{r with aS:={bW:=d,gM:=T,iW:=i,bT:=L},fP:=1})/\oI d (b+340)):=by
 unfold nP;rw[aaP ⟨hid.symm,by rw[hid];exact hi.2.2,hi.1,by rw[hn];exact hi.2.1,hT.1,hT.2,by show(0:Int)<=(L.length:Int);omega,by show(L.length:Int)<=4096;omega,h0.1,h0.2,by show(0:Int)<=0;omega,by show(0:Int)<=4096;omega⟩ (.inl rfl)];unfold jl o9;simp only[bG,gN,aZ];rw[eZ (show r.aS.gM<T from rC)];refine Ok.bind (ZU (r:=r) (t:=T) (v:= -1) hd ah ah ah (.inl rC)) λx hx=> ?_;obtain⟨d,rfl,hd'⟩:=hx;unfold Ia aeg H9 Nq Nn yF jl o9 nu xI;simp only[show((1:Int)==1)=true from rfl,aY,bG,Er,wB];rw[bLZ];simp only[show nk L ((L.length:Int)-1)=lastT L from rfl];rw[dF (show¬lastT L<lastT L by omega)];simp only[show((-1:Int)== -1)=true from rfl,gN,aZ,bG,Lu,jG,kN,aY,jZ,Ep,Gt,Ba];rw[dT (show(L.length:Int)<=(L.length:Int)by omega)];simp only[aY];refine Ok.bind (P:=λo=>∃d,o=([Bv j i T],{r with aS:={bW:=d,gM:=T,iW:=i,bT:=L},fP:=1})/\oI d (b+340)) ?_ (λo ho=>by obtain⟨d,rfl,hd⟩:=ho;exact Ok.some ⟨d,rfl,hd⟩);refine Ok.bind (ZU (r:={r with aS:={bW:=d,gM:=T,iW:= -1,bT:=L},fP:=1}) (t:=T) (v:=i) hd' ah ah ah (.inr ⟨rfl,.inl rfl⟩)) λy hy=> ?_;obtain⟨d2,rfl,hd2⟩:=hy;unfold XU;exact Ok.some ⟨d2,by simp only[Bv,hid],hd2.up ah⟩
def Ho(r:bA)(v:Int):bA:=
 {r with fP:=3,nG:=v,next:={e0:=(r.aS.bT.length:Int),e1:=(r.aS.bT.length:Int),e2:=(r.aS.bT.length:Int),e3:=r.next.e3,e4:=r.next.e4},gL:={e0:=0,e1:=0,e2:=0,e3:=r.gL.e3,e4:=r.gL.e4}}
theorem aKT{r:bA}(hn:r.n=3):NJ r=some (Ho r r.nG):=by
 unfold NJ;obtain⟨f,hf⟩:∃f,fuel=f+4:=⟨18446744073709551612,by rw[iK]⟩;rw[hf,hn]
 simp only[Fp,Ie,nu,xI,bG,eZ (show(0:Int)<3 by omega),show aQ (0+1)=1 from rfl,show aQ (1+1)=2 from rfl,show aQ (2+1)=3 from rfl,eZ (show(1:Int)<3 by omega),eZ (show(2:Int)<3 by omega),fH (show¬(3:Int)<3 by omega),
  show((0:Int)==4)=false from rfl,show((0:Int)==3)=false from rfl,show((0:Int)==2)=false from rfl,show((0:Int)==1)=false from rfl,show((0:Int)==0)=true from rfl,show((1:Int)==4)=false from rfl,show((1:Int)==3)=false from rfl,show((1:Int)==2)=false from rfl,show((1:Int)==1)=true from rfl,show((2:Int)==4)=false from rfl,show((2:Int)==3)=false from rfl,show((2:Int)==2)=true from rfl,aY,aZ]
 unfold Ho;rw[<-hn]
def vB(i k:Nat):Int:=um .i64 (iV .i64 1 (IntKind.u64.wrap (i:Int))) (iV .i64 1 (IntKind.u64.wrap (k:Int)))
theorem aMs:∀i k:Fin 3,i≠k->aQ (aQ (aQ (0+jd .i64 (iF .i64 (vB i.1 k.1) (IntKind.u64.wrap 0)) 1)+jd .i64 (iF .i64 (vB i.1 k.1) (IntKind.u64.wrap 1)) 1)+jd .i64 (iF .i64 (vB i.1 k.1) (IntKind.u64.wrap 2)) 1)=2:=ak
theorem aKN{r:bA}{i k:Nat}{T:Int}(hid:r.id=(i:Int))(hn:r.n=3)(hro:r.fP=2)(rC:r.aS.gM=T)(hv:r.nG=iV .i64 1 (IntKind.u64.wrap (i:Int)))(hk:k<3)(hi:i<3)(hki:i≠k)(hT:1<=T/\T<=1073741824)(hl:r.aS.bT.length<=4000):
  nP r (Bv (k:Int) (i:Int) T)=some ((E5 i).map (xg (Ho r (vB i k))),Ho r (vB i k)):=by
 unfold Bv nP;rw[aaP ⟨hid.symm,by rw[hid];show(k:Int)≠(i:Int);omega,by show(0:Int)<=(k:Int);omega,by rw[hn];show(k:Int)<3;omega,hT.1,hT.2,by show(0:Int)<=0;omega,by show(0:Int)<=4096;omega,by show(0:Int)<=0;omega,by show(0:Int)<=T;omega,by show(0:Int)<=0;omega,by show(0:Int)<=4096;omega⟩ (.inr (.inl rfl))];unfold jl o9;simp only[bG,gN,aZ,rC];rw[fH (by show¬T<T;omega)];unfold Ia XY jl o9;simp only[bG,rC,hro,show((2:Int)==1)=false from rfl,show((2:Int)==2)=true from rfl,aZ,aY,show((2:Int) !=2)=false from rfl,jG,jY,jZ,gN];rw[gZ (dT (xX _).1),hv];obtain⟨f,hf⟩:∃f,fuel=f+4:=⟨18446744073709551612,by rw[iK]⟩;rw[hn,hf];simp only[XQ,eZ (show(0:Int)<3 by omega),show aQ (0+1)=1 from rfl,show aQ (1+1)=2 from rfl,show aQ (2+1)=3 from rfl,eZ (show(1:Int)<3 by omega),eZ (show(2:Int)<3 by omega),fH (show¬(3:Int)<3 by omega),gZ (dT (xX _).1)];have hc:=aMs ⟨i,hi⟩ ⟨k,hk⟩ (by intro h;exact hki (aD h));simp only[vB]at hc;rw[hc];simp only[show decide (aQ (2*2)<=3)=false from rfl,aZ];rw[aKT (r:={aS:=r.aS,id:=r.id,n:=3,fP:=2,fM:=r.fM,nG:=_,next:=r.next,gL:=r.gL}) rfl,bG]
 rw[aqU (i:=i) hi (by exact hid) (by rfl) (by exact(by omega:r.aS.bT.length<=1000000)) (by
  intro q hq;have:q=0\/q=1\/q=2:=ah
  rcases this with rfl|rfl|rfl<;>simp only[Ho,gA]<;>omega)]
 simp only[bG];unfold Ho vB;rw[<-hn]
theorem aLS{r:bA}{i k T:Int}(hid:r.id=i)(hn:r.n=3)(hro:r.fP=3)(rC:r.aS.gM=T)(hk:0<=k/\k<3)(hki:k≠i)(hT:1<=T/\T<=1073741824):nP r (Bv k i T)=some ([],r):=by unfold Bv nP;rw[aaP ⟨hid.symm,by rw[hid];exact hki,hk.1,by rw[hn];exact hk.2,hT.1,hT.2,by show(0:Int)<=0;omega,by show(0:Int)<=4096;omega,by show(0:Int)<=0;omega,by show(0:Int)<=T;omega,by show(0:Int)<=0;omega,by show(0:Int)<=4096;omega⟩ (.inr (.inl rfl))];unfold jl o9;simp only[bG,gN,aZ,rC];rw[fH (by show¬T<T;omega)];unfold Ia XY;simp only[hro,show((2:Int)==1)=false from rfl,show((2:Int)==2)=true from rfl,aZ,aY,show((3:Int) !=2)=true from rfl,gN,bG,Ep]
section
variable {k:Nat}{x:bA}{m:bJ}{t:List bJ}{c:List aP}
abbrev RF:=Nat->bA
def qf(R:RF)(n:List bJ)(c:List aP):bP:={aU:=[R 0,R 1,R 2],bn:=n,kW:=c}
def upd(R:RF)(k:Nat)(x:bA):RF:=λi=>if i=k then x else R i
theorem nM{R:RF}:upd R k x k=x:=bU rfl
theorem upd_ne{R:RF}{i:Nat}(h:i≠k):upd R k x i=R i:=cZ h
theorem aNe(h:t.length<=1000000):Hw (m::t) 0 1=some t:=by
 have e1:jQ 0 t.length (m::t) t=t++(m::t).drop t.length:=by unfold jQ;rw[List.take_zero,Gn,tF,Lr,nL]
 have e2:(jQ 0 t.length (m::t) t).length=t.length+1:=by rw[e1];simp
 have e3:∀ys:List bJ,ys.length=1->(jQ t.length 1 (jQ 0 t.length (m::t) t) ys).length=t.length+1/\(jQ t.length 1 (jQ 0 t.length (m::t) t) ys).take t.length=t:=by
  intro ys hy;have e4:jQ t.length 1 (jQ 0 t.length (m::t) t) ys=t++(ys.take 1++((m::t).drop t.length).drop 1):=by rw[jQ,hy,e1,ajf,Lr,List.drop_append];simp
  rw[e4];exact⟨ay,by rw[ajf]⟩
 unfold Hw;simp only[zi,gW,show Int.toNat 0=0 from rfl,show Int.toNat 1=1 from rfl,nL,Nat.add_sub_cancel,List.drop_one,List.tail_cons,tF,show t.length+1-t.length=1 by omega,e2];obtain⟨e5,e6⟩:=e3 (List.replicate 1 aG) aj;rw[e5,e6];rw[gZ (dT ⟨ah,ah,ah,ah⟩),show((0:Int)==1)=false from rfl,aZ,gZ (dT ⟨ah,ah⟩),gZ (dT ⟨ah,ah,ah⟩),gZ (dT ah),gZ (dT ah),gZ (dT ⟨ah,ah,ah⟩),gZ (dT ah),gZ (dT ah)]
theorem apT{R:RF}(h:t.length<=1000000:=by omega):Np (qf R (m::t) c) 0=some (qf R t c):=by unfold Np;show(Hw (m::t) 0 (aQ (0+1))).bind _=_;rw[show aQ (0+1)=1 from rfl,aNe h];rfl
theorem aiR{R:RF}:∀{l bn:List bJ},bn.length+l.length<=256->sD (qf R bn c) l=some (qf R (bn++l) c):=by
 intro l bn h;unfold sD;have key:∀(f i:Nat) (bn:List bJ),l.length-i<f->i<=l.length->bn.length+(l.length-i)<=256->Kj l (l.length:Int) f (i:Int) (qf R bn c)=some (qf R (bn++l.drop i) c):=by intro f;induction f with
  |zero=>intro i bn h;omega
  |succ f ih=>
   intro i bn h hi hn;rw[Kj];by_cases q:i<l.length
   .rw[eZZ,dVZ];show(bif decide (256<=(bn.length:Int))then _ else R8 _ _ _ (qf R bn c))=_;rw[fHZ];unfold R8;rw[gZ (dT (rm (by show(bn.length+1)*88<=_;omega))),bLZ];show Kj l _ f ((i:Int)+1) (qf R (bn++ [l.getD (i:Int).toNat aG]) c)=_;rw[show((i:Int)+1)=((i+1:Nat):Int)by omega,ih (i+1) _ ah ah ay];rw[qU];congr 3;rw[Ec q];simp[fC,q]
   .rw[fHZ,PN ah,nK]
 exact key fuel 0 bn aB ah ah
def fO(l:LG):List aP:=l.map cO.kP
structure CB(r:bA):Prop where
 lo:0<=r.fM
 hi:r.fM<=(r.aS.bT.length:Int)
 ln:r.aS.bT.length<=1000000
def rE(c:List aP)(r:bA):List aP:=if r.fM<=(c.length:Int)then c else fO (r.aS.bT.take r.fM.toNat)
def nt(c:List aP)(R:RF):List aP:=rE (rE (rE c (R 0)) (R 1)) (R 2)
theorem Vw(r:bA)(h:r.aS.bT.length<=1000000):rG r=some r.aS.bT:=by unfold rG;first
 |rw[aiC r h (jc 0)];rfl
 |(rw[aiC r h (jc 0)];simp)
theorem aMB{R:RF}{n:List bJ}{c:List aP}{a b:Int}{l:LG}(hl:l.length<=1000000):∀(f i:Nat) (x:List aP),l.length-i<f->x.length<=i->i<=l.length->Nj a b l (l.length:Int) (qf R n c) f x (i:Int)=Ak a b (qf R n (x++fO (l.drop i))):=by intro f;induction f with
 |zero=>intro i x h;omega
 |succ f ih=>
  intro i x h hx hi;rw[Nj];by_cases q:i<l.length
  .rw[eZZ,dVZ,gZ (dT (rm (by show(x.length+1)*72<=_;omega))),bLZ,show((i:Int)+1)=((i+1:Nat):Int)by omega,ih (i+1) _ ah ay ah,qU];congr 4;rw[Ec q,show l.getD (i:Int).toNat aG=l[i]by simp[fC,q]];rfl
  .rw[fHZ,PN ah];show Ak a b (qf R n x)=Ak a b (qf R n (x++ []));rw[nK]
theorem aMC{R:RF}{n:List bJ}{c:List aP}{a b:Int}{l:LG}(hl:l.length<=1000000):∀(f i:Nat) (x:List aP),l.length-i<f->x.length<=i->i<=l.length->Nv a b l (l.length:Int) (qf R n c) f x (i:Int)=Fz a b (qf R n (x++fO (l.drop i))):=by intro f;induction f with
 |zero=>intro i x h;omega
 |succ f ih=>
  intro i x h hx hi;rw[Nv];by_cases q:i<l.length
  .rw[eZZ,dVZ,gZ (dT (rm (by show(x.length+1)*72<=_;omega))),bLZ,show((i:Int)+1)=((i+1:Nat):Int)by omega,ih (i+1) _ ah ay ah,qU];congr 4;rw[Ec q,show l.getD (i:Int).toNat aG=l[i]by simp[fC,q]];rfl
  .rw[fHZ,PN ah];show Fz a b (qf R n x)=Fz a b (qf R n (x++ []));rw[nK]
theorem aMD{R:RF}{n:List bJ}{c:List aP}{a b:Int}{l:LG}(hl:l.length<=1000000):∀(f i:Nat) (x:List aP),l.length-i<f->x.length<=i->i<=l.length->Nw a b l (l.length:Int) (qf R n c) f x (i:Int)=FB a b (qf R n (x++fO (l.drop i))):=by intro f;induction f with
 |zero=>intro i x h;omega
 |succ f ih=>
  intro i x h hx hi;rw[Nw];by_cases q:i<l.length
  .rw[eZZ,dVZ,gZ (dT (rm (by show(x.length+1)*72<=_;omega))),bLZ,show((i:Int)+1)=((i+1:Nat):Int)by omega,ih (i+1) _ ah ay ah,qU];congr 4;rw[Ec q,show l.getD (i:Int).toNat aG=l[i]by simp[fC,q]];rfl
  .rw[fHZ,PN ah];show FB a b (qf R n x)=FB a b (qf R n (x++ []));rw[nK]
theorem acf{β:Type}{r:bA}(h:r.fM<=0\/CB r)(k:List aP->Option β)
  (L:List cO->Option β) (hL:∀l:LG,l.length<=1000000->L l=k (fO l)):
  ((oM r).bind λx=>bif decide (x<=(c.length:Int))then k c else(oM r).bind λx1=>
   bq (decide ((0:Int)<=0/\(0:Int)<=x1/\(x1:Int)<=9223372036854775807/\(x1:Int)*72<=140737488355328)) ((rG r).bind λx2=>(oM r).bind λx3=>
    bq (decide (0<=x3/\x3<=(x2.length:Int))) (L (x2.take (Int.toNat x3)))))=k (rE c r):=by
 have hc:oM r=some r.fM:=rfl;rw[hc];simp only[bG];unfold rE;by_cases q:r.fM<=(c.length:Int)
 .rw[eZ q,bU q]
 .have hb:CB r:=by
   rcases h with h|h
   .exact(q ah).elim
   .exact h
  obtain⟨h0,h1,h2⟩:=hb;rw[fH q,cZ q,gZ (dT ⟨ah,ah,ah,ah⟩),Vw r h2,bG,gZ (dT ⟨ah,ah⟩),hL _ ay]
theorem arq{R:RF}{n:List bJ}(h:∀i,i<3->(R i).fM<=0\/CB (R i)):SA (qf R n c)=some (qf R n (nt c R)):=by
 have f1:aQ (0+1)=1:=rfl;have f2:aQ (1+1)=2:=rfl;have f3:decide ((1:Int)<3)=true:=rfl;have f4:decide ((2:Int)<3)=true:=rfl;have h2:∀c',Fz 3 1 (qf R n c')=some (qf R n (rE c' (R 2))):=λc'=>by
  unfold Fz;simp only[f2,f4,Lu,aY]
  exact acf (h 2 ah) (λx=>some (qf R n x)) (λl=>Nj 3 2 l (l.length:Int) (qf R n c') fuel (List.replicate (Int.toNat 0) aG) 0) (λl hl=>by
   have:=aMB (R:=R) (n:=n) (c:=c') (a:=3) (b:=2) hl fuel 0 [] aB aj ah
   exact this)
 have h1:∀c',FB 3 0 (qf R n c')=some (qf R n (rE (rE c' (R 1)) (R 2))):=λc'=>by
  unfold FB;simp only[f1,f3,Lu,aY];rw[<-h2]
  exact acf (h 1 ah) (λx=>Fz 3 1 (qf R n x)) (λl=>Nv 3 1 l (l.length:Int) (qf R n c') fuel (List.replicate (Int.toNat 0) aG) 0) (λl hl=>by
   have:=aMC (R:=R) (n:=n) (c:=c') (a:=3) (b:=1) hl fuel 0 [] aB aj ah
   exact this)
 show SA (qf R n c)=some (qf R n (rE (rE (rE c (R 0)) (R 1)) (R 2)));rw[<-h1]
 exact acf (h 0 ah) (λx=>FB 3 0 (qf R n x)) (λl=>Nw 3 0 l (l.length:Int) (qf R n c) fuel (List.replicate (Int.toNat 0) aG) 0) (λl hl=>by
   have:=aMD (R:=R) (n:=n) (c:=c) (a:=3) (b:=0) hl fuel 0 [] aB aj ah
   exact this)
theorem aK2{R:RF}(h:∀i,i<3->(R i).fM<=(c.length:Int)):nt c R=c:=by unfold nt rE;rw[bU (h 0 ah),bU (h 1 ah),bU (h 2 ah)]
theorem aMZ{R:RF}{l:Nat}(hl:l<3)(h1:(R l).fM=((R l).aS.bT.length:Int))(h2:c.length<(R l).aS.bT.length)(h:∀i,i<3->i≠l->(R i).fM<=(c.length:Int)):nt c R=fO (R l).aS.bT:=by
 have hn:rE c (R l)=fO (R l).aS.bT:=by unfold rE;rw[cZ ah,h1,gW,tF]
 have hs:∀i,i<3->i≠l->rE c (R i)=c:=λi hi hne=>by unfold rE;rw[bU (h i hi hne)]
 have hs2:∀i,i<3->i≠l->rE (fO (R l).aS.bT) (R i)=fO (R l).aS.bT:=λi hi hne=>by unfold rE;rw[bU (by have:=h i hi hne;simp[fO];omega)]
 unfold nt;have:l=0\/l=1\/l=2:=ah
 rcases this with rfl|rfl|rfl
 .rw[hn,hs2 1 ah ah,hs2 2 ah ah]
 .rw[hs 0 ah ah,hn,hs2 2 ah ah]
 .rw[hs 0 ah ah,hs 1 ah ah,hn]
end
structure UPS(u:Int)(al:Nat->Bool):Prop where
 f:∀i:Nat,i<3->(jd .i64 (iF .i64 u (IntKind.u64.wrap (i:Int))) 1==0)= !al i
 g:∀i:Nat,i<3->(jd .i64 (iF .i64 u (i:Int)) 1==1)=al i
def FL(u:Int)(R:RF)(bn:List bJ)(c:List aP)(k:Nat)(P:RF->List aP->Prop):Prop:=
 ∀(f n:Nat),k<f->n+k<5000->Ok (BI u f (n:Int) (qf R bn c)) (λo=>∃R' c',o.2=qf R' [] c'/\P R' c')
section
variable {u:Int} {al:Nat->Bool} {R:RF} {bn:List bJ} {c:List aP} {k:Nat} {P:RF->List aP->Prop} {m:bJ} {a j:Nat}
theorem FL.nil(h:P R c):FL u R [] c k P:=by intro f n hf hn;obtain⟨f,rfl⟩:∃g,f=g+1:=⟨f-1,ah⟩;rw[BI];exact Ok.some ⟨R,c,rfl,h⟩
theorem FL.up{k':Nat}(h:FL u R bn c k P)(hk:k<=k'):FL u R bn c k' P:=λf n hf hn=>h f n ah ah
theorem FL.drop(hU:UPS u al)(ha:a<3)(hj:j<3)(h1:m.From=(a:Int))(h2:m.To=(j:Int))(hd:al a=false\/al j=false)(hl:bn.length<=200)(h:FL u R bn c k P):FL u R (m::bn) c (k+1) P:=by
 intro f n hf hn;obtain⟨f,rfl⟩:∃g,f=g+1:=⟨f-1,ah⟩;rw[BI];have e1:(decide (0<(((qf R (m::bn) c).bn.length:Nat):Int))&&decide ((n:Int)<5000))=true:=by show(decide ((0:Int)<(((m::bn).length:Nat):Int))&&decide ((n:Int)<5000))=true;rw[dT (show(0:Int)<(((m::bn).length:Nat):Int)by simp),dT ah];rfl
 rw[e1,aY,dV (jc 0) (by show(0:Int)<(((m::bn).length:Nat):Int);simp),apT,bG];simp only[show((qf R (m::bn) c).bn.getD (Int.toNat 0) aG)=m from rfl];rw[gZ (dT (xX _).1)];refine Ok.bq (by rw[dT (show(0:Int)<=IntKind.u64.wrap m.To from(xX _).1)];simp) ?_;have e2:(jd .i64 (iF .i64 u (IntKind.u64.wrap m.From)) 1==0||jd .i64 (iF .i64 u (IntKind.u64.wrap m.To)) 1==0)=true:=by rw[h1,h2,hU.f a ha,hU.f j hj];rcases hd with h|h<;>rw[h]<;>simp
 rw[e2,aY];exact h f n ah ah
theorem FL.step{b:Nat}(hU:UPS u al)(ha:a<3)(hj:j<3)(h1:m.From=(a:Int))(h2:m.To=(j:Int))(ua:al a=true)(uj:al j=true)(hl:bn.length<=200)
  (h:Ok (nP (R j) m) (λo=>o.1.length<=50/\(∀i,i<3->(upd R j o.2 i).fM<=0\/CB (upd R j o.2 i))/\FL u (upd R j o.2) (bn++o.1) (nt c (upd R j o.2)) k P)):
  FL u R (m::bn) c (k+1) P:=by
 intro f n hf hn;obtain⟨f,rfl⟩:∃g,f=g+1:=⟨f-1,ah⟩;rw[BI];have e1:(decide (0<(((qf R (m::bn) c).bn.length:Nat):Int))&&decide ((n:Int)<5000))=true:=by show(decide ((0:Int)<(((m::bn).length:Nat):Int))&&decide ((n:Int)<5000))=true;rw[dT (show(0:Int)<(((m::bn).length:Nat):Int)by simp),dT ah];rfl
 rw[e1,aY,dV (jc 0) (by show(0:Int)<(((m::bn).length:Nat):Int);simp),apT,bG];simp only[show((qf R (m::bn) c).bn.getD (Int.toNat 0) aG)=m from rfl];rw[gZ (dT (xX _).1)];refine Ok.bq (by rw[dT (show(0:Int)<=IntKind.u64.wrap m.To from(xX _).1)];simp) ?_;have e2:(jd .i64 (iF .i64 u (IntKind.u64.wrap m.From)) 1==0||jd .i64 (iF .i64 u (IntKind.u64.wrap m.To)) 1==0)=false:=by rw[h1,h2,hU.f a ha,hU.f j hj,ua,uj];rfl
 rw[e2,aZ];obtain⟨o,ho,hlen,hcb,hF⟩:=h;have hm:∀t:Int,m.To=t->({m with To:=t}:bJ)=m:=by intro t ht;subst ht;rfl
 have fin:Ok ((sD (qf (upd R j o.2) bn c) o.1).bind λx=>Kk (BI u f) (n:Int) (gK x)) (λo=>∃R' c',o.2=qf R' [] c'/\P R' c'):=by rw[aiR ah,bG];show Ok (Kk _ _ (qf (upd R j o.2) (bn++o.1) c)) _;unfold Kk;rw[arq hcb,bG,bLZ];have:=hF f (n+1) ah ah;rw[show((n+1:Nat):Int)=(n:Int)+1 by omega]at this;exact this
 have:j=0\/j=1\/j=2:=ah
 rcases this with rfl|rfl|rfl
 .rw[h2];simp only[show(((0:Nat):Int)==2)=false from rfl,show(((0:Nat):Int)==1)=false from rfl,show(((0:Nat):Int)==0)=true from rfl,aY,aZ];show Ok ((nP (R 0) {m with To:=0}).bind _) _;rw[hm 0 h2,ho,bG];exact fin
 .rw[h2];simp only[show(((1:Nat):Int)==2)=false from rfl,show(((1:Nat):Int)==1)=true from rfl,aY,aZ];show Ok ((nP (R 1) {m with To:=1}).bind _) _;rw[hm 1 h2,ho,bG];exact fin
 .rw[h2];simp only[show(((2:Nat):Int)==2)=true from rfl,aY,aZ];show Ok ((nP (R 2) {m with To:=2}).bind _) _;rw[hm 2 h2,ho,bG];exact fin
end
structure FO(r:bA)(i:Nat)(T:Int)(L:LG)(b:Nat)(m:Int):Prop where
 id:r.id=(i:Int)
 n:r.n=3
 ro:r.fP≠3
 tm:r.aS.gM=T
 lg:r.aS.bT=L
 dk:oI r.aS.bW b
 c0:0<=r.fM
 c1:r.fM<=m
structure LE(r:bA)(i:Nat)(T:Int)(L:LG)(b:Nat)(cm:Int):Prop where
 id:r.id=(i:Int)
 n:r.n=3
 ro:r.fP=3
 tm:r.aS.gM=T
 lg:r.aS.bT=L
 dk:oI r.aS.bW b
 co:r.fM=cm
 mt:∀k,k<3->gA r.gL k<=(L.length:Int)
 nx:∀k,k<3->0<=gA r.next k/\gA r.next k<=(L.length:Int)
structure LF(L:LG)(T:Int):Prop where
 t1:1<=T
 t2:T<=1000000
 pos:∀x∈L,1<=x.iB
 la:lastT L<=T
 l0:0<=lastT L
 ln:L.length<=2000
theorem apC{L:LG}{x:cO}:lastT (L++ [x])=x.iB:=by unfold lastT;rw[show(((L++ [x]).length:Nat):Int)-1=(L.length:Int)by simp];exact aKp
theorem FO.up{r:bA}{i:Nat}{T:Int}{L:LG}{b b':Nat}{m m':Int}(h:FO r i T L b m)(hb:b<=b')(hm:m<=m'):FO r i T L b' m':=
 ⟨h.id,h.n,h.ro,h.tm,h.lg,h.dk.up hb,h.c0,wS h.c1 hm⟩
theorem LE.up{r:bA}{i:Nat}{T:Int}{L:LG}{b b':Nat}{cm:Int}(h:LE r i T L b cm)(hb:b<=b'):LE r i T L b' cm:=
 ⟨h.id,h.n,h.ro,h.tm,h.lg,h.dk.up hb,h.co,h.mt,h.nx⟩
theorem oD{r l:bA}{i x b bl:Nat}{T cm:Int}{L es:LG}(hix:i≠x)(hi:i<3)(hx:x<3)(hF:FO r x T L b (L.length:Int))(hL:LE l i T (L++es) bl cm)(hlf:LF L T)(hb:b<=1000000)
  (hnx:gA l.next x=(L.length:Int)) (hcm:0<=cm/\cm<=(L.length:Int)) (hes:es=[]∨∃e,es=[⟨T,e⟩]/\sG e=some true):
  Ok (nP r (xg l x)) (λo=>o.1=[Bu (x:Int) (i:Int) T ((L.length+es.length:Nat):Int)]/\FO o.2 x T (L++es) (b+170) (L.length:Int)):=by
 have e:xg l x={aM:=3,From:=(i:Int),To:=(x:Int),iB:=T,gQ:=(L.length:Int),l5:=lastT L,qW:=cm,OK:=false,mZ:=es}:=by unfold xg;rw[hL.id,hL.tm,hL.co,hnx,hL.lg,arK];simp[lastT]
 rw[e];have hln:=hlf.ln;have t1:=hlf.t1;have t2:=hlf.t2;have c0:=hF.c0;have c1:=hF.c1;refine(aMN hF.id hF.n hF.ro hF.tm hF.lg hF.dk hb ⟨ah,ah,ah⟩ ⟨t1,ah⟩ ah ⟨hcm.1,ah⟩ c1 hlf.pos hlf.la hes).mono λo ho=> ?_;obtain⟨d,rfl,hd⟩:=ho;refine⟨rfl,hF.id,hF.n,by show(1:Int)≠3;omega,rfl,rfl,hd,?_,?_⟩
 .show 0<=jE _ _;unfold jE;split<;>omega
 .show jE _ _<=_;unfold jE je;split<;>split<;>omega
theorem aM4{l:bA}{i x bl:Nat}{T cm kL:Int}{L:LG}(hix:i≠x)(hi:i<3)(hx:x<3)(hL:LE l i T L bl cm)(hlf:LF L T)(hcm:0<=cm)
  (hq:(kL=cm∧∀m:Int,cm<m->m<=(L.length:Int)->nk L (m-1)≠T)\/(kL=(L.length:Int)/\lastT L=T/\cm<(L.length:Int))):
  Ok (nP l (Bu (x:Int) (i:Int) T (L.length:Int))) (λo=>o.1=[]/\LE o.2 i T L bl kL/\gA o.2.next x=(L.length:Int)∧∀k,k<3->k≠x->gA o.2.next k=gA l.next k):=by
 have hln:=hlf.ln;have t1:=hlf.t1;have t2:=hlf.t2;have hmx:jE (gA l.gL x) (L.length:Int)=(L.length:Int):=by have:=hL.mt x hx;unfold jE;split<;>omega
 rw[aMO hL.id hL.n hL.ro hL.tm hx ah ⟨t1,ah⟩ ⟨ah,by rw[hL.lg];omega⟩ (by rw[hL.lg];omega),hmx];have key:∀r:bA,r={l with gL:=sA l.gL (L.length:Int) x,next:=sA l.next (L.length:Int) x}->Ok (zL r) (λr'=>r'={r with fM:=kL}):=by
  intro r hr;have hco:r.fM=cm:=by rw[hr];exact hL.co
  have wB:r.aS.bT=L:=by rw[hr];exact hL.lg
  have rC:r.aS.gM=T:=by rw[hr];exact hL.tm
  have hn:r.n=3:=by rw[hr];exact hL.n
  rcases hq with⟨h1,h2⟩|⟨h1,h2,h3⟩
  .rw[atu hn ah (by rw[wB];omega) (λm h3 h4 h5=>by
    rw[wB]at h4 h5;rw[rC]at h5
    exact(h2 m ah h4 h5).elim)]
   refine Ok.some ?_;rw[h1,<-hco]
  .rw[aNb hn ah (by rw[wB];omega) (by rw[hco,wB];exact h3) (by rw[wB,rC];exact h2) ?_]
   .exact Ok.some (by rw[wB,h1])
   .have hid:r.id=(i:Int):=(by rw[hr];exact hL.id);have hm:gA r.gL x=(L.length:Int):=(by rw[hr];show gA (sA _ _ _) _=_;rw[VW _ _ hx,bU rfl]);have:JO r x (L.length:Int)=true:=(by unfold JO;rw[hid,hm,dT (jc _),show(((x:Nat):Int) !=(i:Int))=true by simp;omega];rfl);rw[wB];unfold Qt;have hx3:x=0\/x=1\/x=2:=ah;rcases hx3 with rfl|rfl|rfl<;>rw[this]<;>simp
 refine Ok.bind (key _ rfl) λr' hr=>Ok.some ⟨rfl,?_,?_,?_⟩
 .rw[hr];refine⟨hL.id,hL.n,hL.ro,hL.tm,hL.lg,hL.dk,rfl,λk hk=> ?_,λk hk=> ?_⟩
  .show gA (sA _ _ _) _<=_;rw[VW _ _ hx];split
   .omega
   .exact hL.mt k hk
  .show 0<=gA (sA _ _ _) _/\gA (sA _ _ _) _<=_;rw[VW _ _ hx];split
   .omega
   .exact hL.nx k hk
 .rw[hr];show gA (sA _ _ _) _=_;rw[VW _ _ hx,bU rfl]
 .intro k hk hkx;rw[hr];show gA (sA _ _ _) _=_;rw[VW _ _ hx,cZ hkx]
structure OT(i a b:Nat):Prop where
 hi:i<3
 ha:a<3
 hb:b<3
 ia:i≠a
 ib:i≠b
 ab:a≠b
 e:E5 i=[a,b]
theorem ot{i:Nat}(h:i<3):∃a b,OT i a b:=by
 have:i=0\/i=1\/i=2:=ah
 rcases this with rfl|rfl|rfl
 .exact⟨1,2,ah,ah,ah,ah,ah,ah,rfl⟩
 .exact⟨0,2,ah,ah,ah,ah,ah,ah,rfl⟩
 .exact⟨0,1,ah,ah,ah,ah,ah,ah,rfl⟩
theorem OT.all{i a b x:Nat}(o:OT i a b)(h:x<3):x=i\/x=a\/x=b:=by have:=o.hi;have:=o.ha;have:=o.hb;have:=o.ia;have:=o.ib;have:=o.ab;omega
def lG(R:RF)(c:List aP):Prop:=∀x,x<3->((R x).fM<=0\/CB (R x))/\(R x).fM<=(c.length:Int)
theorem lG.upd{R:RF}{c:List aP}{k:Nat}{r:bA}(h:lG R c)(h1:r.fM<=0\/CB r)(h2:r.fM<=(c.length:Int)):lG (upd R k r) c:=by
 intro x hx;by_cases q:x=k
 .subst q;rw[nM];exact⟨h1,h2⟩
 .rw[upd_ne q];exact h x hx
theorem lG.nt{R:RF}{c:List aP}(h:lG R c):nt c R=c:=aK2 λi hi=>(h i hi).2
theorem FO.cb{r:bA}{i:Nat}{T:Int}{L:LG}{b:Nat}{m:Int}(h:FO r i T L b m)(hm:m<=(L.length:Int))(hl:L.length<=3000):r.fM<=0\/CB r:=
 .inr ⟨h.c0,by rw[h.lg];exact wS h.c1 hm,by rw[h.lg];omega⟩
theorem LE.cb{r:bA}{i:Nat}{T:Int}{L:LG}{b:Nat}{cm:Int}(h:LE r i T L b cm)(h0:0<=cm/\cm<=(L.length:Int))(hl:L.length<=3000):r.fM<=0\/CB r:=
 .inr ⟨by rw[h.co];exact h0.1,by rw[h.co,h.lg];exact h0.2,by rw[h.lg];omega⟩
section
variable {u:Int} {al:Nat->Bool} {R:RF} {bn:List bJ} {c:List aP} {k:Nat} {P:RF->List aP->Prop} {i x b bl:Nat} {T cm:Int} {L es:LG} {l:bA}
theorem flA(hU:UPS u al)(hix:i≠x)(hi:i<3)(hx:x<3)(ui:al i=true)(ux:al x=true)(hn:bn.length<=100)(hF:FO (R x) x T L b (L.length:Int))(hL:LE l i T (L++es) bl cm)(hlf:LF L T)(hb:b<=1000000)
  (hnx:gA l.next x=(L.length:Int)) (hcm:0<=cm/\cm<=(L.length:Int)) (hes:es=[]∨∃e,es=[⟨T,e⟩]/\sG e=some true) (hO:lG R c) (hc:L.length<=c.length)
  (h:∀r',FO r' x T (L++es) (b+170) (L.length:Int)->lG (upd R x r') c->FL u (upd R x r') (bn++ [Bu (x:Int) (i:Int) T (((L++es).length:Nat):Int)]) c k P):FL u R (xg l x::bn) c (k+1) P:=by
 have hln:=hlf.ln;refine FL.step (b:=0) hU hi hx hL.id rfl ui ux ah ((oD hix hi hx hF hL hlf hb hnx hcm hes).mono λo ho=> ?_);obtain⟨h1,h2⟩:=ho;have hO2:lG (upd R x o.2) c:=hO.upd (h2.cb ay (by rcases hes with q|⟨e,q,_⟩<;>rw[q]<;>simp<;>omega)) (wS h2.c1 ah);refine⟨by rw[h1];simp,λy hy=>(hO2 y hy).1,?_⟩;rw[h1,hO2.nt];have:=h o.2 h2 hO2;rw[pY]at this;exact this
theorem flB{kL:Int}{c':List aP}(hU:UPS u al)(hix:i≠x)(hi:i<3)(hx:x<3)(ui:al i=true)(ux:al x=true)(hn:bn.length<=100)(hL:LE (R i) i T L bl cm)(hlf:LF L T)(hcm:0<=cm/\cm<=(L.length:Int))(hO:lG R c)(hc:c.length<=L.length)
  (hq:(kL=cm/\c'=c∧∀m:Int,cm<m->m<=(L.length:Int)->nk L (m-1)≠T)\/(kL=(L.length:Int)/\c'=fO L/\lastT L=T/\cm<(L.length:Int)/\c.length<L.length))
  (h:∀r',LE r' i T L bl kL->gA r'.next x=(L.length:Int)->(∀y,y<3->y≠x->gA r'.next y=gA (R i).next y)->lG (upd R i r') c'->FL u (upd R i r') bn c' k P):FL u R (Bu (x:Int) (i:Int) T (L.length:Int)::bn) c (k+1) P:=by
 have hln:=hlf.ln;have hq1:(kL=cm∧∀m:Int,cm<m->m<=(L.length:Int)->nk L (m-1)≠T)\/(kL=(L.length:Int)/\lastT L=T/\cm<(L.length:Int)):=by
  rcases hq with⟨q1,_,q2⟩|⟨q1,_,q2,q3,_⟩
  .exact .inl ⟨q1,q2⟩
  .exact .inr ⟨q1,q2,q3⟩
 refine FL.step (b:=0) hU hx hi rfl rfl ux ui ah ((aM4 hix hi hx hL hlf hcm.1 hq1).mono λo ho=> ?_);obtain⟨h1,h2,h3,h4⟩:=ho;have hcm':0<=kL/\kL<=(L.length:Int):=by rcases hq1 with q|q<;>omega
 have hcb:=h2.cb hcm' ah;have aus:∀y,y<3->(upd R i o.2 y).fM<=0\/CB (upd R i o.2 y):=by
  intro y hy;by_cases q:y=i
  .subst q;rw[nM];exact hcb
  .rw[upd_ne q];exact(hO y hy).1
 have hnt:nt c (upd R i o.2)=c'/\lG (upd R i o.2) c':=by
  rcases hq with⟨q1,q2,_⟩|⟨q1,q2,_,q3,q4⟩
  .have hO2:lG (upd R i o.2) c:=hO.upd hcb (by rw[h2.co,q1,<-hL.co];exact(hO i hi).2);rw[q2];exact⟨hO2.nt,hO2⟩
  .have e:nt c (upd R i o.2)=fO (upd R i o.2 i).aS.bT:=aMZ hi (by rw[nM,h2.co,h2.lg,q1]) (by rw[nM,h2.lg];exact q4) (λy hy hne=>by rw[upd_ne hne];exact(hO y hy).2);rw[nM,h2.lg]at e;refine⟨by rw[e,q2],λy hy=>⟨aus y hy,?_⟩⟩;rw[q2];by_cases q:y=i
   .subst q;rw[nM,h2.co,q1];simp[fO]
   .rw[upd_ne q];have:=(hO y hy).2;simp[fO];omega
 refine⟨by rw[h1];simp,aus,?_⟩;rw[h1,nK,hnt.1];exact h o.2 h2 h3 h4 hnt.2
end
theorem auM{u:Int}{al:Nat->Bool}{R:RF}{c c':List aP}{i a b bd:Nat}{T cm kL:Int}{L es:LG}(hU:UPS u al)(o:OT i a b)(ui:al i=true)(hab:al a=true\/al b=true)
  (hlf:LF L T) (QC:LF (L++es) T) (hes:es=[]∨∃e,es=[⟨T,e⟩]/\sG e=some true) (hc:c.length=L.length) (hO:lG R c) (hl:LE (R i) i T (L++es) bd cm) (h0:0<=cm/\cm<=(L.length:Int)) (hbd:bd<=900000)
  (fo:∀x,x<3->x≠i->al x=true->FO (R x) x T L bd (L.length:Int)/\gA (R i).next x=(L.length:Int))
  (hq:(kL=cm/\c'=c∧∀m:Int,cm<m->m<=((L++es).length:Int)->nk (L++es) (m-1)≠T)\/(kL=((L++es).length:Int)/\c'=fO (L++es)/\lastT (L++es)=T/\cm<((L++es).length:Int)/\c.length<(L++es).length)):
  FL u R [xg (R i) a,xg (R i) b] c 4 (λR' c''=>c''=c'/\lG R' c'/\LE (R' i) i T (L++es) bd kL/\(∀x,x<3->x≠i->al x=true->FO (R' x) x T (L++es) (bd+170) (L.length:Int)/\gA (R' i).next x=((L++es).length:Int))∧∀x,x≠i->al x=false->R' x=R x):=by
 have hll:L.length<=(L++es).length:=aj
 have h0':0<=cm/\cm<=((L++es).length:Int):=ah
 have hq2:0<=kL/\kL<=((L++es).length:Int)/\(∀m:Int,kL<m->m<=((L++es).length:Int)->nk (L++es) (m-1)≠T)/\c'.length<=(L++es).length:=by
  rcases hq with⟨q1,q2,q3⟩|⟨q1,q2,q3,q4,q5⟩
  .rw[q1,q2];exact⟨h0'.1,h0'.2,q3,ah⟩
  .rw[q1,q2];exact⟨ah,ah,λm hm hm'=>ah,by simp[fO]⟩
 have hi:=o.hi;have ha:=o.ha;have hb:=o.hb;have ia:=o.ia;have ib:=o.ib;have ab:=o.ab;have nai:=ia.symm;have Xu:=ib.symm;have nba:=ab.symm;cases ua:al a with
 |true=>obtain⟨fa,na⟩:=fo a ha nai ua;cases ub:al b with
  |true=>
   obtain⟨fb,nb⟩:=fo b hb Xu ub;refine flA hU ia hi ha ui ua aj fa hl hlf ah na h0 hes hO ah λr1 g1 O1=> ?_;refine flA (bn:=[Bu (a:Int) (i:Int) T (((L++es).length:Nat):Int)]) hU ib hi hb ui ub aj (by rw[upd_ne nba];exact fb) hl hlf ah nb h0 hes O1 ah λr2 g2 O2=> ?_;refine flB (kL:=kL) (c':=c') (bn:=[Bu (b:Int) (i:Int) T (((L++es).length:Nat):Int)]) hU ia hi ha ui ua aj (by rw[upd_ne ib,upd_ne ia];exact hl) QC h0' O2 ah hq λr3 g3 n3 m3 O3=> ?_;refine flB (kL:=kL) (c':=c') hU ib hi hb ui ub aj (by rw[nM];exact g3) QC ⟨hq2.1,hq2.2.1⟩ O3 hq2.2.2.2 (.inl ⟨rfl,rfl,hq2.2.2.1⟩) λr4 g4 n4 m4 O4=> ?_;refine FL.nil ⟨rfl,O4,by rw[nM];exact g4,λx hx hxi hal=> ?_,λx hxi hal=> ?_⟩
   .rw[nM,upd_ne hxi,upd_ne hxi];rw[nM]at m4;rcases o.all hx with rfl|rfl|rfl
    .exact(hxi rfl).elim
    .rw[upd_ne ab,nM];exact⟨g1,by rw[m4 _ hx ab];exact n3⟩
    .rw[nM];exact⟨g2,n4⟩
   .have xa:x≠a:=(by rintro rfl;rw[ua]at hal;cases hal);have xb:x≠b:=(by rintro rfl;rw[ub]at hal;cases hal);rw[upd_ne hxi,upd_ne hxi,upd_ne xb,upd_ne xa]
  |false=>
   refine flA hU ia hi ha ui ua aj fa hl hlf ah na h0 hes hO ah λr1 g1 O1=> ?_;refine FL.drop hU hi hb hl.id rfl (.inr ub) aj ?_;refine flB (kL:=kL) (c':=c') (bn:=[]) (k:=1) hU ia hi ha ui ua aj (by rw[upd_ne ia];exact hl) QC h0' O1 ah hq λr3 g3 n3 m3 O3=> ?_;refine FL.nil ⟨rfl,O3,by rw[nM];exact g3,λx hx hxi hal=> ?_,λx hxi hal=> ?_⟩
   .rw[nM,upd_ne hxi];rcases o.all hx with rfl|rfl|rfl
    .exact(hxi rfl).elim
    .rw[nM];exact⟨g1,n3⟩
    .rw[ub]at hal;cases hal
   .have xa:x≠a:=(by rintro rfl;rw[ua]at hal;cases hal);rw[upd_ne hxi,upd_ne xa]
 |false=>
  have ub:al b=true:=by
   rcases hab with h|h
   .rw[ua]at h;cases h
   .exact h
  obtain⟨fb,nb⟩:=fo b hb Xu ub;refine FL.drop hU hi ha hl.id rfl (.inr ua) aj ?_;refine flA hU ib hi hb ui ub aj fb hl hlf ah nb h0 hes hO ah λr1 g1 O1=> ?_;refine flB (kL:=kL) (c':=c') (bn:=[]) (k:=1) hU ib hi hb ui ub aj (by rw[upd_ne ib];exact hl) QC h0' O1 ah hq λr3 g3 n3 m3 O3=> ?_;refine FL.nil ⟨rfl,O3,by rw[nM];exact g3,λx hx hxi hal=> ?_,λx hxi hal=> ?_⟩
  .rw[nM,upd_ne hxi];rcases o.all hx with rfl|rfl|rfl
   .exact(hxi rfl).elim
   .rw[ua]at hal;cases hal
   .rw[nM];exact⟨g1,n3⟩
  .have xb:x≠b:=(by rintro rfl;rw[ub]at hal;cases hal);rw[upd_ne hxi,upd_ne xb]
structure CA(r:bA)(i:Nat)(T:Int)(L:LG)(b:Nat)(m:Int):Prop where
 id:r.id=(i:Int)
 n:r.n=3
 ro:r.fP=2
 tm:r.aS.gM=T
 lg:r.aS.bT=L
 dk:oI r.aS.bW b
 c0:0<=r.fM
 c1:r.fM<=m
 vo:r.nG=iV .i64 1 (IntKind.u64.wrap (i:Int))
theorem aKr{R:RF}{i:Nat}:upd R i (R i)=R:=by
 funext x;by_cases q:x=i
 .subst q;exact nM
 .exact upd_ne q
section
variable {u:Int} {al:Nat->Bool} {R:RF} {bn:List bJ} {c:List aP} {k:Nat} {P:RF->List aP->Prop} {i x a' b' b bl:Nat} {T T0 m:Int} {L:LG} {l:bA}
theorem flV(hU:UPS u al)(hix:i≠x)(hi:i<3)(hx:x<3)(ui:al i=true)(ux:al x=true)(hn:bn.length<=100)(hF:FO (R x) x T0 L b (L.length:Int))(hL:CA l i T L bl m)(hT:T0<T)(hlf:LF L T)(hb:b<=900000)(hO:lG R c)(hc:L.length<=c.length)
  (h:∀r',FO r' x T L (b+340) (L.length:Int)->lG (upd R x r') c->FL u (upd R x r') (bn++ [Bv (x:Int) (i:Int) T]) c k P):FL u R (Dk l x::bn) c (k+1) P:=by
 have hln:=hlf.ln;have t1:=hlf.t1;have t2:=hlf.t2;have e:Dk l x={aM:=1,From:=(i:Int),To:=(x:Int),iB:=T,gQ:=(L.length:Int),l5:=lastT L,qW:=0,OK:=false,mZ:=[]}:=by unfold Dk;rw[hL.id,hL.tm,hL.lg]
 rw[e];refine FL.step (b:=0) hU hi hx rfl rfl ui ux ah ((aLT (i:=(i:Int)) (j:=(x:Int)) hF.id hF.n (by rw[hF.tm];exact hT) hF.lg hF.dk hb ⟨ah,ah,ah⟩ ⟨t1,ah⟩ ah ⟨hlf.l0,hlf.la⟩).mono λo ho=> ?_);obtain⟨d,rfl,hd⟩:=ho;have g:FO {R x with aS:={bW:=d,gM:=T,iW:=(i:Int),bT:=L},fP:=1} x T L (b+340) (L.length:Int):=⟨hF.id,hF.n,by show(1:Int)≠3;omega,rfl,rfl,hd,hF.c0,hF.c1⟩;have hO2:=lG.upd (k:=x) hO (g.cb (jc _) ah) (wS g.c1 ah);refine⟨aj,λy hy=>(hO2 y hy).1,?_⟩;rw[hO2.nt];exact h _ g hO2
theorem flW(hU:UPS u al)(o:OT i a' b')(hix:i≠x)(hx:x<3)(ui:al i=true)(ux:al x=true)(hn:bn.length<=100)(hL:CA (R i) i T L b (L.length:Int))(hlf:LF L T)(hO:lG R c)(hc:L.length<=c.length)
  (h:∀r',LE r' i T L b (R i).fM->(∀y,y<3->gA r'.next y=(L.length:Int))->lG (upd R i r') c->FL u (upd R i r') (bn++ [xg r' a',xg r' b']) c k P):FL u R (Bv (x:Int) (i:Int) T::bn) c (k+1) P:=by
 have hln:=hlf.ln;have t1:=hlf.t1;have t2:=hlf.t2;refine FL.step (b:=0) hU hx o.hi rfl rfl ux ui ah (Ok.eq (aKN hL.id hL.n hL.ro hL.tm hL.vo hx o.hi hix ⟨t1,ah⟩ (by rw[hL.lg];omega)) ?_);have hg:∀y,y<3->gA (Ho (R i) (vB i x)).next y=(L.length:Int):=by
  intro y hy;have:y=0\/y=1\/y=2:=ah
  rcases this with rfl|rfl|rfl<;>(show((R i).aS.bT.length:Int)=_)<;>rw[hL.lg]
 have hm:∀y,y<3->gA (Ho (R i) (vB i x)).gL y=0:=by
  intro y hy;have:y=0\/y=1\/y=2:=ah
  rcases this with rfl|rfl|rfl<;>rfl
 have g:LE (Ho (R i) (vB i x)) i T L b (R i).fM:=⟨hL.id,hL.n,rfl,hL.tm,hL.lg,hL.dk,rfl,λy hy=>by rw[hm y hy];omega,λy hy=>by rw[hg y hy];omega⟩;have hO2:=lG.upd (k:=i) hO (g.cb ⟨hL.c0,hL.c1⟩ ah) (by show(R i).fM<=_;exact(hO i o.hi).2);refine⟨by rw[o.e];simp,λy hy=>(hO2 y hy).1,?_⟩;rw[hO2.nt,o.e];exact h _ g hg hO2
theorem flX(hU:UPS u al)(hix:i≠x)(hi:i<3)(hx:x<3)(ui:al i=true)(ux:al x=true)(hn:bn.length<=100){cm:Int}(hL:LE (R i) i T L b cm)(hlf:LF L T)(hO:lG R c)
  (h:FL u R bn c k P):FL u R (Bv (x:Int) (i:Int) T::bn) c (k+1) P:=by
 have t1:=hlf.t1;have t2:=hlf.t2;refine FL.step (b:=0) hU hx hi rfl rfl ux ui ah (Ok.eq (aLS hL.id hL.n hL.ro hL.tm ⟨ah,ah⟩ ah ⟨t1,ah⟩) ?_);rw[aKr];refine⟨aj,λy hy=>(hO y hy).1,?_⟩;rw[hO.nt,nK];exact h
end
theorem ajJ{L:LG}{T:Int}(h:∀x∈L,x.iB<=T)(h0:0<=T)(m:Int):nk L m<=T:=by
 unfold nk;split
 .rename_i q;refine h _ ?_;rw[fC,jN ah];exact yN _
 .exact h0
theorem aMI{u:Int}{al:Nat->Bool}{R:RF}{c:List aP}{i a b bd:Nat}{T:Int}{L:LG}(hU:UPS u al)(o:OT i a b)(ui:al i=true)(hab:al a=true\/al b=true)
  (hlf:LF L (T+1)) (htl:∀x∈L,x.iB<=T) (hT:0<=T) (hc:c.length=L.length) (hO:lG R c) (hbd:bd<=800000) (hl:CA (R i) i (T+1) L bd (L.length:Int))
  (fo:∀x,x<3->x≠i->al x=true->FO (R x) x T L bd (L.length:Int)):
  FL u R [Dk (R i) a,Dk (R i) b] c 8 (λR' c''=>c''=c/\lG R' c/\LE (R' i) i (T+1) L (bd+340) (R i).fM/\(∀x,x<3->x≠i->al x=true->FO (R' x) x (T+1) L (bd+510) (L.length:Int)/\gA (R' i).next x=(L.length:Int))∧∀x,x≠i->al x=false->R' x=R x):=by
 have hi:=o.hi;have ha:=o.ha;have hb:=o.hb;have ia:=o.ia;have ib:=o.ib;have ab:=o.ab;have nai:=ia.symm;have Xu:=ib.symm;have nba:=ab.symm;have c0:=hl.c0;have c1:=hl.c1;have quiet:∀m:Int,(R i).fM<m->m<=((L++ []).length:Int)->nk (L++ []) (m-1)≠T+1:=λm _ _=>by rw[nK];have:=ajJ htl hT (m-1);omega
 -- behind the aQH
 have fin:∀(R':RF) (l:bA),R' i=l->LE l i (T+1) L (bd+340) (R i).fM->(∀y,y<3->gA l.next y=(L.length:Int))->lG R' c->(∀x,x<3->x≠i->al x=true->FO (R' x) x (T+1) L (bd+340) (L.length:Int))->(∀x,x≠i->al x=false->R' x=R x)→
   FL u R' [xg l a,xg l b] c 4 (λR' c''=>c''=c/\lG R' c/\LE (R' i) i (T+1) L (bd+340) (R i).fM/\(∀x,x<3->x≠i->al x=true->FO (R' x) x (T+1) L (bd+510) (L.length:Int)/\gA (R' i).next x=(L.length:Int))∧∀x,x≠i->al x=false->R' x=R x):=by
  intro R' l e1 e2 e3 e4 e5 e6;subst e1;have:=auM (es:=[]) (cm:=(R i).fM) (kL:=(R i).fM) (c':=c) (R:=R') (bd:=bd+340) hU o ui hab hlf (by rw[nK];exact hlf) (.inl rfl) hc e4 (by rw[nK];exact e2) ⟨c0,c1⟩ ah (λx hx hxi hal=>⟨e5 x hx hxi hal,e3 x hx⟩) (.inl ⟨rfl,rfl,quiet⟩);intro f n hf hn;refine(this f n hf hn).mono λq hq=> ?_;obtain⟨R2,c2,q1,q2,q3,q4,q5,q6⟩:=hq;rw[nK]at q4 q5;exact⟨R2,c2,q1,q2,q3,q4,q5,λx hx hal=>by rw[q6 x hx hal];exact e6 x hx hal⟩
 cases ua:al a with
 |true=>have fa:=fo a ha nai ua;cases ub:al b with
  |true=>
   have fb:=fo b hb Xu ub;refine flV hU ia hi ha ui ua aj fa hl ah hlf ah hO ah λr1 g1 O1=> ?_;refine flV (bn:=[Bv (a:Int) (i:Int) (T+1)]) hU ib hi hb ui ub aj (by rw[upd_ne nba];exact fb) hl ah hlf ah O1 ah λr2 g2 O2=> ?_;refine flW (bn:=[Bv (b:Int) (i:Int) (T+1)]) hU o ia ha ui ua aj (b:=bd) (by rw[upd_ne ib,upd_ne ia];exact hl) hlf O2 ah λr3 g3 n3 O3=> ?_;rw[upd_ne ib,upd_ne ia]at g3;refine flX (cm:=(R i).fM) hU ib hi hb ui ub aj (by rw[nM];exact g3) hlf O3 ?_;refine fin _ r3 nM (g3.up ah) n3 O3 (λx hx hxi hal=> ?_) (λx hxi hal=> ?_)
   .rw[upd_ne hxi];rcases o.all hx with rfl|rfl|rfl
    .exact(hxi rfl).elim
    .rw[upd_ne ab,nM];exact g1
    .rw[nM];exact g2
   .have xa:x≠a:=(by rintro rfl;rw[ua]at hal;cases hal);have xb:x≠b:=(by rintro rfl;rw[ub]at hal;cases hal);rw[upd_ne hxi,upd_ne xb,upd_ne xa]
  |false=>
   refine flV (k:=7) hU ia hi ha ui ua aj fa hl ah hlf ah hO ah λr1 g1 O1=> ?_;refine FL.drop (k:=6) hU hi hb hl.id rfl (.inr ub) aj ?_;refine flW (k:=5) (bn:=[]) hU o ia ha ui ua aj (b:=bd) (by rw[upd_ne ia];exact hl) hlf O1 ah λr3 g3 n3 O3=> ?_;rw[upd_ne ia]at g3;refine(fin _ r3 nM (g3.up ah) n3 O3 (λx hx hxi hal=> ?_) (λx hxi hal=> ?_)).up ah
   .rw[upd_ne hxi];rcases o.all hx with rfl|rfl|rfl
    .exact(hxi rfl).elim
    .rw[nM];exact g1
    .rw[ub]at hal;cases hal
   .have xa:x≠a:=(by rintro rfl;rw[ua]at hal;cases hal);rw[upd_ne hxi,upd_ne xa]
 |false=>
  have ub:al b=true:=by
   rcases hab with h|h
   .rw[ua]at h;cases h
   .exact h
  have fb:=fo b hb Xu ub;refine FL.drop (k:=7) hU hi ha hl.id rfl (.inr ua) aj ?_;refine flV (k:=6) hU ib hi hb ui ub aj fb hl ah hlf ah hO ah λr1 g1 O1=> ?_;refine flW (k:=5) (bn:=[]) hU o ib hb ui ub aj (b:=bd) (by rw[upd_ne ib];exact hl) hlf O1 ah λr3 g3 n3 O3=> ?_;rw[upd_ne ib]at g3;refine(fin _ r3 nM (g3.up ah) n3 O3 (λx hx hxi hal=> ?_) (λx hxi hal=> ?_)).up ah
  .rw[upd_ne hxi];rcases o.all hx with rfl|rfl|rfl
   .exact(hxi rfl).elim
   .rw[ua]at hal;cases hal
   .rw[nM];exact g1
  .have xb:x≠b:=(by rintro rfl;rw[ub]at hal;cases hal);rw[upd_ne hxi,upd_ne xb]
section
variable {i:Nat}{e:aP}{R:RF}{c:List aP}{bn:List bJ}
theorem aIb{r:bA}{b:Nat}{T cm:Int}{L:LG}(hi:i<3)(hL:LE r i T L b cm)(h0:0<=cm/\cm<=(L.length:Int))(hlf:LF L T)(hs:sG e=some true)(hb:b<=900000)
  (hq:∀m:Int,cm<m->m<=(L.length:Int)->nk L (m-1)≠T):
  Ok (za r e) (λo=>∃r',o=((E5 i).map (xg r'),0,r')/\LE r' i T (L++ [⟨T,e⟩]) (b+170) cm/\r'.next=r.next):=by
 have hln:=hlf.ln;have t1:=hlf.t1;have t2:=hlf.t2;unfold za jl o9;rw[hL.ro];simp only[show((3:Int) !=3)=false from rfl,aZ,bG];refine Ok.bind (ahp (j:=r.aS) hL.dk ah (t:=r.aS.gM) (by rw[hL.tm];omega) hs (jc _) (by rw[hL.lg,hL.tm];exact hlf.la) (by rw[hL.lg];omega)) λx hx=> ?_;obtain⟨d,rfl,hd⟩:=hx;simp only[jY,aZ];refine Ok.bind (abj (j:={r.aS with bW:=d,bT:=r.aS.bT++ [⟨r.aS.gM,e⟩]}) hd) λx hx=> ?_;obtain⟨d',rfl,hd'⟩:=hx;rw[hL.tm,hL.lg];have g:LE {r with aS:={bW:=d',gM:=T,iW:=r.aS.iW,bT:=L++ [⟨T,e⟩]},fP:=3} i T (L++ [⟨T,e⟩]) (b+170) cm:=by
  refine⟨hL.id,hL.n,rfl,rfl,rfl,hd',hL.co,λk hk=> ?_,λk hk=> ?_⟩
  .have:=hL.mt k hk;show gA r.gL k<=_;simp;omega
  .have:=hL.nx k hk;show 0<=gA r.next k/\gA r.next k<=_;simp;omega
 show Ok ((zL {r with aS:={bW:=d',gM:=T,iW:=r.aS.iW,bT:=L++ [⟨T,e⟩]},fP:=3}).bind _) _;have hnx:({r with aS:={bW:=d',gM:=T,iW:=r.aS.iW,bT:=L++ [⟨T,e⟩]},fP:=3}:bA).next=r.next:=rfl
 have hmt:∀k,k<3->gA ({r with aS:={bW:=d',gM:=T,iW:=r.aS.iW,bT:=L++ [⟨T,e⟩]},fP:=3}:bA).gL k<=(L.length:Int):=hL.mt;generalize ({r with aS:={bW:=d',gM:=T,iW:=r.aS.iW,bT:=L++ [⟨T,e⟩]},fP:=3}:bA)=r2 at g hnx hmt;rw[atu g.n (by rw[g.co];exact h0.1) (by rw[g.lg];simp;omega) ?_,bG,aqU hi g.id g.n (by rw[g.lg];simp;omega) (λk hk=>by have:=g.nx k hk;simp at this;omega),bG]
 .exact Ok.some ⟨r2,rfl,g,hnx⟩
 .intro m h1 h2 h3;rw[g.co]at h1;rw[g.lg]at h2 h3;rw[g.tm]at h3;simp at h2;by_cases q:m<=(L.length:Int)
  .rw[arK]at h3;exact(hq m h1 q h3).elim
  .have hm:∀k,k<3->JO r2 k m=false:=λk hk=>(by unfold JO;rw[dF (by have:=hmt k hk;omega),Gs]);unfold Qt;rw[hm 0 ah,hm 1 ah,hm 2 ah];rfl
theorem aiO(hi:i<3)(k:Int)(hk:k=1\/k=2\/k=7):Fg (qf R [] c) {aM:=k,nY:=(i:Int),N:=0,kP:=e}=some true:=by
 have h:∀q,Hz {aM:=k,nY:=(i:Int),N:=0,kP:=e} k true q=some true:=λq=>by unfold Hz xJ;simp only[aY,bG];rw[dT (show(0:Int)<=(i:Int)by omega),dT (show(i:Int)<3 by omega)];rfl
 unfold Fg;rcases hk with rfl|rfl|rfl
 .exact h (qf R [] c)
 .exact h (qf R [] c)
 .exact h (qf R [] c)
theorem doK(h:lG R c):pO (qf R bn c)=some (0,qf R bn c):=by unfold pO;rw[arq (λi hi=>(h i hi).1),bG,h.nt];rfl
theorem do1{R:RF}{c:List aP}{i:Nat}(hi:i<3){e:aP}{Q:List bJ->bA->Prop}(h:Ok (y9 (R i)) (λo=>o.1.length<=50/\lG (upd R i o.2) c/\Q o.1 o.2)):
  Ok (Am (qf R [] c) {aM:=1,nY:=(i:Int),N:=0,kP:=e}) (λo=>∃ms r,Q ms r/\lG (upd R i r) c/\o=(0,qf (upd R i r) ms c)):=by
 obtain⟨o,h1,h2,h3,h4⟩:=h;unfold Am;show Ok ((Fg (qf R [] c) _).bind _) _;rw[aiO hi 1 (.inl rfl),bG];have fin:Ok ((sD (qf (upd R i o.2) [] c) o.1).bind λx=>pO (gK x)) (λo=>∃ms r,Q ms r/\lG (upd R i r) c/\o=(0,qf (upd R i r) ms c)):=by rw[aiR ay,bG];show Ok (pO (qf (upd R i o.2) ([]++o.1) c)) _;rw[doK h3];exact Ok.some ⟨o.1,o.2,h4,h3,rfl⟩
 have:i=0\/i=1\/i=2:=ah
 rcases this with rfl|rfl|rfl
 .show Ok ((y9 (R 0)).bind _) _;rw[h1,bG];exact fin
 .show Ok ((y9 (R 1)).bind _) _;rw[h1,bG];exact fin
 .show Ok ((y9 (R 2)).bind _) _;rw[h1,bG];exact fin
theorem do2{R:RF}{c:List aP}{i:Nat}(hi:i<3){e:aP}{Q:List bJ->bA->Prop}(h:Ok (za (R i) e) (λo=>o.1.length<=50/\o.2.1=0/\lG (upd R i o.2.2) c/\Q o.1 o.2.2)):
  Ok (Am (qf R [] c) {aM:=2,nY:=(i:Int),N:=0,kP:=e}) (λo=>∃ms r,Q ms r/\lG (upd R i r) c/\o=(0,qf (upd R i r) ms c)):=by
 obtain⟨⟨o1,o2,o3⟩,h1,h2,h5,h3,h4⟩:=h;simp only at h2 h5 h3 h4;subst h5;unfold Am;show Ok ((Fg (qf R [] c) _).bind _) _;rw[aiO hi 2 (.inr (.inl rfl)),bG];have fin:Ok (NP o1 0 (qf (upd R i o3) [] c)) (λo=>∃ms r,Q ms r/\lG (upd R i r) c/\o=(0,qf (upd R i r) ms c)):=by unfold NP;simp only[show((0:Int) !=0)=false from rfl,aZ];rw[aiR ay,bG];show Ok (pO (qf (upd R i o3) ([]++o1) c)) _;rw[doK h3];exact Ok.some ⟨o1,o3,h4,h3,rfl⟩
 have:i=0\/i=1\/i=2:=ah
 rcases this with rfl|rfl|rfl
 .show Ok ((za (R 0) e).bind _) _;rw[h1,bG];exact fin
 .show Ok ((za (R 1) e).bind _) _;rw[h1,bG];exact fin
 .show Ok ((za (R 2) e).bind _) _;rw[h1,bG];exact fin
theorem do7{R:RF}{c:List aP}{i:Nat}(hi:i<3){e:aP}{Q:bA->Prop}(h:Ok (BL (R i) 0) (λr=>lG (upd R i r) c/\Q r)):
  Ok (Am (qf R [] c) {aM:=7,nY:=(i:Int),N:=0,kP:=e}) (λo=>∃r,Q r/\lG (upd R i r) c/\o=(0,qf (upd R i r) [] c)):=by
 obtain⟨r,h1,h3,h4⟩:=h;unfold Am;show Ok ((Fg (qf R [] c) _).bind _) _;rw[aiO hi 7 (.inr (.inr rfl)),bG];have fin:Ok (pO (qf (upd R i r) [] c)) (λo=>∃r,Q r/\lG (upd R i r) c/\o=(0,qf (upd R i r) [] c)):=by rw[doK h3];exact Ok.some ⟨r,h4,h3,rfl⟩
 have:i=0\/i=1\/i=2:=ah
 rcases this with rfl|rfl|rfl
 .show Ok ((BL (R 0) 0).bind _) _;rw[h1,bG];exact fin
 .show Ok ((BL (R 1) 0).bind _) _;rw[h1,bG];exact fin
 .show Ok ((BL (R 2) 0).bind _) _;rw[h1,bG];exact fin
theorem aHf(h:∀i,i<3->(R i).fP≠3):Ii (qf R bn c)=some (-1,qf R bn c):=by
 have h0:((R 0).fP==3)=false:=by simpa using h 0 ah
 have h1:((R 1).fP==3)=false:=by simpa using h 1 ah
 have h2:((R 2).fP==3)=false:=by simpa using h 2 ah
 simp only[show aQ (0+1)=1 from rfl,show aQ (1+1)=2 from rfl,show aQ (2+1)=3 from rfl,show decide ((0:Int)<3)=true from rfl,show decide ((1:Int)<3)=true from rfl,show decide ((2:Int)<3)=true from rfl,show decide ((3:Int)<3)=false from rfl,show decide ((-1:Int)<0)=true from rfl,show decide ((0:Int)<0)=false from rfl,show decide ((1:Int)<0)=false from rfl,show decide ((2:Int)<0)=false from rfl,show((-1:Int)== -1)=true from rfl,show((0:Int)== -1)=false from rfl,show((1:Int)== -1)=false from rfl,show((2:Int)== -1)=false from rfl,show((0:Int)==2)=false from rfl,show((0:Int)==1)=false from rfl,show((0:Int)==0)=true from rfl,show((1:Int)==2)=false from rfl,show((1:Int)==1)=true from rfl,show((2:Int)==2)=true from rfl,show decide ((0:Int)<=0/\(0:Int)<((3:Nat):Int))=true from rfl,show decide ((0:Int)<=1/\(1:Int)<((3:Nat):Int))=true from rfl,show decide ((0:Int)<=2/\(2:Int)<((3:Nat):Int))=true from rfl,Ii,R7,Ki,R6,Kh,RO,xH,qf,bG,ai5,arP,h0,h1,h2,nC,aZ,aY,jG,gN,Ep,Qd,bq];rfl
theorem aHg(hi:i<3)(hl:(R i).fP=3)(h:∀x,x<3->x≠i->(R x).fP≠3):Ii (qf R bn c)=some ((i:Int),qf R bn c):=by
 have hx:∀x,x<3->((R x).fP==3)=decide (x=i):=λx hx=>by
  by_cases q:x=i
  .subst q;rw[hl];simp
  .have:=h x hx q;simp[q,this]
 have h0:=hx 0 ah;have h1:=hx 1 ah;have h2:=hx 2 ah;have:i=0\/i=1\/i=2:=ah
 rcases this with rfl|rfl|rfl<;>
 .simp only[show decide (0=0)=true from rfl,show decide (0=1)=false from rfl,show decide (0=2)=false from rfl,show decide (1=0)=false from rfl,show decide (1=1)=true from rfl,show decide (1=2)=false from rfl,show decide (2=0)=false from rfl,show decide (2=1)=false from rfl,show decide (2=2)=true from rfl]at h0 h1 h2;simp only[show aQ (0+1)=1 from rfl,show aQ (1+1)=2 from rfl,show aQ (2+1)=3 from rfl,show decide ((0:Int)<3)=true from rfl,show decide ((1:Int)<3)=true from rfl,show decide ((2:Int)<3)=true from rfl,show decide ((3:Int)<3)=false from rfl,show decide ((-1:Int)<0)=true from rfl,show decide ((0:Int)<0)=false from rfl,show decide ((1:Int)<0)=false from rfl,show decide ((2:Int)<0)=false from rfl,show((-1:Int)== -1)=true from rfl,show((0:Int)== -1)=false from rfl,show((1:Int)== -1)=false from rfl,show((2:Int)== -1)=false from rfl,show((0:Int)==2)=false from rfl,show((0:Int)==1)=false from rfl,show((0:Int)==0)=true from rfl,show((1:Int)==2)=false from rfl,show((1:Int)==1)=true from rfl,show((2:Int)==2)=true from rfl,show decide ((0:Int)<=0/\(0:Int)<((3:Nat):Int))=true from rfl,show decide ((0:Int)<=1/\(1:Int)<((3:Nat):Int))=true from rfl,show decide ((0:Int)<=2/\(2:Int)<((3:Nat):Int))=true from rfl,Ii,R7,Ki,R6,Kh,RO,xH,jl,o9,qf,bG,ai5,arP,h0,h1,h2,nC,kN,aZ,aY,jG,gN,Ep,Qd,bq];try rfl
end
structure Q3(R:RF)(al:Nat->Bool)(L:LG)(b:Nat)(T:Int):Prop where
 t0:0<=T
 tl:∀x∈L,1<=x.iB/\x.iB<=T
 ln:L.length<=400
 oc:lG R (fO L)
 JQ:∀i a k,OT i a k->al i=true->al a=true\/al k=true
 ex:∃i,i<3/\al i=true
 dead:∀x,x<3->al x=false->(R x).fP≠3
structure LD(R:RF)(al:Nat->Bool)(L:LG)(b:Nat)(T:Int)(i:Nat)(cm:Int):Prop where
 hi:i<3
 ui:al i=true
 le:LE (R i) i T L b cm
 c0:0<=cm/\cm<=(L.length:Int)
 qu:∀m:Int,cm<m->m<=(L.length:Int)->nk L (m-1)≠T
 t1:1<=T
 fo:∀x,x<3->x≠i->al x=true->FO (R x) x T L b (L.length:Int)/\gA (R i).next x=(L.length:Int)
def NL(R:RF)(al:Nat->Bool)(L:LG)(b:Nat)(T:Int):Prop:=∀x,x<3->al x=true->FO (R x) x T L b (L.length:Int)
theorem aaN{L:LG}{T:Int}(h:∀x∈L,1<=x.iB/\x.iB<=T)(h0:0<=T):0<=lastT L/\lastT L<=T:=by
 refine⟨?_,ajJ (λx hx=>(h x hx).2) h0 _⟩;unfold lastT nk;split
 .rename_i q
  have:=(h _ (show L.getD ((L.length:Int)-1).toNat aG∈L by
   rw[fC,jN ah]
   exact yN _)).1
  omega
 .omega
theorem aj8{L:LG}{T T':Int}(h:∀x∈L,1<=x.iB/\x.iB<=T)(h0:0<=T)(h1:T<=T':=by omega)(h2:1<=T':=by omega)(h3:T'<=1000000:=by omega)(hl:L.length<=2000:=by omega):LF L T':=by have:=aaN h h0;exact⟨h2,h3,λx hx=>(h x hx).1,ah,this.1,hl⟩
section
variable {c:aN} {u:Int} {s:aO} {al:Nat->Bool} {R:RF} {k:List aP} {L:LG} {b:Nat} {T:Int}
abbrev pl(c:aN)(R:RF)(k:List aP)(u:Int)(s:aO):bO:={eu:=c,bn:=qf R [] k,up:=u,state:=s}
theorem aiF(hU:UPS u al)(h3:c.dh.length=3){q:bP}{i:Nat}(hi:i<3):pq {eu:=c,bn:=q,up:=u,state:=s} (i:Int)=some (al i):=by unfold pq;simp only[h3];rw[dT (show(0:Int)<=(i:Int)by omega),dT (show(i:Int)<((3:Nat):Int)by omega),gZ (by rfl),hU.g i hi];rfl
theorem aJ1{q:bP}:pq {eu:=c,bn:=q,up:=u,state:=s} (-1)=some false:=by unfold pq;rw[dF (show¬(0:Int)≤-1 by omega)];rfl
theorem aK9{i:Nat}(hi:i<3)(h:(R i).aS.bT.length<=1000000){n:List bJ}:Kq (qf R n k) (i:Int)=some (R i).aS.bT:=by
 have hh:xJ (qf R n k) (i:Int)=some true:=by unfold xJ;rw[dT (show(0:Int)<=(i:Int)by omega),dT (show(i:Int)<3 by omega)];rfl
 unfold Kq;show(xJ (qf R n k) (i:Int)).bind _=_;rw[hh,bG];have:i=0\/i=1\/i=2:=ah
 rcases this with rfl|rfl|rfl
 .show(rG (R 0)).bind _=_;rw[Vw _ h];rfl
 .show(rG (R 1)).bind _=_;rw[Vw _ h];rfl
 .show(rG (R 2)).bind _=_;rw[Vw _ h];rfl
theorem aIc{i:Nat}(hi:i<3){n:List bJ}:Ka (qf R n k) (i:Int)=some (R i).fM:=by
 have hh:xJ (qf R n k) (i:Int)=some true:=by unfold xJ;rw[dT (show(0:Int)<=(i:Int)by omega),dT (show(i:Int)<3 by omega)];rfl
 unfold Ka;show(xJ (qf R n k) (i:Int)).bind _=_;rw[hh,bG];have:i=0\/i=1\/i=2:=ah
 rcases this with rfl|rfl|rfl<;>rfl
theorem aKA(hU:UPS u al)(h3:c.dh.length=3)(hl:∀x,x<3->al x=true->(R x).aS.bT=L)(hn:L.length<=1000)(h0:0<=lastT L)(ex:∃i,i<3/\al i=true):
  Ok (NC (pl c R k u s)) (λj=>∃i,i<3/\al i=true/\j=(i:Int)):=by
 have step:∀(f j:Nat) (bs tm ln:Int),j<3->zK ((3:Nat):Int) (pl c R k u s) (f+1) bs tm ln (j:Int)=
   bif al j&&(decide (tm<lastT L)||(lastT L==tm&&decide (ln<(L.length:Int))))then zK ((3:Nat):Int) (pl c R k u s) f (j:Int) (lastT L) (L.length:Int) ((j+1:Nat):Int)
   else zK ((3:Nat):Int) (pl c R k u s) f bs tm ln ((j+1:Nat):Int):=by
  intro f j bs tm ln hj;rw[zK,eZZ,aiF hU h3 hj,bG];unfold Fx;rw[bLZ,show((j:Int)+1)=((j+1:Nat):Int)by omega];rcases ha:al j with _|_;rfl;have e:=hl j hj ha;simp only[gN,aZ,kN];rw[aK9 hj (by rw[e];omega),bG,e];have k2:∀rc:Int->Int->Int->Int->Option Int,DC rc bs tm ln (j:Int) L (lastT L) (j:Int)=bif(decide (tm<lastT L)||(lastT L==tm&&decide (ln<(L.length:Int))))then rc (j:Int) (lastT L) (L.length:Int) ((j+1:Nat):Int)else rc bs tm ln ((j+1:Nat):Int):=λrc=>by unfold DC Fx;rw[bLZ,show((j:Int)+1)=((j+1:Nat):Int)by omega]
  by_cases q:0<(L.length:Int)
  .rw[eZ q,bLZ,dVZ];have e2:(L.getD ((L.length:Int)-1).toNat aG).iB=lastT L:=(by unfold lastT nk;rw[bU ah]);rw[e2,k2]
  .rw[fH q];have e2:lastT L=0:=(by unfold lastT nk;rw[cZ ah]);rw[<-e2,k2,e2]
 have fin:∀(f:Nat) (bs tm ln:Int),zK ((3:Nat):Int) (pl c R k u s) (f+1) bs tm ln ((3:Nat):Int)=some bs:=by intro f bs tm ln;rw[zK,fHZ]
 have c1:(decide ((-1:Int)<lastT L)||(lastT L== -1&&decide ((-1:Int)<(L.length:Int))))=true:=by rw[dT ah];rfl
 have c2:(decide (lastT L<lastT L)||(lastT L==lastT L&&decide ((L.length:Int)<(L.length:Int))))=false:=by rw[dF,dF];simp
 obtain⟨f,hf⟩:∃f,fuel=f+4:=⟨18446744073709551612,by rw[iK]⟩;unfold NC;show Ok (zK ((c.dh.length:Int)) (pl c R k u s) fuel (-1) (-1) (-1) ((0:Nat):Int)) _;rw[h3,hf,step _ 0 _ _ _ ah];cases a0:al 0 with
 |true=>rw[c1];simp only[Ba,aY];rw[step _ 1 _ _ _ ah,c2,Gs,aZ,step _ 2 _ _ _ ah,c2,Gs,aZ,fin];exact Ok.some ⟨0,ah,a0,rfl⟩
 |false=>simp only[nC,aZ];rw[step _ 1 _ _ _ ah];cases a1:al 1 with
  |true=>rw[c1];simp only[Ba,aY];rw[step _ 2 _ _ _ ah,c2,Gs,aZ,fin];exact Ok.some ⟨1,ah,a1,rfl⟩
  |false=>simp only[nC,aZ];rw[step _ 2 _ _ _ ah];cases a2:al 2 with
   |true=>rw[c1];simp only[Ba,aY];rw[fin];exact Ok.some ⟨2,ah,a2,rfl⟩
   |false=>
    obtain⟨i,hi,hai⟩:=ex;have:i=0\/i=1\/i=2:=ah;rcases this with rfl|rfl|rfl
    .rw[a0]at hai;cases hai
    .rw[a1]at hai;cases hai
    .rw[a2]at hai;cases hai
theorem BR:(fO L).length=L.length:=by simp[fO]
theorem aql{P:RF->List aP->Prop}{bn:List bJ}{n:Nat}(hn:n<=100)(h:FL u R bn k n P):Ok (Nt (qf R bn k) u) (λo=>∃R' c',o.2=qf R' [] c'/\P R' c'):=by unfold Nt;exact h fuel 0 aB ah
theorem aq7{e:aP}{i:Nat}{cm:Int}(hU:UPS u al)(h3:c.dh.length=3)(hQ:Q3 R al L b T)(hD:LD R al L b T i cm)(hs:sG e=some true)(hc:s.eH=(L.length:Int))(hL:L.length<=390)(hT:T<=900000)(hb:b<=800000:=by omega){x f:Nat}(hx:x<4:=by omega):
  Ok (Dv e (f+1) (x:Int) (pl c R (fO L) u s)) (λo=>∃R' kL,o=(true,pl c R' (fO (L++ [⟨T,e⟩])) u s)/\lG R' (fO (L++ [⟨T,e⟩]))/\LD R' al (L++ [⟨T,e⟩]) (b+340) T i kL∧∀y,al y=false->R' y=R y):=by
 obtain⟨a,k,o⟩:=ot hD.hi;have hlf:LF L T:=aj8 hQ.tl hQ.t0 (jc _) hD.t1
 have QC:LF (L++ [⟨T,e⟩]) T:=aj8 (T:=T) (λx hx=>by
  rcases qp.1 hx with h|h
  .exact hQ.tl x h
  .rw[qw.1 h];exact⟨hD.t1,jc _⟩) hQ.t0 (jc _) hD.t1 ah ay
 rw[Dv,eZZ];show Ok ((Ii (qf R [] (fO L))).bind _) _
 rw[aHg hD.hi hD.le.ro (λy hy hne=>by
  cases ha:al y with
  |true=>exact(hD.fo y hy hne ha).1.ro
  |false=>exact hQ.dead y hy ha),bG]
 show Ok ((pq (pl c R (fO L) u s) (i:Int)).bind _) _;rw[aiF hU h3 hD.hi,bG,hD.ui,aY];show Ok ((Am (qf R [] (fO L)) _).bind _) _;have hc0:=hD.c0;refine Ok.bind (do2 (Q:=λms r=>ms=(E5 i).map (xg r)/\LE r i T (L++ [⟨T,e⟩]) (b+170) cm/\r.next=(R i).next) hD.hi ((aIb hD.hi hD.le hD.c0 hlf hs ah hD.qu).mono λq hq=> ?_)) λq hq=> ?_
 .obtain⟨r',rfl,g1,g2⟩:=hq;refine⟨by rw[o.e];simp,rfl,lG.upd (k:=i) hQ.oc (LE.cb g1 (show 0<=cm/\cm<=(((L++ [⟨T,e⟩]:LG).length:Nat):Int)from⟨hc0.1,ay⟩) ay) ?_,rfl,g1,g2⟩;show r'.fM<=_;rw[g1.co,BR];exact hc0.2
 .obtain⟨ms,r,⟨g1,g2,g3⟩,g4,rfl⟩:=hq;rw[g1,o.e];show Ok (Kg _ _ (i:Int) true {eu:=c,bn:=qf (upd R i r) [xg r a,xg r k] (fO L),up:=u,state:=s}) _;unfold Kg;rw[aY];have hr:upd R i r i=r:=nM
  have:=auM (R:=upd R i r) (c:=fO L) (c':=fO (L++ [⟨T,e⟩])) (es:=[⟨T,e⟩]) (cm:=cm) (kL:=(((L++ [⟨T,e⟩]:LG).length:Nat):Int)) (bd:=b+170) hU o hD.ui (hQ.JQ i a k o hD.ui) hlf QC (.inr ⟨e,rfl,hs⟩) BR g4 (by rw[hr];exact g2) hc0 ah
   (λy hy hne hal=>by
    obtain⟨f1,f2⟩:=hD.fo y hy hne hal;rw[hr,upd_ne hne,g3]
    exact⟨f1.up ah (jc _),f2⟩)
   (.inr ⟨rfl,rfl,apC,ay,by rw[BR];simp⟩)
  rw[hr]at this;refine Ok.bind (aql ah this) λw hw=> ?_;obtain⟨R',c',q1,q2,q3,q4,q5,q6⟩:=hw;rw[q1,q2];show Ok ((Ka (qf R' [] (fO (L++ [⟨T,e⟩]))) (i:Int)).bind _) _;rw[aIc hD.hi,bG,q4.co];show Ok (some (decide (s.eH<_),pl c R' (fO (L++ [⟨T,e⟩])) u s)) _;rw[dT (by rw[hc];simp;omega)];refine Ok.some ⟨R',_,rfl,q3,⟨hD.hi,hD.ui,q4.up ah,⟨ay,jc _⟩,λm h1 h2=>ah,hD.t1,λy hy hne hal=> ?_⟩,λy hal=> ?_⟩
  .obtain⟨f1,f2⟩:=q5 y hy hne hal;exact⟨f1.up ah ay,f2⟩
  .have hne:y≠i:=(by rintro rfl;rw[hD.ui]at hal;cases hal);rw[q6 y hne hal,upd_ne hne]
end
section
variable {c:aN} {u:Int} {s:aO} {al:Nat->Bool} {R:RF} {k:List aP} {L:LG} {b:Nat} {T:Int} {e:aP}
theorem aKE(hU:UPS u al)(h3:c.dh.length=3)(hQ:Q3 R al L b T)(hN:NL R al L b T)(hs:sG e=some true)(hc:s.eH=(L.length:Int))(hL:L.length<=390)(htb:T<=800000)(hbd:b<=700000){f:Nat}:
  Ok (Dv e (f+2) 0 (pl c R (fO L) u s)) (λo=>∃R' kL i,o=(true,pl c R' (fO (L++ [⟨T+1,e⟩])) u s)/\lG R' (fO (L++ [⟨T+1,e⟩]))/\LD R' al (L++ [⟨T+1,e⟩]) (b+1020) (T+1) i kL∧∀y,al y=false->R' y=R y):=by
 have ht:=hQ.t0;have hlf:LF L (T+1):=aj8 hQ.tl hQ.t0;rw[Dv,eZZ];show Ok ((Ii (qf R [] (fO L))).bind _) _
 rw[aHf (λy hy=>by
  cases ha:al y with
  |true=>exact(hN y hy ha).ro
  |false=>exact hQ.dead y hy ha),bG]
 show Ok ((pq (pl c R (fO L) u s) (-1)).bind _) _;rw[aJ1,bG,aZ];show Ok (Kg _ 0 (-1) false (pl c R (fO L) u s)) _;unfold Kg;rw[aZ];refine Ok.bind (aKA hU h3 (λx hx ha=>(hN x hx ha).lg) ah (aaN hQ.tl hQ.t0).1 hQ.ex) λj hj=> ?_;obtain⟨i,hi,ui,rfl⟩:=hj;obtain⟨a,q,o⟩:=ot hi;have hF:=hN i hi ui;have hab:=hQ.JQ i a q o ui;refine Ok.bind (do1 (R:=R) (c:=fO L) (Q:=λms r=>ms=(E5 i).map (Dk r)/\CA r i (T+1) L (b+170) (L.length:Int)) hi ((aG6 hi hF.id hF.n hF.dk ah ⟨by rw[hF.tm];omega,by rw[hF.tm];omega⟩ (by rw[hF.lg];omega)).mono λw hw=> ?_)) λw hw=> ?_
 .obtain⟨d,rfl,hd⟩:=hw;have g:CA (LY (R i) d i) i (T+1) L (b+170) (L.length:Int):=⟨hF.id,hF.n,rfl,by show(R i).aS.gM+1=_;rw[hF.tm],hF.lg,hd,hF.c0,hF.c1,rfl⟩;refine⟨by rw[o.e];simp,hQ.oc.upd (k:=i) (.inr ⟨g.c0,by rw[g.lg];exact g.c1,by rw[g.lg];omega⟩) (by have:=g.c1;rw[BR];exact this),rfl,g⟩
 .obtain⟨ms,r,⟨g1,g2⟩,g4,rfl⟩:=hw;rw[g1,o.e];have hr:upd R i r i=r:=nM
  have:=aMI (R:=upd R i r) (c:=fO L) (bd:=b+170) hU o ui hab hlf (λx hx=>(hQ.tl x hx).2) ht BR g4 ah (by rw[hr];exact g2)
   (λy hy hne hal=>by rw[upd_ne hne];exact(hN y hy hal).up ah (jc _))
  rw[hr]at this;show Ok ((Nt (qf (upd R i r) [Dk r a,Dk r q] (fO L)) u).bind _) _;refine Ok.bind (aql ah this) λw hw=> ?_;obtain⟨R',c',q1,q2,q3,q4,q5,q6⟩:=hw;rw[q1,q2];show Ok (Dv e (f+1) 1 (pl c R' (fO L) u s)) _;have xZ:∀y,al y=false->R' y=R y:=λy hal=>by have hne:y≠i:=(by rintro rfl;rw[ui]at hal;cases hal);rw[q6 y hne hal,upd_ne hne]
  have hQ':Q3 R' al L (b+680) (T+1):=⟨ah,λx hx=>⟨(hQ.tl x hx).1,by have:=(hQ.tl x hx).2;omega⟩,hQ.ln,q3,hQ.JQ,hQ.ex,λx hx hal=>by rw[xZ x hal];exact hQ.dead x hx hal⟩;have hD':LD R' al L (b+680) (T+1) i r.fM:=⟨hi,ui,q4.up ah,⟨g2.c0,g2.c1⟩,λm h1 h2=>by have:=ajJ (λx hx=>(hQ.tl x hx).2) ht (m-1);omega,ah,λy hy hne hal=>⟨(q5 y hy hne hal).1.up ah (jc _),(q5 y hy hne hal).2⟩⟩;refine(aq7 (x:=1) hU h3 hQ' hD' hs hc hL ah ah ah).mono λo ho=> ?_;obtain⟨R2,kL,o1,o2,o3,o4⟩:=ho;exact⟨R2,kL,i,o1,o2,⟨o3.hi,o3.ui,o3.le.up ah,o3.c0,o3.qu,o3.t1,λy hy hne hal=>⟨(o3.fo y hy hne hal).1.up ah (jc _),(o3.fo y hy hne hal).2⟩⟩,λy hal=>by rw[o4 y hal,xZ y hal]⟩
end
def mk3(al:Nat->Bool):Int:=(bif al 0 then 1 else 0)+(bif al 1 then 2 else 0)+(bif al 2 then 4 else 0)
theorem ajA(al:Nat->Bool):UPS (mk3 al) al:=by
 constructor<;>
 .intro i hi;have:i=0\/i=1\/i=2:=ah
  unfold mk3;rcases this with rfl|rfl|rfl<;>cases al 0<;>cases al 1<;>cases al 2<;>decide
theorem aKY(al:Nat->Bool){i:Nat}(hi:i<3)(h:al i=true):Lh .i64 (mk3 al) (iV .i64 1 (i:Int))=mk3 λx=>al x&& !(x==i):=by
 have:i=0\/i=1\/i=2:=ah
 show Lh .i64 ((bif al 0 then 1 else 0)+(bif al 1 then 2 else 0)+(bif al 2 then 4 else 0)) (iV .i64 1 (i:Int))=(bif al 0&& !(0==i)then 1 else 0)+(bif al 1&& !(1==i)then 2 else 0)+(bif al 2&& !(2==i)then 4 else 0);rcases this with rfl|rfl|rfl<;>cases al 0<;>cases al 1<;>cases al 2<;>decide
structure H3(c:aN)(al:Nat->Bool)(p:bO)(l:List aP)(s:aO):Prop where
 ok:∃R L b T,p=pl c R (fO L) (mk3 al) s/\fO L=l/\Q3 R al L b T/\T<=(L.length:Int)/\b<=1100*(L.length+1)/\s.eH=(L.length:Int)/\c.dh.length=3/\(NL R al L b T∨∃i cm,LD R al L b T i cm)
section
variable {c:aN} {al:Nat->Bool} {p:bO} {l:List aP} {s s':aO} {e:aP}
theorem H3.norm(h:H3 c al p l s):((jH p):bO)=p:=by obtain⟨R,L,b,T,rfl,_⟩:=h.ok;rfl
theorem H3.cfg(h:H3 c al p l s):p.eu=c:=by obtain⟨R,L,b,T,rfl,_⟩:=h.ok;rfl
theorem H3.sta(h:H3 c al p l s):p.state=s:=by obtain⟨R,L,b,T,rfl,_⟩:=h.ok;rfl
theorem H3.ent(h:H3 c al p l s):p.bn.kW=l:=by obtain⟨R,L,b,T,rfl,h2,_⟩:=h.ok;exact h2
theorem aMa(al:Nat->Bool)(hm:∀i a k,OT i a k->al i=true->al a=true\/al k=true)(ex:∃i,i<3/\al i=true):∃n,SH (IntKind.u64.wrap (mk3 al))=some n/\2<=n/\n<=3:=by
 have h0:=hm 0 1 2 ⟨ah,ah,ah,ah,ah,ah,rfl⟩;have h1:=hm 1 0 2 ⟨ah,ah,ah,ah,ah,ah,rfl⟩;have h2:=hm 2 0 1 ⟨ah,ah,ah,ah,ah,ah,rfl⟩;have hx:al 0=true\/al 1=true\/al 2=true:=by
  obtain⟨i,hi,ha⟩:=ex;have:i=0\/i=1\/i=2:=ah
  rcases this with rfl|rfl|rfl
  .exact .inl ha
  .exact .inr (.inl ha)
  .exact .inr (.inr ha)
 unfold mk3;revert h0 h1 h2 hx;cases al 0<;>cases al 1<;>cases al 2<;>intro h0 h1 h2 hx<;>simp at h0 h1 h2 hx
 .exact⟨2,rfl,ah,ah⟩
 .exact⟨2,rfl,ah,ah⟩
 .exact⟨2,rfl,ah,ah⟩
 .exact⟨3,rfl,ah,ah⟩
theorem H3.propose(h:H3 c al p l s)(hA:BQ c s e=some (s',0))(hs:sG e=some true)(hc:s'.eH=s.eH+1)(hl:l.length<=390):
  Ok (Km p e) (λo=>o.2.1=0/\H3 c al o.2.2 (l++ [e]) s'):=by
 obtain⟨R,L,b,T,rfl,rfl,hQ,hT,hb,hcn,h3,hD⟩:=h.ok;rw[BR]at hl;obtain⟨n,r1,r2,r3⟩:=aMa al hQ.JQ hQ.ex;unfold Km;show Ok ((ze (pl c R (fO L) (mk3 al) s)).bind _) _;have hr:ze (pl c R (fO L) (mk3 al) s)=some true:=by unfold ze;simp only;rw[r1,bG,h3,bLZ,dT ah]
 rw[hr,bG];simp only[gN,aZ];rw[hA,bG];simp only[jY,aZ];show Ok ((Sy (pl c R (fO L) (mk3 al) s) e).bind _) _;have key:Ok (Sy (pl c R (fO L) (mk3 al) s) e) (λo=>∃R' L' b' T' kL i,o=(true,pl c R' (fO L') (mk3 al) s)/\fO L'=fO L++ [e]/\Q3 R' al L' b' T'/\T'<=(L'.length:Int)/\b'<=1100*(L'.length+1)/\LD R' al L' b' T' i kL):=by
  unfold Sy;show Ok (Dv e fuel 0 (pl c R (fO L) (mk3 al) s)) _;obtain⟨f,hf⟩:∃f,fuel=f+2:=⟨18446744073709551614,by rw[iK]⟩;rw[hf];have ht0:=hQ.t0;rcases hD with hN|⟨i,cm,hD⟩
  .refine(aKE (ajA al) h3 hQ hN hs hcn hl ah ah).mono λo ho=> ?_;obtain⟨R',kL,i,rfl,o2,o3,o4⟩:=ho;refine⟨R',L++ [⟨T+1,e⟩],b+1020,T+1,kL,i,rfl,by simp[fO],⟨ah,λx hx=> ?_,ay,o2,hQ.JQ,hQ.ex,λx hx hal=>by rw[o4 x hal];exact hQ.dead x hx hal⟩,ay,ay,o3⟩;rcases qp.1 hx with h|h
   .have:=hQ.tl x h;omega
   .rw[qw.1 h];show 1<=T+1/\T+1<=T+1;omega
  .refine(aq7 (x:=0) (f:=f+1) (ajA al) h3 hQ hD hs hcn hl ah ah ah).mono λo ho=> ?_;obtain⟨R',kL,rfl,o2,o3,o4⟩:=ho;have ht1:=hD.t1;refine⟨R',L++ [⟨T,e⟩],b+340,T,kL,i,rfl,by simp[fO],⟨hQ.t0,λx hx=> ?_,ay,o2,hQ.JQ,hQ.ex,λx hx hal=>by rw[o4 x hal];exact hQ.dead x hx hal⟩,ay,ay,o3⟩;rcases qp.1 hx with h|h
   .exact hQ.tl x h
   .rw[qw.1 h];show 1<=T/\T<=T;omega
 refine Ok.bind key λo ho=> ?_;obtain⟨R',L',b',T',kL,i,rfl,o1,o2,o3,o4,o5⟩:=ho;simp only[gN,aZ];have hlen:L'.length=L.length+1:=by rw[<-BR,o1];simp[fO]
 exact Ok.some ⟨rfl,⟨R',L',b',T',rfl,o1,o2,o3,o4,by rw[hc,hcn];omega,h3,.inr ⟨i,kL,o5⟩⟩⟩
end
section
variable {p:List Int}{j:fU}{b:Nat}
theorem ahm(hp:p.length<=10000000:=by omega):Ok (OU p) (λr=>r.2.2≠0\/(1<=r.2.1/\r.2.1<=(p.length:Int))):=by
 unfold OU;refine lJ (L:=λm x k=>Ol p m x k) 10 ah (λk _=>k<=p.length) (zk _) (λm k x hk hI hn=> ?_) (λm x hI=> ?_)
 .rw[Ol,eZZ];refine Ok.cond (λ_=>Ok.some (.inl ak)) (λh=> ?_);have hne:(k:Int)≠(p.length:Int):=aD h
  rw[dVZ,gZ (dT (xX _).1),bL (x:=(k:Int)+1) ah ah];refine Ok.cond (λ_=>hn _ ah) (λ_=>Ok.cond (λ_=>Ok.some (.inl ak)) (λ_=> ?_));unfold ag1;refine Ok.bind (P:=λ_=>True) (Ok.cond (λ_=>Ok.some trivial) (λ_=>Ok.some trivial)) λ_ _=>Ok.some (.inr (by simp only;omega))
 .rw[Ol,fHZ];exact Ok.some (.inl ak)
theorem apX(e:aP):Ok (sG e) (λ_=>True):=by obtain⟨s,s1,_⟩:=Ow (e:=e) {wJ:=32,cells:=16,regions:=4,zQ:=30} (by simp only;omega);unfold sG;rw[s1,bG];exact Ok.some trivial
theorem aLc{p:List Int}(hp:p.length<=10000000):Ok (Z5 p) (λ_=>True):=by
 unfold Z5;refine lJ (L:=λm (x:vg×Int) k=>wC p m x.1 x.2 k) (x:=(_,0)) 9 ah (λk x=>0<=x.2/\x.2<=(p.length:Int)) ⟨jc 0,by show(0:Int)<=_;omega⟩ (λm k x hk hI hn=> ?_) (λm x hI=> ?_)
 .show Ok (wC p (m+1) x.1 x.2 (k:Int)) _;rw[wC,eZZ,gZ (dT ⟨hI.1,hI.2,jc _⟩)];refine Ok.bind (ahm ay) λy hy=>Ok.cond (λ_=>Ok.some trivial) (λh=> ?_);have hy2:1<=y.2.1/\y.2.1<=((p.drop x.2.toNat).length:Int):=by
   rcases hy with q|q
   .exact(q (aD h)).elim
   .exact q
  have hl:((p.drop x.2.toNat).length:Int)=(p.length:Int)-x.2:=ay
  have hk1:∀a,Ok (Au (wC p m) x.2 (k:Int) a y.2.1) (λ_=>True):=λa=>by unfold Au;rw[bLZ,bL (x:=(k:Int)+1) ah ah];exact hn (a,x.2+y.2.1) ⟨by simp only;omega,by simp only;omega⟩
  refine Ok.cond (λ_=>hk1 _) λh8=>Ok.cond (λ_=>hk1 _) λh7=>Ok.cond (λ_=>hk1 _) λh6=>Ok.cond (λ_=>hk1 _) λh5=>Ok.cond (λ_=>hk1 _) λh4=>Ok.cond (λ_=>hk1 _) λh3=>Ok.cond (λ_=>hk1 _) λh2=>Ok.cond (λ_=>hk1 _) λh1=>Ok.cond (λ_=>hk1 _) λh0=> ?_;simp at h8 h7 h6 h5 h4 h3 h2 h1 h0;omega
 .show Ok (wC p (m+1) x.1 x.2 _) _;rw[wC,fHZ];refine Ok.bind (apX _) λ_ _=>Ok.cond (λ_=>Ok.some trivial) (λ_=>Ok.some trivial)
theorem aLu(hp:p.length<=900000):Ok (Z6 p 8) (λr=>r.2.2≠0\/(1<=r.2.1/\r.2.1<=(p.length:Int)/\r.1.length<=p.length)):=by
 unfold Z6;refine Ok.bind (ahm) λx hx=>Ok.cond (λh=>Ok.some (.inl (aD h))) (λh=> ?_);have hx2:1<=x.2.1/\x.2.1<=(p.length:Int):=by
  rcases hx with q|q
  .exact(q (aD h)).elim
  .exact q
 refine Ok.cond (λ_=>Ok.some (.inl ak)) (λh1=>Ok.cond (λ_=>Ok.some (.inl ak)) (λh2=>Ok.cond (λ_=>Ok.some (.inl ak)) (λh3=> ?_)));have h1:=wO h1;have h2:=wO h2;have h3:=wO h3;rw[bLZ,bLZ]at h3;refine lJ (L:=λm y k=>Oz p 8 x.1 x.2.1 m y k) 8 ah (λk _=>True) trivial (λm k y hk hI hn=> ?_) (λm y hI=> ?_)
 .rw[Oz,eZZ,bLZ,dVZ,gZ (dT (xX _).1),bL (x:=(k:Int)+1) ah ah];exact hn _ trivial
 .rw[Oz,fHZ,bL (x:=x.2.1+8) ah ah,bL (x:=x.2.1+8+x.1) ah ah,gZ (dT ⟨ah,ah,ah⟩),gZ (dT (rm ay))];refine Ok.bind (apr ay _) λz _=>Ok.cond (λ_=>Ok.some (.inl ak)) (λ_=>Ok.some (.inr ⟨by simp only;omega,by simp only;omega,ay⟩))
theorem ah3{p:List Int}(hp:p.length<=900000):Ok (OJ p) (λr=>r.2.1.length<=p.length):=by
 unfold OJ;refine Ok.bind (ahm) λx hx=>Ok.cond (λ_=>Ok.some aj) (λh=> ?_);have hx2:1<=x.2.1/\x.2.1<=(p.length:Int):=by
  rcases hx with q|q
  .exact(q (aD h)).elim
  .exact q
 rw[gZ (dT ⟨ah,hx2.2,jc _⟩)];exact Ok.some aj
theorem aJl(hp:p.length<=900000):Ok (Yb j p) (λ_=>True):=by
 unfold Yb;refine Ok.bind (ah3 hp) λx hx=>Ok.cond (λ_=>Ok.some trivial) λ_=>Ok.bind (ah3 (p:=x.2.1) ah) λy hy=>Ok.cond (λ_=>Ok.some trivial) λ_=>Ok.cond (λ_=> ?_) λ_=>Ok.cond (λ_=> ?_) λ_=>Ok.cond (λ_=> ?_) λ_=>Ok.some trivial
 .refine Ok.bind (ah3 (p:=y.2.1) ah) λz hz=>Ok.bind (P:=λ_=>True) (Ok.cond (λ_=> ?_) λ_=>Ok.some trivial) λ_ _=>Ok.some trivial;unfold R5;exact Ok.cond (λ_=>Ok.some trivial) λ_=>Ok.cond (λ_=>Ok.some trivial) λ_=>Ok.some trivial
 .refine Ok.bind (aLc (p:=y.2.1) ah) λz _=>Ok.cond (λ_=> ?_) λ_=>Ok.some trivial;refine Ok.bind (P:=λ_=>True) ?_ λ_ _=>Ok.some trivial;unfold SG;refine Ok.bind (P:=λ_=>True) (Ok.cond (λ_=>apX _) λ_=>Ok.some trivial) λ_ _=>Ok.cond (λ_=>Ok.some trivial) λ_=>Ok.bind (P:=λ_=>True) (Ok.cond (λ_=>Ok.eq (Er _ _) trivial) λ_=>Ok.some trivial) λ_ _=>Ok.cond (λ_=>Ok.some trivial) λ_=>Ok.cond (λ_=>Ok.some trivial) λh=> ?_;have h:=wO h;rw[gZ (dT (rm ay))];exact Ok.some trivial
 .refine Ok.cond (λ_=>Ok.bind (P:=λ_=>True) ?_ λ_ _=>Ok.some trivial) λ_=>Ok.some trivial;unfold Yz;refine Ok.cond (λ_=>Ok.some trivial) λh=> ?_;rw[ng]at h;have h1:=wO h.1;have h2:=wO h.2;rw[gZ (dT ⟨ah,ah⟩),gZ (dT ah)];exact Ok.some trivial
theorem aI5(h:oI j.bW b)(hb:b<=800000):Ok (Yk j 0) (λ_=>True):=by
 have h1:=h.lo;have h2:=h.hi;have h3:=h.ln;unfold Yk agh;have e:aQ (j.bW.qR+jE 0 (je 0 (aQ ((j.bW.data.length:Int)-j.bW.qR))))=j.bW.qR:=by
  rw[bL (x:=(j.bW.data.length:Int)-j.bW.qR) ah ah];have:jE 0 (je 0 ((j.bW.data.length:Int)-j.bW.qR))=0:=by unfold jE je;split<;>split<;>omega
  rw[this,Int.add_zero,bLZ]
 rw[e,gZ (dT ⟨h1,h2⟩),gZ (dT ah),bG];unfold SY;rw[gZ (dT (rm ay)),bG];simp only;generalize hx:j.bW.data.take j.bW.qR.toNat=x;have hxl:x.length<=800000:=by rw[<-hx];simp;omega
 have k1:∀(i:Int) (q:fU),Ok (RV i q) (λ_=>True):=λi q=>by unfold RV afv;refine Ok.bind (P:=λ_=>True) (Ok.cond (λ_=>Ok.some trivial) λh=> ?_) λ_ _=>Ok.some trivial;rw[ng]at h;have h1:=wO h.1;have h2:=wO h.2;rw[gZ (dT ⟨ah,ah⟩),gZ (dT ah)];exact Ok.some trivial
 refine aMW (L:=λm (y:Int×fU)=>J9 x m y.1 y.2) (x:=(0,_)) (λy=>x.length-y.1.toNat) (λy=>0<=y.1/\y.1<=(x.length:Int)) ⟨jc 0,by show(0:Int)<=_;omega⟩ (by simp only;omega) (λm y hI hn=> ?_);show Ok (J9 x (m+1) y.1 y.2) _;rw[J9];refine Ok.cond (λhlt=> ?_) λ_=>k1 _ _;have hlt:=iZ hlt;rw[gZ (dT ⟨hI.1,hI.2,jc _⟩)];have hdl:(x.drop y.1.toNat).length=x.length-y.1.toNat:=aj
 refine Ok.bind (aLu ah) λz hz=>Ok.cond (λ_=> ?_) λh=> ?_
 .unfold RY;exact k1 _ _
 .have hz2:1<=z.2.1/\z.2.1<=((x.drop y.1.toNat).length:Int)/\z.1.length<=(x.drop y.1.toNat).length:=by
   rcases hz with q|q
   .exact(q (aD h)).elim
   .exact q
  refine Ok.bind (aJl ah) λw _=> ?_;unfold RY;refine Ok.cond (λ_=>k1 _ _) λ_=> ?_;rw[bLZ];exact hn (y.1+z.2.1,w.2) ⟨by simp only;omega,by simp only;omega⟩ (by simp only;omega)
theorem aJN{r:bA}(h:oI r.aS.bW b)(hb:b<=800000):Ok (BL r 0) (λr'=>r'.id=r.id/\r'.n=r.n/\r'.fP=1/\r'.fM=0):=by unfold BL;exact Ok.bind (aI5 h hb) λx _=>Ok.some ⟨rfl,rfl,rfl,rfl⟩
end
section
variable {c:aN} {s:aO}
structure SpI(c:aN)(n:Nat)(sp:List iM):Prop where
 len:sp.length<=n
 idx:sp.Pairwise (λa b=>a.gQ<b.gQ)
 rng:∀x∈sp,(0<=x.gQ/\x.gQ<(n:Int))/\(0<=x.aI/\x.aI<(c.aH.length:Int))/\x.dn.From<=x.dn.bV/\0<=x.dn.From/\x.dn.bV<=1073741824
end
section
variable {c:aN}
theorem xP{a lo hi:Int}(h:lo<=a/\a<=hi):mX a lo hi=some true:=by unfold mX;rw[dU h.1,dU h.2];rfl
theorem Pf{a lo hi:Int}(h:lo<=a/\a<=hi):BP a lo hi=some true:=by unfold BP;rw[dU h.1,dU h.2];rfl
theorem aFo(h:VC c):ZF c=some true:=by have a1:mX c.gH 1 4=some true:=xP (by have:=h.reg;omega);have a2:mX (c.iO.length:Int) 1 8=some true:=xP (by have:=h.zl;omega);have a3:mX (c.aJ.length:Int) 1 16=some true:=xP (by have:=h.cl;omega);have a4:mX (c.fD.length:Int) 1 30=some true:=xP (by have:=h.vl;omega);have a5:mX (c.dh.length:Int) 1 5=some true:=xP (by have:=h.rl;omega);have a6:mX (c.jX.length:Int) 1 9=some true:=xP (by have:=h.ol;omega);unfold ZF;simp only[a1,a2,a3,a4,a5,a6,bD,aY,Ba,kN];rw[dU (by have:=h.tl;omega)]
theorem LU{β:Type}{L:Nat->Int->Option β}{r:β}(n:Nat)(hn:n<18446744073709551616)(step:∀(m k:Nat),k<n->L (m+1) (k:Int)=L m ((k:Int)+1))(done:∀m,L (m+1) (n:Int)=some r):L fuel 0=some r:=by
 have key:∀(m k:Nat),k<=n->n-k<m->L m (k:Int)=some r:=by intro m;induction m with
  |zero=>intro k _ h;omega
  |succ m ih=>
   intro k hk hm;by_cases h:k<n
   .rw[step m k h];have:=ih (k+1) ah ah;simpa using this
   .have:k=n:=ah;subst this;exact done m
 exact key fuel 0 (zk _) aB
theorem K8{α:Type} [Inhabited α]{xs:List α}{k:Nat}(h:k<xs.length):xs.getD k aG∈xs:=by rw[fC,jN h];exact yN h
theorem aGe(h:VC c):ZX c=some true:=by
 have hz:=h.zl;have hcl:=h.cl;have hrl:=h.rl;have hol:=h.ol;have nX:=h.reg;unfold ZX;refine LU c.iO.length ah (λm k hk=> ?_) (λm=> ?_)
 .have hx:=h.z _ (K8 hk);rw[TW,eZZ,dVZ,bLZ,bLZ];have e:mX (c.iO.getD (k:Int).toNat aG).Region 0 (c.gH-1)=some true:=xP (by simp only[gW];omega);rw[e];rfl
 .rw[TW,fHZ,bLZ];refine LU c.aJ.length ah (λm k hk=> ?_) (λm=> ?_)
  .have hx:=h.oK _ (K8 hk);rw[TV,eZZ,dVZ,bLZ];have e:mX (c.aJ.getD (k:Int).toNat aG).tN 0 ((c.iO.length:Int)-1)=some true:=xP (by simp only[gW];omega);rw[e];rfl
  .rw[TV,fHZ];refine LU c.dh.length ah (λm k hk=> ?_) (λm=> ?_)
   .have hx:=h.r _ (K8 hk);rw[TU,eZZ,dVZ,bLZ];have e:mX (c.dh.getD (k:Int).toNat aG) 0 ((c.iO.length:Int)-1)=some true:=xP (by simp only[gW];omega);rw[e];rfl
   .rw[TU,fHZ];refine LU c.jX.length ah (λm k hk=> ?_) (λm=> ?_)
    .have hx:=h.o _ (K8 hk);rw[TT,eZZ,dVZ,bLZ];have e:mX (c.jX.getD (k:Int).toNat aG) 0 ((c.iO.length:Int)-1)=some true:=xP (by simp only[gW];omega);rw[e];rfl
    .rw[TT,fHZ]
theorem aGf(h:VC c):ZY c=some true:=by
 have hcl:=h.cl;have hvl:=h.vl;unfold ZY;refine LU c.aJ.length ah (λm k hk=> ?_) (λm=> ?_)
 .have hx:=h.oK _ (K8 hk);rw[T9,eZZ,dVZ,bLZ];have e:mX (c.aJ.getD (k:Int).toNat aG).lT 1 4194304=some true:=xP (by simp only[gW];omega);rw[e];rfl
 .rw[T9,fHZ];refine LU c.fD.length ah (λm k hk=> ?_) (λm=> ?_)
  .have hx:=h.v _ (K8 hk);rw[TY,eZZ,dVZ,bLZ];simp only[gW];rw[fF ah,fF ah,fF ah];have e:((((k:Int)==0)&&((c.fD.getD k aG).gP !=0)))=false:=by
    by_cases hk0:k=0
    .subst hk0;rw[h.v0];rfl
    .have:((k:Int)==0)=false:=ay;rw[this];rfl
   rw[e];rfl
  .rw[TY,fHZ,xP (by have:=h.blast;omega),xP (by have:=h.yg;omega),xP (by have:=h.bake;omega)];rfl
theorem aG2(h:VC c):aal c=some 0:=by
 have e:(Int.tmod (c.dh.length:Int) 2==0)=false:=by
  have h1:=h.ro;have:Int.tmod (c.dh.length:Int) 2=1:=by rw[asV ah];omega
  rw[this];rfl
 unfold aal;rw[aFo h,e];simp only[bD,gN,jG,aZ,aY,aGe h,aGf h,jZ,nU]
theorem aHi{r:Int}(hr:1<=r/\r<=3){x:iq}(h:VT r x):YN x r=some true:=by obtain⟨s1,s2⟩:=arF hr;unfold YN;rw[Pf h.load,Pf h.shadow,Pf h.prio,Pf h.lag,s2,Pf (a:=x.BS) (by have:=h.allowed;omega),Pf h.group];simp only[bD,aY,Ba,aq3 s1]
theorem agv(h:VC c):Us c=some 0:=by
 unfold Us;rw[aG2 h];show Oj c c.aH (c.aH.length:Int) fuel 0=some 0;have ht:=h.tl;refine LU c.aH.length ah (λm k hk=> ?_) (λm=> ?_)
 .rw[Oj,eZZ,dVZ,bLZ,aHi h.reg (h.t _ (by simp only[gW];exact K8 hk))];rfl
 .rw[Oj,fHZ]
end
section
variable {c:aN} {al:Nat->Bool} {p:bO} {l:List aP} {s:aO}
theorem H3.fail{i:Nat}(h:H3 c al p l s)(hi:i<3)(ha:al i=true)(hl:l.length<=390)(hm:∀x a k,OT x a k->(al x&& !(x==i))=true->(al a&& !(a==i))=true\/(al k&& !(k==i))=true)(hx:∃x,x<3/\(al x&& !(x==i))=true):
  Ok (NQ p (i:Int)) (λo=>o.1=0/\H3 c (λx=>al x&& !(x==i)) o.2 l s):=by
 obtain⟨R,L,b,T,rfl,rfl,hQ,hT,hb,hcn,h3,hD⟩:=h.ok;rw[BR]at hl;have hdk:oI (R i).aS.bW b:=by
  rcases hD with hN|⟨j,cm,hD⟩
  .exact(hN i hi ha).dk
  .by_cases q:i=j
   .subst q;exact hD.le.dk
   .exact(hD.fo i hi q ha).1.dk
 unfold NQ;simp only[h3];rw[dF (show¬(i:Int)<0 by omega),dF (show¬((3:Nat):Int)<=(i:Int)by omega)];simp only[pG,aZ];show Ok ((pq (pl c R (fO L) (mk3 al) s) (i:Int)).bind _) _;rw[aiF (ajA al) h3 hi,bG,ha];simp only[gN,aZ];rw[gZ (dT ah)];show Ok ((Am (qf R [] (fO L)) _).bind _) _;refine Ok.bind (do7 (Q:=λr=>r.fP=1/\r.fM=0) hi ((aJN hdk ah).mono λr hr=>⟨hQ.oc.upd (.inl (by rw[hr.2.2.2];omega)) (by rw[hr.2.2.2];omega),hr.2.2.1,hr.2.2.2⟩)) λo ho=> ?_;obtain⟨r,⟨r1,r2⟩,r3,rfl⟩:=ho;refine Ok.some ⟨rfl,⟨upd R i r,L,b,T,?_,rfl,⟨hQ.t0,hQ.tl,hQ.ln,r3,hm,hx,λx hx3 hal=> ?_⟩,hT,hb,hcn,h3,?_⟩⟩
 .show(_:bO)=_;simp only;rw[aKY al hi ha];rfl
 .by_cases q:x=i
  .subst q;rw[nM,r1];omega
  .rw[upd_ne q];refine hQ.dead x hx3 ?_;simpa[q]using hal
 .have hne:∀x,(al x&& !(x==i))=true->x≠i/\al x=true:=λx hal=>by rw[dD]at hal;exact⟨aD hal.2,hal.1⟩
  rcases hD with hN|⟨j,cm,hD⟩
  .exact .inl λx hx3 hal=>by obtain⟨q1,q2⟩:=hne x hal;rw[upd_ne q1];exact hN x hx3 q2
  .by_cases q:i=j
   .subst q;exact .inl λx hx3 hal=>by obtain⟨q1,q2⟩:=hne x hal;rw[upd_ne q1];exact(hD.fo x hx3 q1 q2).1
   .have q':j≠i:=λw=>q w.symm;refine .inr ⟨j,cm,hD.hi,by rw[hD.ui];simpa using q',by rw[upd_ne q'];exact hD.le,hD.c0,hD.qu,hD.t1,λx hx3 hxj hal=> ?_⟩;obtain⟨q1,q2⟩:=hne x hal;rw[upd_ne q1,upd_ne q'];exact hD.fo x hx3 hxj q2
def GV(c:aN)(z:Int):Int:=(c.iO.getD z.toNat aG).Region
def rV(c:aN)(j:Nat):Int:=GV c (c.dh.getD j aG)
theorem ai0(hc:VC c){j:Nat}(hj:j<c.dh.length):0<=c.dh.getD j aG/\c.dh.getD j aG<(c.iO.length:Int):=by refine hc.r _ ?_;rw[fC,jN hj];exact yN _
theorem O7(hc:VC c)(h:H3 c al p l s){r:Int}{f j:Nat}{n:Int}(hj:j<3){Q:Int×bO->Prop}
  (h0:rV c j≠r->Ok (BJ r c.dh (c.dh.length:Int) f n ((j+1:Nat):Int) p) Q)
  (h1:rV c j=r->Ok (NQ p (j:Int)) (λo=>o.1=0/\(∃al',H3 c al' o.2 l s)/\Ok (BJ r c.dh (c.dh.length:Int) f (aQ (n+1)) ((j+1:Nat):Int) o.2) Q)):
  Ok (BJ r c.dh (c.dh.length:Int) (f+1) n (j:Int) p) Q:=by
 obtain⟨R,L,b,T,_,_,_,_,_,_,h3,_⟩:=h.ok;obtain⟨z0,z1⟩:=ai0 hc (show j<c.dh.length by omega);rw[BJ,eZZ,dVZ,h.cfg];simp only[gW];rw[dV z0 z1];unfold Ik NM;rw[bL (x:=(j:Int)+1) ah ah,show((j:Int)+1)=((j+1:Nat):Int)by omega];show Ok (bif rV c j==r then _ else _) _;by_cases q:rV c j=r
 .rw[show(rV c j==r)=true by simpa using q,aY];refine Ok.bind (h1 q) λo ho=> ?_;obtain⟨o1,⟨al',o2⟩,o3⟩:=ho;rw[o1,o2.norm];simp only[Lu,aY];exact o3
 .rw[show(rV c j==r)=false by simpa using q,aZ];simp only[aZ];exact h0 q
theorem H3.lose(hc:VC c)(h:H3 c (λ_=>true) p l s)(hl:l.length<=390){r:Int}(hM:∀i j,i<3->j<3->i≠j->rV c i=r->rV c j≠r):
  Ok (SL p r) (λo=>∃al',H3 c al' o.2 l s):=by
 unfold SL;rw[h.norm,h.cfg];obtain⟨f,hf⟩:∃f,fuel=f+4:=⟨18446744073709551612,by rw[iK]⟩;rw[hf];have h3:c.dh.length=3:=by obtain⟨R,L,b,T,_,_,_,_,_,_,h3,_⟩:=h.ok;exact h3
 have fin:∀(f:Nat) (n:Int) (p':bO) (al':Nat->Bool),H3 c al' p' l s->Ok (BJ r c.dh (c.dh.length:Int) (f+1) n ((3:Nat):Int) p') (λo=>∃al',H3 c al' o.2 l s):=λf n p' al' h'=>by rw[BJ,fHZ];exact Ok.some ⟨al',h'⟩
 have JQ:∀i,i<3→∀x a k,OT x a k->(true&& !(x==i))=true->(true&& !(a==i))=true\/(true&& !(k==i))=true:=λi hi x a k o _=>by
  have:=o.ab;by_cases q:a=i
  .exact .inr ay
  .exact .inl ay
 have mex:∀i,i<3→∃x,x<3/\(true&& !(x==i))=true:=λi hi=>by
  by_cases q:i=0
  .exact⟨1,ah,ay⟩
  .exact⟨0,ah,ay⟩
 have fl:∀i:Nat,i<3->Ok (NQ p (i:Int)) (λo=>o.1=0/\H3 c (λx=>true&& !(x==i)) o.2 l s):=λi hi=>h.fail hi rfl hl (JQ i hi) (mex i hi);show Ok (BJ r c.dh (c.dh.length:Int) (f+3+1) 0 ((0:Nat):Int) p) _;refine O7 hc h ah (λn0=> ?_) λy0=>(fl 0 ah).mono λo ho=>⟨ho.1,⟨_,ho.2⟩,?_⟩
 .refine O7 hc h ah (λn1=> ?_) λy1=>(fl 1 ah).mono λo ho=>⟨ho.1,⟨_,ho.2⟩,?_⟩
  .refine O7 hc h ah (λn2=>fin _ _ _ _ h) λy2=>(fl 2 ah).mono λo ho=>⟨ho.1,⟨_,ho.2⟩,fin _ _ _ _ ho.2⟩
  .exact O7 hc ho.2 ah (λ_=>fin _ _ _ _ ho.2) λy2=>(hM 1 2 ah ah ah y1 y2).elim
 .refine O7 hc ho.2 ah (λ_=> ?_) λy1=>(hM 0 1 ah ah ah y0 y1).elim;exact O7 hc ho.2 ah (λ_=>fin _ _ _ _ ho.2) λy2=>(hM 0 2 ah ah ah y0 y2).elim
theorem aJ3:∀a b:Fin 3,(jd .i64 (iF .i64 (iV .i64 1 (IntKind.u64.wrap (a.1:Int))) (IntKind.u64.wrap (b.1:Int))) 1==1)=decide (b=a):=ak
theorem aKU(hc:VC c){r g:Int}(hr:0<=r/\r<c.gH)(hg:0<=g/\g<c.gH):ZW c (iV .i64 1 (IntKind.u64.wrap r)) g=some (g==r):=by
 have h1:=hc.reg;unfold ZW;rw[xP (by rw[bLZ];omega),bG];simp only[gN,jZ,kN];rw[gZ (dT (xX _).1)];have:=aJ3 ⟨r.toNat,ah⟩ ⟨g.toNat,ah⟩;simp only[show((r.toNat:Nat):Int)=r by omega,show((g.toNat:Nat):Int)=g by omega]at this;rw[this];congr 1;by_cases q:g=r
 .subst q;simp
 .rw[show(g==r)=false by simpa using q];simp only[Fin.mk.injEq,xV];omega
theorem aKi(hc:VC c){z:Int}(hz:0<=z/\z<(c.iO.length:Int)):NY c z=some (GV c z)/\0<=GV c z/\GV c z<c.gH:=by
 have h1:=hc.zl;refine⟨?_,?_⟩
 .unfold NY;rw[xP (by rw[bLZ];omega),bG];simp only[gN,aZ];rw[dV hz.1 hz.2];rfl
 .refine hc.z _ ?_;rw[fC,jN ah];exact yN _
def lM(c:aN)(r:Int)(k:Nat):Nat:=(c.dh.take k).countP λz=>GV c z !=r
theorem ahB{r:Int}{k:Nat}(hk:k<c.dh.length):lM c r (k+1)=lM c r k+if rV c k≠r then 1 else 0:=by unfold lM rV;rw[VE,jN hk,List.countP_append];simp only[Option.toList_some,List.countP_cons,List.countP_nil,nL];rw[show c.dh.getD k aG=c.dh[k]by simp[fC,hk]];by_cases q:GV c c.dh[k]=r<;>simp[q]
theorem aqu(hc:VC c){r:Int}(hr:0<=r/\r<c.gH):Uk c (iV .i64 1 (IntKind.u64.wrap r))=some (decide ((c.dh.length:Int)<2*(lM c r c.dh.length:Nat))):=by
 have hrl:=hc.rl;unfold Uk;refine pJ ?_;refine lJ (L:=λm x k=>KA c (iV .i64 1 (IntKind.u64.wrap r)) c.dh (c.dh.length:Int) m x k) c.dh.length ah (λk x=>x=((lM c r k:Nat):Int)/\lM c r k<=k) ⟨by simp[lM],by simp[lM]⟩ (λm k x hk hI hn=> ?_) (λm x hI=> ?_)
 .obtain⟨rfl,hI2⟩:=hI;obtain⟨z0,z1⟩:=ai0 hc hk;obtain⟨e1,e2⟩:=aKi hc ⟨z0,z1⟩;rw[KA,eZZ,dVZ];simp only[gW];rw[e1,bG,aKU hc hr e2,bG];unfold YP;rw[bL (x:=(k:Int)+1) ah ah,bLZ];have hs:=ahB (r:=r) hk;by_cases q:GV c (c.dh.getD k aG)=r
  .rw[show(GV c (c.dh.getD k aG)==r)=true by simpa using q];simp only[gN,aZ];rw[cZ (by unfold rV;simpa using q)]at hs;exact hn _ ⟨by rw[hs];rfl,ah⟩
  .rw[show(GV c (c.dh.getD k aG)==r)=false by simpa using q];simp only[jG,aY];rw[bU (by unfold rV;simpa using q)]at hs;exact hn _ ⟨by rw[hs];omega,ah⟩
 .obtain⟨rfl,hI2⟩:=hI;rw[KA,fHZ,bLZ];exact Ok.some rfl
theorem aLZ(h3:c.dh.length=3){r:Int}(h:(c.dh.length:Int)<2*(lM c r c.dh.length:Nat)):∀i j,i<3->j<3->i≠j->rV c i=r->rV c j≠r:=by
 have e0:lM c r 0=0:=by simp[lM]
 have b:∀k,k<3->lM c r (k+1)<=lM c r k+1/\(rV c k=r->lM c r (k+1)=lM c r k):=λk hk=>by
  rw[ahB ah];split
  .rename_i q;exact⟨gI _,λw=>(q w).elim⟩
  .exact⟨ah,λ_=>rfl⟩
 have b0:lM c r 1<=lM c r 0+1/\(rV c 0=r->lM c r 1=lM c r 0):=b 0 ah;have b1:lM c r 2<=lM c r 1+1/\(rV c 1=r->lM c r 2=lM c r 1):=b 1 ah;have b2:lM c r 3<=lM c r 2+1/\(rV c 2=r->lM c r 3=lM c r 2):=b 2 ah;rw[h3]at h;intro i j hi hj hij h1 h2;have hi3:i=0\/i=1\/i=2:=ah
 have hj3:j=0\/j=1\/j=2:=ah
 rcases hi3 with rfl|rfl|rfl<;>rcases hj3 with rfl|rfl|rfl<;>omega
def r0(i:Int):bA:={aS:={bW:={data:=[],qR:=0},gM:=0,iW:= -1,bT:=[]},id:=i,n:=3,fP:=1,fM:=0,nG:=0,next:={e0:=0,e1:=0,e2:=0,e3:=0,e4:=0},gL:={e0:=0,e1:=0,e2:=0,e3:=0,e4:=0}}
theorem aLb:agJ ((3:Nat):Int)=some (qf (λi=>r0 (i:Int)) [] [],0):=by rfl
theorem apm(hc:VC c):Um c=some c:=by have h1:=hc.zl;have h2:=hc.cl;have h3:=hc.tl;have h4:=hc.vl;have h5:=hc.rl;have h6:=hc.ol;unfold Um ad6 ad5 adX adU Yt;rw[gZ (dT (rm ay)),bG,gZ (dT (rm ay)),bG,gZ (dT (rm ay)),bG,gZ (dT (rm ay)),bG,gZ (dT (rm ay)),bG,gZ (dT (rm ay)),bG];rfl
theorem H3.new(hc:VC c)(h3:c.dh.length=3):Ok (UF c) (λo=>o.2=0/\H3 c (λ_=>true) o.1 [] (newS c)):=by unfold UF;rw[agv hc,bG];simp only[jY,aZ];rw[h3,aLb,bG];simp only[jY,aZ];rw[apm hc,bG,gZ (dT ah),ahN hc,bG,h3];refine Ok.some ⟨rfl,⟨λi=>r0 (i:Int),[],0,0,?_,rfl,⟨jc _,λx hx=>(by cases hx),aj,λx hx=>⟨.inl (jc _),jc _⟩,λi a k _ _=> .inl rfl,⟨0,ah,rfl⟩,λx _ hal=>(by cases hal)⟩,jc _,aj,rfl,h3,.inl λx hx _=>⟨rfl,rfl,by show(1:Int)≠3;omega,rfl,rfl,⟨jc _,jc _,gI _⟩,jc _,jc _⟩⟩⟩;rfl
end
section
variable {L:LG}{b:Nat}
def q1(r:bA)(n:List bJ)(c:List aP):bP:={aU:=[r],bn:=n,kW:=c}
abbrev uU(c:aN)(r:bA)(k:List aP)(s:aO):bO:={eu:=c,bn:=q1 r [] k,up:=1,state:=s}
theorem aNd{r:bA}{n:List bJ}{c:List aP}{a b:Int}{l:LG}(hl:l.length<=1000000):∀(f i:Nat) (x:List aP),l.length-i<f->x.length<=i->i<=l.length->Nu a b l (l.length:Int) (q1 r n c) f x (i:Int)=Ak a b (q1 r n (x++fO (l.drop i))):=by intro f;induction f with
 |zero=>intro i x h;omega
 |succ f ih=>
  intro i x h hx hi;rw[Nu];by_cases q:i<l.length
  .rw[eZZ,dVZ,gZ (dT (rm (by show(x.length+1)*72<=_;omega))),bLZ,show((i:Int)+1)=((i+1:Nat):Int)by omega,ih (i+1) _ ah ay ah,qU];congr 4;rw[Ec q,show l.getD (i:Int).toNat aG=l[i]by simp[fC,q]];rfl
  .rw[fHZ,PN ah];show Ak a b (q1 r n x)=Ak a b (q1 r n (x++ []));rw[nK]
theorem asw{r:bA}{n:List bJ}{c:List aP}(h:r.fM<=0\/CB r):YC (q1 r n c)=some (q1 r n (rE c r)):=
 acf h (λx=>some (q1 r n x)) (λl=>Nu 1 0 l (l.length:Int) (q1 r n c) fuel (List.replicate (Int.toNat 0) aG) 0) (λl hl=>by
  have:=aNd (r:=r) (n:=n) (c:=c) (a:=1) (b:=0) hl fuel 0 [] aB aj ah
  exact this)
structure Q1(r:bA)(L:LG)(b:Nat)(T:Int):Prop where
 id:r.id=0
 n:r.n=1
 tm:r.aS.gM=T
 lg:r.aS.bT=L
 dk:oI r.aS.bW b
 co:r.fM=(L.length:Int)
 t0:0<=T
 tl:∀x∈L,1<=x.iB/\x.iB<=T
theorem Q1.cb{r:bA}{T:Int}(h:Q1 r L b T)(hl:L.length<=1000):r.fM<=0\/CB r:=
 .inr ⟨by rw[h.co];omega,by rw[h.co,h.lg];exact jc _,by rw[h.lg];omega⟩
theorem aNy{r:bA}(hid:r.id=0)(hn:r.n=1):BF r=some []:=by unfold BF;rw[hn];obtain⟨f,hf⟩:∃f,fuel=f+2:=⟨18446744073709551614,by rw[iK]⟩;rw[hf,Hy,hid];unfold MW;rw[show aQ (0+1)=1 from rfl,Hy];rfl
theorem aM0{r:bA}{T:Int}{e:aP}(h:Q1 r L b T)(hr:r.fP=3)(ht:1<=T/\T<=900000)(hL:L.length<=900)(hb:b<=900000)(hs:sG e=some true):
  Ok (za r e) (λo=>∃r',o=([],0,r')/\Q1 r' (L++ [⟨T,e⟩]) (b+170) T/\r'.fP=3):=by
 have hla:=aaN h.tl h.t0;unfold za jl o9;rw[hr];simp only[show((3:Int) !=3)=false from rfl,aZ,bG];refine Ok.bind (ahp (j:=r.aS) h.dk ah (t:=r.aS.gM) (by rw[h.tm];omega) hs (jc _) (by rw[h.lg,h.tm];exact hla.2) (by rw[h.lg];omega)) λx hx=> ?_;obtain⟨d,rfl,hd⟩:=hx;simp only[jY,aZ];refine Ok.bind (abj (j:={r.aS with bW:=d,bT:=r.aS.bT++ [⟨r.aS.gM,e⟩]}) hd) λx hx=> ?_;obtain⟨d',rfl,hd'⟩:=hx;rw[h.tm,h.lg];show Ok ((zL {r with aS:={bW:=d',gM:=T,iW:=r.aS.iW,bT:=L++ [⟨T,e⟩]},fP:=3}).bind _) _;have g:zL {r with aS:={bW:=d',gM:=T,iW:=r.aS.iW,bT:=L++ [⟨T,e⟩]},fP:=3}=some {r with aS:={bW:=d',gM:=T,iW:=r.aS.iW,bT:=L++ [⟨T,e⟩]},fP:=3,fM:=(((L++ [⟨T,e⟩]:LG).length:Nat):Int)}:=by
  unfold zL nu xI;simp only[bG];obtain⟨f,hf⟩:∃f,fuel=f+2:=⟨18446744073709551614,by rw[iK]⟩;rw[hf,H8];have hc:r.fM<(((L++ [⟨T,e⟩]:LG).length:Nat):Int):=by rw[h.co];simp;omega
  rw[eZ hc,bL ah ay,Er];unfold jl o9;simp only[bG];rw[show nk (L++ [⟨T,e⟩]) ((((L++ [⟨T,e⟩]:LG).length:Nat):Int)-1)=T from apC,jY,aZ,h.n,hf,BG,h.id];unfold H7 RG;rw[show aQ (0+1)=1 from rfl,BG];simp only[show((0:Int) !=0)=false from rfl,nC,aZ];rfl
 rw[g,bG,aNy (r:={r with aS:={bW:=d',gM:=T,iW:=r.aS.iW,bT:=L++ [⟨T,e⟩]},fP:=3,fM:=(((L++ [⟨T,e⟩]:LG).length:Nat):Int)}) h.id h.n,bG];refine Ok.some ⟨_,rfl,⟨h.id,h.n,rfl,rfl,hd',rfl,h.t0,λx hx=> ?_⟩,rfl⟩;rcases qp.1 hx with w|w
 .exact h.tl x w
 .rw[qw.1 w];show 1<=T/\T<=T;omega
theorem aMy{r:bA}{T:Int}(h:Q1 r L b T)(ht:T<=900000)(hb:b<=900000):
  Ok (y9 r) (λo=>∃r',o=([],r')/\Q1 r' L (b+170) (T+1)/\r'.fP=3):=by
 have t0:=h.t0;unfold y9 jl o9;simp only[bG];rw[fH (by rw[h.tm];omega),bL (by rw[h.tm];omega) (by rw[h.tm];omega)];refine Ok.bind (ZU (r:=r) (t:=r.aS.gM+1) (v:=r.id) h.dk ah (by rw[h.tm];omega) (by rw[h.id];omega) (.inl ah)) λx hx=> ?_;obtain⟨d,rfl,hd'⟩:=hx;refine Ok.bq (dT (xX _).1) ?_;simp only[h.n,show((1:Int)==1)=true from rfl,aY];unfold NJ;obtain⟨f,hf⟩:∃f,fuel=f+2:=⟨18446744073709551614,by rw[iK]⟩;simp only[hf,Fp,Ie,nu,xI,bG,eZ (show(0:Int)<1 by omega),show aQ (0+1)=1 from rfl,fH (show¬(1:Int)<1 by omega),show((0:Int)==4)=false from rfl,show((0:Int)==3)=false from rfl,show((0:Int)==2)=false from rfl,show((0:Int)==1)=false from rfl,show((0:Int)==0)=true from rfl,aY,aZ];refine Ok.some ⟨_,rfl,⟨h.id,rfl,by show r.aS.gM+1=_;rw[h.tm],h.lg,hd',h.co,ah,λx hx=> ?_⟩,rfl⟩;have:=h.tl x hx;omega
section
variable {c:aN} {p:bO} {l:List aP} {s s':aO} {e:aP}
structure H1(c:aN)(p:bO)(l:List aP)(s:aO):Prop where
 ok:∃r L b T,p=uU c r (fO L) s/\fO L=l/\Q1 r L b T/\T<=(L.length:Int)/\b<=1100*(L.length+1)/\s.eH=(L.length:Int)/\c.dh.length=1/\(r.fP≠3\/1<=T)
theorem H1.norm(h:H1 c p l s):((iL p):bO)=p:=by obtain⟨R,L,b,T,rfl,_⟩:=h.ok;rfl
theorem H1.cfg(h:H1 c p l s):p.eu=c:=by obtain⟨R,L,b,T,rfl,_⟩:=h.ok;rfl
theorem H1.sta(h:H1 c p l s):p.state=s:=by obtain⟨R,L,b,T,rfl,_⟩:=h.ok;rfl
theorem H1.ent(h:H1 c p l s):p.bn.kW=l:=by obtain⟨R,L,b,T,rfl,h2,_⟩:=h.ok;exact h2
theorem atj{r:bA}{k:List aP}(x:Int)(hk:x=1\/x=2):J8 (q1 r [] k) {aM:=x,nY:=0,N:=0,kP:=e}=some true:=by rcases hk with rfl|rfl<;>rfl
theorem atg{r:bA}{k:List aP}:ND (q1 r [] k)=some ((bif r.fP==3 then 0 else -1),q1 r [] k):=by unfold ND xH;simp only[q1,ai5,bG];cases (r.fP==3)<;>rfl
theorem ar8{r:bA}{k:List aP}{u:Int}:Ku (q1 r [] k) u=some (0,q1 r [] k):=by unfold Ku;obtain⟨f,hf⟩:∃f,fuel=f+1:=⟨18446744073709551615,by rw[iK]⟩;rw[hf,Sj];rfl
theorem atm{r:bA}{k:List aP}:BN (q1 r [] k) []=some (q1 r [] k):=by unfold BN;obtain⟨f,hf⟩:∃f,fuel=f+1:=⟨18446744073709551615,by rw[iK]⟩;rw[hf,Sq];rfl
theorem aj5(h:c.dh.length=1){q:bP}:pq {eu:=c,bn:=q,up:=1,state:=s} 0=some true/\pq {eu:=c,bn:=q,up:=1,state:=s} (-1)=some false:=by unfold pq;simp only[h];exact⟨rfl,rfl⟩
theorem aMw(h:c.dh.length=1){r:bA}{k:List aP}{T:Int}(hq:Q1 r L b T)(hl:L.length<=900):NR (uU c r k s)=some 0:=by
 have hla:=aaN hq.tl hq.t0;unfold NR;obtain⟨f,hf⟩:∃f,fuel=f+2:=⟨18446744073709551614,by rw[iK]⟩;show BK (c.dh.length:Int) (uU c r k s) fuel (-1) (-1) (-1) 0=some 0;rw[h,hf,BK,eZZ,(aj5 h).1,bG];simp only[gN,aZ];have e1:Kv (q1 r [] k) 0=some L:=by unfold Kv;show(rG r).bind _=_;rw[Vw r (by rw[hq.lg];omega),hq.lg];rfl
 rw[e1,bG];have fin:∀(x y:Int),BK ((1:Nat):Int) (uU c r k s) (f+1) 0 x y 1=some 0:=λx y=>by rw[BK,fHZ]
 have k2:∀t:Int,0<=t->DC (BK ((1:Nat):Int) (uU c r k s) (f+1)) (-1) (-1) (-1) 0 L t 0=some 0:=λt ht=>by unfold DC Fx;rw[dT (show(-1:Int)<t by omega),Ep,aY];exact fin _ _
 by_cases q:0<(L.length:Int)
 .rw[eZ q,bLZ,dVZ];refine k2 _ ?_;have:L.getD ((L.length:Int)-1).toNat aG∈L:=by rw[fC,jN ah];exact yN _
  have:=(hq.tl _ this).1;omega
 .rw[fH q];exact k2 0 (jc _)
theorem H1.propose(h:H1 c p l s)(hA:BQ c s e=some (s',0))(hs:sG e=some true)(hc:s'.eH=s.eH+1)(hl:l.length<=390):
  Ok (Il p e) (λo=>o.2.1=0/\H1 c o.2.2 (l++ [e]) s'):=by
 obtain⟨r,L,b,T,rfl,rfl,hQ,hT,hb,hcn,h3,hD⟩:=h.ok;rw[BR]at hl;unfold Il;have hr:ze (uU c r (fO L) s)=some true:=by unfold ze;simp only[h3];rfl
 show Ok ((ze (uU c r (fO L) s)).bind _) _;rw[hr,bG];simp only[gN,aZ];rw[hA,bG];simp only[jY,aZ];show Ok ((SN (uU c r (fO L) s) e).bind _) _
 -- a leader commits
 have main:∀(r:bA) (b:Nat) (T:Int) (f x:Nat),Q1 r L b T->r.fP=3->1<=T->T<=(L.length:Int)+1->b<=1100*(L.length+1)+170->x<4->Ok (Fy e (f+1) (x:Int) (uU c r (fO L) s)) (λo=>∃r',o=(true,uU c r' (fO (L++ [⟨T,e⟩])) s)/\Q1 r' (L++ [⟨T,e⟩]) (b+170) T):=by
  intro r b T f x hQ hro h1 hT hb hx;rw[Fy,eZZ];show Ok ((ND (q1 r [] (fO L))).bind _) _;rw[atg,hro,bG];show Ok ((pq (uU c r (fO L) s) 0).bind _) _;rw[(aj5 h3).1,bG,aY];have hdo:Ok (Iy (q1 r [] (fO L)) {aM:=2,nY:=0,N:=0,kP:=e}) (λo=>∃r',o=(0,q1 r' [] (fO (L++ [⟨T,e⟩])))/\Q1 r' (L++ [⟨T,e⟩]) (b+170) T):=by unfold Iy;show Ok ((J8 (q1 r [] (fO L)) _).bind _) _;rw[atj 2 (.inr rfl),bG];show Ok ((za r e).bind _) _;refine Ok.bind (aM0 hQ hro ⟨h1,ah⟩ ah ah hs) λo ho=> ?_;obtain⟨r',rfl,g1,g2⟩:=ho;simp only[jY,aZ];show Ok ((BN (q1 r' [] (fO L)) []).bind _) _;rw[atm,bG];show Ok (zN (q1 r' [] (fO L))) _;unfold zN;rw[asw (g1.cb ay),bG];have:rE (fO L) r'=fO (L++ [⟨T,e⟩]):=(by unfold rE;rw[cZ (by rw[g1.co,BR];simp;omega),g1.co,g1.lg,gW,tF]);rw[this];exact Ok.some ⟨r',rfl,g1⟩
  refine Ok.bind hdo λo ho=> ?_;obtain⟨r',rfl,g1⟩:=ho;show Ok (Ko _ _ 0 true (uU c r' (fO (L++ [⟨T,e⟩])) s)) _;unfold Ko;rw[aY];show Ok ((Ku (q1 r' [] (fO (L++ [⟨T,e⟩]))) 1).bind _) _;rw[ar8,bG];show Ok ((some r'.fM).bind _) _;rw[bG];show Ok (some (decide (s.eH<r'.fM),uU c r' (fO (L++ [⟨T,e⟩])) s)) _;rw[dT (by rw[hcn,g1.co];simp;omega)];exact Ok.some ⟨r',rfl,g1⟩
 have key:Ok (SN (uU c r (fO L) s) e) (λo=>∃r' b' T',o=(true,uU c r' (fO (L++ [⟨T',e⟩])) s)/\Q1 r' (L++ [⟨T',e⟩]) b' T'/\1<=T'/\T'<=(L.length:Int)+1/\b'<=1100*(L.length+2)):=by
  have t0:=hQ.t0;unfold SN;show Ok (Fy e fuel 0 (uU c r (fO L) s)) _;obtain⟨f,hf⟩:∃f,fuel=f+2:=⟨18446744073709551614,by rw[iK]⟩;rw[hf];by_cases q:r.fP=3
  .have h1:1<=T:=by
    rcases hD with w|w
    .exact(w q).elim
    .exact w
   refine(main r b T (f+1) 0 hQ q h1 ah ah ah).mono λo ho=> ?_;obtain⟨r',rfl,g⟩:=ho;exact⟨r',_,T,rfl,g,h1,ah,ah⟩
  .rw[Fy,eZZ];show Ok ((ND (q1 r [] (fO L))).bind _) _;rw[atg,show(r.fP==3)=false by simpa using q,bG];show Ok ((pq (uU c r (fO L) s) (-1)).bind _) _;rw[(aj5 h3).2,bG,aZ];show Ok (Ko _ 0 (-1) false (uU c r (fO L) s)) _;unfold Ko;rw[aZ,aMw h3 hQ ah,bG];have hdo:Ok (Iy (q1 r [] (fO L)) {aM:=1,nY:=0,N:=0,kP:={aM:=0,bf:=0,aI:=0,aK:=0,dx:=0,bN:=0,From:=0,bV:=0,N:=0}}) (λo=>∃r',o=(0,q1 r' [] (fO L))/\Q1 r' L (b+170) (T+1)/\r'.fP=3):=(by unfold Iy;show Ok ((J8 (q1 r [] (fO L)) _).bind _) _;rw[atj 1 (.inl rfl),bG];show Ok ((y9 r).bind _) _;refine Ok.bind (aMy hQ ah ah) λo ho=> ?_;obtain⟨r',rfl,g1,g2⟩:=ho;show Ok ((BN (q1 r' [] (fO L)) []).bind _) _;rw[atm,bG];show Ok (zN (q1 r' [] (fO L))) _;unfold zN;rw[asw (g1.cb ah),bG];have:rE (fO L) r'=fO L:=(by unfold rE;rw[bU (by rw[g1.co,BR];exact jc _)]);rw[this];exact Ok.some ⟨r',rfl,g1,g2⟩);refine Ok.bind hdo λo ho=> ?_;obtain⟨r',rfl,g1,g2⟩:=ho;show Ok ((Ku (q1 r' [] (fO L)) 1).bind _) _;rw[ar8,bG];show Ok (Fy e (f+1) ((1:Nat):Int) (uU c r' (fO L) s)) _;refine(main r' _ _ f 1 g1 g2 ah ah ah ah).mono λo ho=> ?_;obtain⟨r2,rfl,g⟩:=ho;exact⟨r2,_,T+1,rfl,g,ah,ah,ah⟩
 refine Ok.bind key λo ho=> ?_;obtain⟨r',b',T',rfl,g,g1,g2,g3⟩:=ho;simp only[gN,aZ];exact Ok.some ⟨rfl,⟨r',L++ [⟨T',e⟩],b',T',rfl,by simp[fO],g,ay,ay,by rw[hc,hcn];simp,h3,.inr g1⟩⟩
theorem aLa:ahg ((1:Nat):Int)=some (q1 {r0 0 with n:=1} [] [],0):=by rfl
theorem H1.new(hc:VC c)(h3:c.dh.length=1):Ok (K9 c) (λo=>o.2=0/\H1 c o.1 [] (newS c)):=by unfold K9;rw[agv hc,bG];simp only[jY,aZ];rw[h3,aLa,bG];simp only[jY,aZ];rw[apm hc,bG,gZ (dT ah),ahN hc,bG,h3];refine Ok.some ⟨rfl,⟨{r0 0 with n:=1},[],0,0,?_,rfl,⟨rfl,rfl,rfl,rfl,⟨jc _,jc _,gI _⟩,rfl,jc _,λx hx=>(by cases hx)⟩,jc _,aj,rfl,h3,.inl (by show(1:Int)≠3;omega)⟩⟩;rfl
theorem H1.lose(hc:VC c)(h:H1 c p l s){r:Int}(hM:rV c 0≠r):Tf p r=some (0,p):=by obtain⟨R,L,b,T,_,_,_,_,_,_,h3,_⟩:=h.ok;obtain⟨z0,z1⟩:=ai0 hc (show 0<c.dh.length by omega);unfold Tf;rw[h.norm,h.cfg,h3];obtain⟨f,hf⟩:∃f,fuel=f+2:=⟨18446744073709551614,by rw[iK]⟩;rw[hf,NN,eZZ,dVZ,h.cfg,show(0:Int).toNat=0 from rfl,dV z0 z1];unfold Ik NM;show(bif rV c 0==r then _ else _)=_;rw[show(rV c 0==r)=false by simpa using hM,aZ,aZ,show aQ (0+1)=1 from rfl,NN];rfl
theorem aLY(h3:c.dh.length=1){r:Int}(h:(c.dh.length:Int)<2*(lM c r c.dh.length:Nat)):rV c 0≠r:=by
 have e0:lM c r 0=0:=by simp[lM]
 have e1:=ahB (c:=c) (r:=r) (k:=0) ah;rw[h3]at h;intro q;rw[cZ (aD q)]at e1;have e1:lM c r 1=lM c r 0+0:=e1;omega
end
end
theorem ag6{l:List Int}(hl:l.length<=1000000)(k:Int):Nl l k=some (decide (k∈l)):=by
 have key:Ok (Yv l k) (λi=>decide (0<=i)=decide (k∈l)):=by
  unfold Yv;refine lJ (L:=λm (_:Unit) i=>Ih l k (l.length:Int) m i) (x:=()) l.length ah (λn _=>∀j,j<n->l.getD j aG≠k) (λj hj=>absurd hj (kF _)) ?_ ?_
  .rintro m n _ hn hJ ih;show Ok (Ih l k _ (m+1) n) _;rw[Ih,eZZ,dVZ,gW,bLZ];by_cases q:k=l.getD n aG
   .have e:(k==l.getD n aG)=true:=(by rw[uE];exact q);rw[e,aY];refine Ok.some ?_;rw[dU (show(0:Int)<=(n:Int)by omega),dU (by rw[q];exact jk hn)]
   .have e:(k==l.getD n aG)=false:=(by rw[rQ];exact q);rw[e,aZ]
    exact ih () (λj hj=>by
     by_cases e:j=n
     .subst e;exact λh=>q h.symm
     .exact hJ j ah)
  .rintro m _ hJ;show Ok (Ih l k _ (m+1) _) _;rw[Ih,fHZ];refine Ok.some ?_;rw[fF ah,fF];intro hk;obtain⟨j,hj,e⟩:=zh hk;exact hJ j hj (by rw[fC,jN hj];exact e)
 unfold Nl;obtain⟨i,h1,h2⟩:=key;rw[h1,bD,h2]
def nin(mv:List Int)(x:Int):Bool:= !decide (x∈mv)
theorem aMG{sp mv:List Int}(hl:sp.length<=1000)(hmv:mv.length<=1000000):X6 sp mv=some (sp.filter (nin mv),mv):=by
 unfold X6
 -- the first that goes
 have hix:Ok (Nb sp mv) (λi=>(i= -1∧∀j,j<sp.length->(nin mv) (sp.getD j aG)=true)∨∃k:Nat,i=(k:Int)/\k<sp.length/\(nin mv) (sp.getD k aG)=false∧∀j,j<k->(nin mv) (sp.getD j aG)=true):=by
  unfold Nb;refine lJ (L:=λm (_:Unit) i=>Fb sp mv (sp.length:Int) m i) (x:=()) sp.length ah (λk _=>∀j,j<k->(nin mv) (sp.getD j aG)=true) (λj hj=>absurd hj (kF _)) ?_ ?_
  .rintro m k _ hk hI ih;show Ok (Fb sp mv _ (m+1) k) _;rw[Fb,eZZ,dVZ,gW];unfold Ij;rw[ag6 hmv,bD,bD,bLZ];cases hq:decide (sp.getD k aG∈mv)with
   |true=>exact Ok.some (.inr ⟨k,rfl,hk,by unfold nin;rw[hq];rfl,hI⟩)
   |false=>
    refine ih () (λj hj=> ?_);by_cases e:j=k
    .subst e;unfold nin;rw[hq];rfl
    .exact hI j ah
  .rintro m _ hI;show Ok (Fb sp mv _ (m+1) _) _;rw[Fb,fHZ];exact Ok.some (.inl ⟨rfl,hI⟩)
 have hall:∀k,k<=sp.length->(∀j,j<k->(nin mv) (sp.getD j aG)=true)->(sp.take k).filter (nin mv)=sp.take k:=by intro k hk h;rw[ai3];intro x hx;obtain⟨j,hj,rfl⟩:=zh hx;rw[rM]at hj;have:=h j ah;rw[fC,jN ah]at this;rw[ai8];exact this
 apply pJ;refine Ok.bind hix (λi hi=> ?_);rcases hi with⟨rfl,h⟩|⟨k,rfl,hk,hk0,h⟩
 .refine Ok.some ?_;have:=hall sp.length (gI _) h;rw[tF]at this;rw[this]
 .have e:((k:Int)== -1)=false:=by rw[rQ];omega
  rw[e,aZ,bLZ]
  -- the loop
  have key:∀(m j:Nat) (x:List Int) (i:Nat),i<=j->j<=sp.length->sp.length - j<m->x.length=sp.length->x.take i=(sp.take j).filter (nin mv)->x.drop j=sp.drop j->i=((sp.take j).filter (nin mv)).length→
    Ok (M8 mv m x (i:Int) (j:Int)) (λr=>r=(sp.filter (nin mv),mv)):=by
   intro m;induction m with
   |zero=>intro j x i _ _ h;exact absurd h (kF _)
   | succ m ih=>
    intro j x i h1 h2 h3 h4 h5 h6 h7;rw[M8];by_cases hj:j<sp.length
    .have hxj:x.getD j aG=sp.getD j aG:=(by have:(x.drop j)[0]? =(sp.drop j)[0]? :=(by rw[h6]);rw[yL,yL,wN]at this;rw[fC,fC,this]);have hts:(sp.take (j+1)).filter (nin mv)=(sp.take j).filter (nin mv)++(if(nin mv) (sp.getD j aG)then [sp.getD j aG]else []):=(by rw[VE,AO];congr 1;rw[jN hj,fC,jN hj];simp[PS]);rw[eZZ,dVZ,gW,hxj];unfold Ij XV;rw[ag6 hmv,bD,bD,bL (x:=(j:Int)+1) ah ah];have hdr:x.drop (j+1)=sp.drop (j+1):=(by have:=congrArg (List.drop 1) h6;rw[List.drop_drop,List.drop_drop]at this;exact this);cases hq:decide (sp.getD j aG∈mv)with
     |false=>
      have hf:(nin mv) (sp.getD j aG)=true:=(by unfold nin;rw[hq];rfl);rw[hf,bU rfl]at hts;rw[jG,aY,dVZ,gW,bL (x:=(i:Int)+1) ah ah];unfold bF
      have:=ih (j+1) (x.set i (sp.getD j aG)) (i+1) ah ah ah (by rw[oQ];exact h4) (by
       rw[hts,<-h5];have hi:i<x.length:=ah
       rw[VE,List.take_set_of_le (gI _),uz hi];rfl) (by
       rw[List.drop_set_of_lt ah];exact hdr) (by rw[hts,pY,<-h7];rfl)
      simpa using this
     |true=>have hf:(nin mv) (sp.getD j aG)=false:=(by unfold nin;rw[hq];rfl);rw[hf]at hts;simp only[nD,mJ,nK]at hts;rw[gN,aZ];have:=ih (j+1) x i ah ah ah h4 (by rw[hts];exact h5) hdr (by rw[hts];exact h7);simpa using this
    .have:j=sp.length:=ah;subst this;rw[tF]at h5;have hi:i<=x.length:=ah;have e1:((x.length:Int)).toNat=x.length:=ah;have hcl:(jQ (0+i) (x.length-i) x (List.replicate (x.length-i) (aG:Int))).length=x.length:=(by unfold jQ;simp;omega);rw[fHZ];simp only[gW,e1];rw[mR,mR,hcl,mR,mR];refine Ok.some ?_;rw[<-h5];unfold jQ;rw[nL,VF ay,List.take_take,Lr]
  have auB:(sp.take (k+1)).filter (nin mv)=sp.take k:=by rw[VE,AO,hall k ah h,jN hk];rw[fC,jN hk]at hk0;have hk0':(nin mv) sp[k]=false:=hk0;simp[PS,hk0']
  have:=key fuel (k+1) sp k ah ah aB rfl (by rw[auB]) rfl (by rw[auB,rM];omega);simpa using this
theorem Qf{p:jm}{b i n:Int}(h:Xf p.dM b)(hb:b<=1000000000)(hn: -65536<=n/\n<=65536:=by omega):FC p i n=some {p with dM:=pI p.dM i n}:=by
 unfold FC pI;by_cases hi:0<=i/\i<(p.dM.length:Int)
 .rw[dU hi.1,dU hi.2,bU hi];have:=h _ (jk (xs:=p.dM) (i:=i.toNat) ah);simp only[Ba,aY,dV hi.1 hi.2,bF];rw[bLZ];rfl
 .rw[cZ hi];have:(decide (0<=i)&&decide (i<(p.dM.length:Int)))=false:=by
   by_cases h1:0<=i
   .rw[fF (show¬i<(p.dM.length:Int)by omega)];simp
   .rw[fF h1];rfl
  rw[this];rfl
def yS(t:bI):mE:={nT:=t.dN&& !t.eX,lW:=t.bC,jF:=t.aT,next:=t.Next,xW:=t.dK}
def oZ(c:aN)(s:aO)(ts:List bI):jm:={eu:=c,state:=s,dQ:=ts.map yS,dM:=jv c s ts}
section
variable {c:aN} {s:aO} {ts:List bI}
theorem aLr(hc:VC c)(hv:VS c s):Oc c s=some (oZ c s s.aH):=by
 have hct:=hc.tl;have hcl:=hc.cl;have htl:=hv.tl;unfold Oc;have hm:(je (c.aH.length:Int) (s.aH.length:Int))=(s.aH.length:Int):=by unfold je;rw[htl];simp
 apply pJ;refine lJ (L:=λm x i=>Iu c s m x i) s.aH.length ah (λk x=>x={eu:=c,state:=s,dQ:=(s.aH.take k).map yS,dM:=[]}) aj ?_ ?_
 .rintro m k x hk rfl ih;show Ok (Iu c s (m+1) _ k) _;rw[Iu,hm,eZZ,dVZ,gW,mR (by simp only[qo,nQ,rM];unfold room;omega),bLZ];refine ih _ ?_;simp only[yH hk,Lp,mH,yO];rfl
 .rintro m x rfl;show Ok (Iu c s (m+1) _ _) _;rw[Iu,hm,fHZ,mR,Uz hc hv.tl,bD,mR];refine Ok.some ?_;have hb:=KU c s;have e:jQ 0 ((List.replicate (Int.toNat (c.aJ.length:Int)) (aG:Int)).length) (List.replicate (Int.toNat (c.aJ.length:Int)) (aG:Int)) (nA c s)=nA c s:=by unfold jQ;simp[hb];rw[VG ah]
  rw[e,tF];rfl
theorem aKB(hc:VC c)(hv:VS c s)(r:Int):Ym c s r=some (oV c s r):=by
 obtain⟨e1,ho⟩:=V6 hc;have hct:=hc.tl;have hol:=ho.len;have htl:=hv.tl;unfold Ym;rw[e1,bD];apply pJ;refine lJ (L:=λm x i=>Du c s r (mK c) (((mK c).length:Nat):Int) m x i) (mK c).length ah (λk x=>x=((mK c).take k).filter (j3 c s r)) rfl ?_ ?_
 .rintro m k x hk rfl ih;show Ok (Du c s r _ _ (m+1) _ k) _;have hy:=(ho.mem _).1 (jk hk);rw[Du,eZZ,dVZ,gW];rw[fF ah,fF (show¬(s.aH.length:Int)<=(mK c).getD k aG by omega),pG,aZ,dV hy.1 ah];unfold R3;have hfl:=PW (j3 c s r) ((mK c).take k);rw[rM]at hfl;have nx:=ih (((mK c).take (k+1)).filter (j3 c s r)) rfl;rw[yH hk,AO,PS,ai4]at nx;have eq:j3 c s r ((mK c).getD k aG)=(((s.aH.getD ((mK c).getD k aG).toNat aG).dN&& !(s.aH.getD ((mK c).getD k aG).toNat aG).eX)&&(eF c (s.aH.getD ((mK c).getD k aG).toNat aG).bC==r)):=rfl;rw[eq]at nx;cases hq:((s.aH.getD ((mK c).getD k aG).toNat aG).dN&& !(s.aH.getD ((mK c).getD k aG).toNat aG).eX)with|false=>rw[hq]at nx;simp only[nC,nD,mJ,nK]at nx;simp only[aZ,bD,nC];rw[bLZ];exact nx|true=>rw[hq]at nx;simp only[aY,Ay hc,bD,kN]at nx⊢;rw[bLZ];cases hq2:(eF c (s.aH.getD ((mK c).getD k aG).toNat aG).bC==r)with|true=>rw[hq2]at nx;rw[aY,mR (by simp only[qo];unfold room;omega)];exact nx|false=>rw[hq2]at nx;simp only[nD,mJ,nK]at nx;exact nx
 .rintro m x rfl;show Ok (Du c s r _ _ (m+1) _ _) _;rw[Du,fHZ,tF];exact Ok.some rfl
theorem aMn(hc:VC c)(hv:VS c s)(hg:GS c ts){x:eU}(hp:nE c s ts x=true)(hu:x.aM=2->kX (aL s x.aI)=true/\(aL s x.aI).aT=x.aK):Sl (oZ c s ts) x=some (true,oZ c s (mV ts x)):=by
 have hgl:=hg.len;obtain⟨h1,h2,ha,hk⟩:=F8 hp;have hi:x.aI.toNat<ts.length:=ah
 have hd:=AB hc (k:=x.aI.toNat) ah;have hsl:(oZ c s ts).dQ.length=ts.length:=by simp[oZ]
 have hbl:(oZ c s ts).dM.length=c.aJ.length:=wQ _ _ _;have zw:(oZ c s ts).dQ.getD x.aI.toNat aG=yS (ts.getD x.aI.toNat aG):=by show(ts.map yS).getD _ _=_;rw[fC,mG,jN hi,fC,jN hi];rfl
 have b0:=atw (s:=s) hc hg;have b1:=Pt (i:=(ts.getD x.aI.toNat aG).bC) (n:=0-(c.aH.getD x.aI.toNat aG).dZ) b0 ah ah;have b2:=Pt (i:=(ts.getD x.aI.toNat aG).dK) (n:=0-(c.aH.getD x.aI.toNat aG).dZ) b1 ah ah;have b3:=Pt (i:=(ts.getD x.aI.toNat aG).Next) (n:=0-(c.aH.getD x.aI.toNat aG).jA) b2 ah ah;have ha':(yS (ts.getD x.aI.toNat aG)).nT=true:=ha;have hho:(yS (ts.getD x.aI.toNat aG)).lW=(ts.getD x.aI.toNat aG).bC:=rfl;have hst:(yS (ts.getD x.aI.toNat aG)).jF=(ts.getD x.aI.toNat aG).aT:=rfl;have htg:(yS (ts.getD x.aI.toNat aG)).xW=(ts.getD x.aI.toNat aG).dK:=rfl;have hnx:(yS (ts.getD x.aI.toNat aG)).next=(ts.getD x.aI.toNat aG).Next:=rfl
 unfold Sl;rw[hsl,hbl];rw[fF (show¬x.aI<0 by omega),fF (show¬(ts.length:Int)<=x.aI by omega),fF (show¬x.aK<0 by omega),fF (show¬(c.aJ.length:Int)<=x.aK by omega)];simp only[nU,aZ];rw[dV h1.1 (by show x.aI<(c.aH.length:Int);omega),dV h1.1 (by rw[hsl];exact h1.2),zw];show(bif x.aM==1 then _ else _)=_;simp only[show(oZ c s ts).eu=c from rfl,show(oZ c s ts).state=s from rfl];rw[ace ⟨hd.1,hd.2.1⟩,ace ⟨hd.2.2.1,hd.2.2.2⟩];simp only[ha',hho,hst,htg,hnx,gN,jZ];have es:∀(q:jm) (y:mE),q.dQ=ts.map yS->(q.dQ.set x.aI.toNat y).getD x.aI.toNat aG=y:=λq y hq=>pV (by rw[hq,nQ];exact hi);rcases hk with⟨k1,hh⟩|⟨k2,hh,Xt⟩
 .rw[show(x.aM==1)=true by simpa using k1,aY,show((ts.getD x.aI.toNat aG).bC !=x.aK)=false by rw[hh];simp,aZ];rw[Qf (p:=oZ c s ts) (b:=8388608) b0 ah ah,bD,Qf (b:=8388608+65536) b1 ah ah,bD];simp only;rw[dV h1.1 (by rw[hsl];exact h1.2),zw];simp only[bF];rw[dV h1.1 (by rw[oQ,hsl];exact h1.2),es (oZ c s ts) _ rfl,tC];unfold RQ;congr 2;unfold oZ mV yE;rw[show(x.aM==1)=true by simpa using k1,aY,abr];have hs2:yS {ts.getD x.aI.toNat aG with eX:=true,dK:= -1}={yS (ts.getD x.aI.toNat aG)with nT:=false,xW:= -1}:=by unfold yS;simp
  rw[hs2];have:=aq2 (s:=s) hg hi ha;rw[<-this]
 .obtain⟨hu1,hu2⟩:=hu k2;have hsv:=hv.tl;have QD:Od c s x.aI=some true:=by rw[aMr hc hv,dU h1.1,dU (show x.aI<(s.aH.length:Int)by omega),hu1,hu2,Xt];rfl
  rw[show(x.aM==1)=false by rw[k2];rfl,aZ,show(x.aM==2)=true by simpa using k2,aY,show((ts.getD x.aI.toNat aG).aT !=x.aK)=false by rw[hh];simp];simp only[jG,aY,QD,bD,gN,jZ,aZ];rw[Qf (p:=oZ c s ts) (b:=8388608) b0 ah ah,bD,Qf (b:=8388608+65536) b1 ah ah,bD,Qf (b:=8388608+65536+65536) b2 ah ah,bD,bLZ,Qf (b:=8388608+65536+65536+65536) b3 ah ah,bD];simp only;rw[dV h1.1 (by rw[hsl];exact h1.2)];unfold bF RQ;congr 2;have hbm:=aq1 (s:=s) hg hi ha;unfold oZ mV yE;rw[show(x.aM==1)=false by rw[k2];rfl,aZ,abr];have he:({ts.getD x.aI.toNat aG with bC:=(ts.getD x.aI.toNat aG).aT,aT:= -1,Next:= -1,dK:= -1}:bI)={ts.getD x.aI.toNat aG with bC:=x.aK,aT:= -1,Next:= -1,dK:= -1}:=by rw[hh]
  rw[he,hh]at hbm;have ajw:yS {ts.getD x.aI.toNat aG with bC:=x.aK,aT:= -1,Next:= -1,dK:= -1}={nT:=true,lW:=x.aK,jF:= -1,next:= -1,xW:= -1:mE}:=by unfold yS;unfold kX at ha;simp only[ha]
  rw[ajw,<-hbm]
theorem aL6(hc:VC c)(hg:GS c ts)(hcap:Qh c s ts):Nh (oZ c s ts)=some false:=by
 have hbl:(oZ c s ts).dM.length=c.aJ.length:=wQ _ _ _;have hcl:=hc.cl;unfold Nh;rw[hbl];apply pJ;refine lJ (L:=λm (_:Unit) i=>Fh (oZ c s ts) (c.aJ.length:Int) m i) (x:=()) c.aJ.length ah (λ_ _=>True) trivial ?_ ?_
 .rintro m k _ hk _ ih;show Ok (Fh (oZ c s ts) _ (m+1) k) _;rw[Fh,eZZ,dV ah (by rw[hbl];omega),gW,bLZ];show Ok (bE c.aJ (k:Int) _) _;rw[dVZ,gW];have:=hcap k hk;rw[fH (by show¬(c.aJ.getD k aG).lT<(jv c s ts).getD k aG;have e:(jv c s ts).getD k aG=(jv c s ts).getD k 0:=rfl;rw[e];omega)];exact ih () trivial
 .rintro m _ _;show Ok (Fh (oZ c s ts) _ (m+1) _) _;rw[Fh,fHZ];exact Ok.some rfl
end
section
variable {c:aN} {s:aO} {ts:List bI}
structure RJ(c:aN)(s:aO)(r:Int)(q:yZ)(todo:List Int)(mv:List Int):Prop where
 run:Run c s s.aH q.2.1 mv q.1
 nd:(mv++(q.2.2++todo)).Nodup
 mem:∀y∈mv++(q.2.2++todo),(0<=y/\y<(c.aH.length:Int))/\j3 c s r y=true
theorem aH1(l:List Int)(hl:l.length<=1000000):Yu l l=some true:=by
 apply pJ;unfold Yu;have e:((l.length:Int) !=(l.length:Int))=false:=aj
 rw[e,aZ];refine lJ (L:=λm (_:Unit) i=>Ig l l (l.length:Int) m i) (x:=()) l.length ah (λ_ _=>True) trivial ?_ ?_
 .intro m k _ hk _ ih;show Ok (Ig l l _ (m+1) k) _;rw[Ig];simp (disch:=omega) only[eZ,dV,bL];simp only[jY,aZ];exact ih () trivial
 .intro m _ _;show Ok (Ig l l _ (m+1) _) _;rw[Ig];simp (disch:=omega) only[fH];exact Ok.some rfl
end
section
variable {st:List eU}{k:Nat}{e:gD}
section
variable {c:aN} {s:aO}
theorem aiQ:∀(l:List eU) {ts:List bI} (j:Nat),j<ts.length->(((iR c s ts l).getD j aG).aT= -1\/((iR c s ts l).getD j aG).aT=(ts.getD j aG).aT)/\(kX ((iR c s ts l).getD j aG)=true->kX (ts.getD j aG)=true)
 | [],ts,j,hj=>⟨.inr rfl,λh=>h⟩
 |x ::r,ts,j,hj=>by
  rw[iR];rcases hp:nE c s ts x with _|_;exact aiQ r j hj;simp only[aY];obtain⟨h1,h2⟩:=aiQ r (ts:=mV ts x) j (by rw[V5];exact hj);by_cases q:x.aI.toNat=j
  .have hx:=(F8 hp).2.2.1;subst q;rw[ap2 hj]at h1 h2;refine⟨?_,λ_=>hx⟩;have e:(yE (ts.getD x.aI.toNat aG) x).aT= -1\/(yE (ts.getD x.aI.toNat aG) x).aT=(ts.getD x.aI.toNat aG).aT:=by
    unfold yE;cases (x.aM==1)
    .exact .inl rfl
    .exact .inr rfl
   rcases h1 with h1|h1
   .exact .inl h1
   .rw[h1];exact e
  .rw[Va q]at h1 h2;exact⟨h1,h2⟩
structure ajn(c:aN)(s:aO)(e:gD):Prop where
 MR:xC c s s.aH e.bY
 cap:∀n,n<=e.bY.length->Qh c s (iR c s s.aH (e.bY.take n))
 mem:∀x∈e.bY,x.aM=2->x.aI∈oV c s e.Region
 nd:∀k:Nat,k<e.bY.length->(e.bY.getD k aG).aM=1->afX c s e (k:Int)=some true
 ln:e.bY.length<=40000
theorem aMp(h:xC c s s.aH st)(hk:k<st.length):nE c s (iR c s s.aH (st.take k)) (st.getD k aG)=true/\iR c s s.aH (st.take (k+1))=mV (iR c s s.aH (st.take k)) (st.getD k aG):=by
 have h1:xC c s s.aH (st.take k++ [st.getD k aG]):=by rw[<-yH hk];exact aKo h _
 have h2:=((Lj _ _ _).1 h1).2.1;refine⟨h2,?_⟩;rw[yH hk,LB,Jg h2];rfl
theorem aJd{x:eU}(hv:VS c s)(hp:nE c s (iR c s s.aH (st.take k)) x=true)(h2:x.aM=2):kX (aL s x.aI)=true/\(aL s x.aI).aT=x.aK:=by
 obtain⟨a1,a2,a3,a4⟩:=F8 hp;have hl:=ajE (c:=c) (s:=s) (st.take k) s.aH;have hj:x.aI.toNat<s.aH.length:=ah
 obtain⟨b1,b2⟩:=aiQ (c:=c) (s:=s) (st.take k) x.aI.toNat hj;refine⟨b2 a3,?_⟩;rcases a4 with⟨q,_⟩|⟨_,q,_⟩
 .omega
 .rcases b1 with b1|b1
  .omega
  .show(s.aH.getD x.aI.toNat aG).aT=_;rw[<-b1,q]
theorem aM3(hc:VC c)(hv:VS c s)(P:ajn c s e):Yo (oZ c s s.aH) e.bY e (oV c s e.Region) 0 c s=some (((e.bY.length:Nat):Int),oZ c s (iR c s s.aH e.bY),e,oV c s e.Region,0,c,s):=by
 have hln:=P.ln;have hcl:=Pg (s:=s) hc (r:=e.Region);unfold Yo;apply pJ;have key:∀(m k:Nat),k<=e.bY.length->e.bY.length - k<m->Ok (R4 e.bY e.bY ((e.bY.length:Nat):Int) m (oZ c s (iR c s s.aH (e.bY.take k))) e (oV c s e.Region) 0 c s (k:Int)) (λr=>r=(((e.bY.length:Nat):Int),oZ c s (iR c s s.aH e.bY),e,oV c s e.Region,0,c,s)):=by intro m;induction m with
  |zero=>intro k _ h;exact absurd h (kF _)
  |succ m ih=>
   intro k hk hm;rw[R4];by_cases q:k<e.bY.length
   .obtain⟨p1,p2⟩:=aMp P.MR q;have hg:=Cq (s:=s) (e.bY.take k) hv.gs;have hg':=Cq (s:=s) (e.bY.take (k+1)) hv.gs;rw[eZZ,dVZ,gW,aMn hc hv hg p1 (aJd hv p1),bD];simp only[gN,jG,aY];have hx:e.bY.getD k aG∈e.bY:=jk q;have hcb:YD (k:Int) e (oV c s e.Region) 0 (oZ c s (mV (iR c s s.aH (e.bY.take k)) (e.bY.getD k aG))) c s=some (true,e,oV c s e.Region,0,oZ c s (mV (iR c s s.aH (e.bY.take k)) (e.bY.getD k aG)),c,s):=by
     unfold YD;rw[dVZ,gW,<-p2,aL6 hc hg' (P.cap (k+1) ah)];have fin:Ny e (oV c s e.Region) (oZ c s (iR c s s.aH (e.bY.take (k+1)))) c s 0=some (true,e,oV c s e.Region,0,oZ c s (iR c s s.aH (e.bY.take (k+1))),c,s):=rfl;obtain⟨_,_,_,kd⟩:=F8 p1;rcases kd with⟨k1,_⟩|⟨k2,_⟩
     .rw[show((e.bY.getD k aG).aM==2)=false by rw[k1];rfl,show((e.bY.getD k aG).aM==1)=true by rw[k1];rfl];simp only[aZ,aY,bD,nC,P.nd k q k1,gN,Gs];exact fin
     .rw[show((e.bY.getD k aG).aM==2)=true by rw[k2];rfl,show((e.bY.getD k aG).aM==1)=false by rw[k2];rfl];simp only[aY,ag6 (show(oV c s e.Region).length<=1000000 by omega),dU (P.mem _ hx k2),bD,gN,Gs,aZ,nC];exact fin
    rw[hcb,bD,bLZ];simp only[gN,nU,aZ];rw[<-p2];have:=ih (k+1) ah ah;rw[show((k+1:Nat):Int)=(k:Int)+1 by omega]at this;exact this
   .have:k=e.bY.length:=ah;subst this;rw[fHZ,tF];exact Ok.some rfl
 exact key fuel 0 (zk _) aB
def Lx(e:gD):List Int:=(e.bY.filter (λx=>x.aM==2)).map (·.aI)
theorem aKZ(hl:e.bY.length<=40000):YV e=some (Lx e):=by unfold YV;rw[arp ah,bD];rfl
theorem aLn(hl:e.bY.length<=40000):Oy e=some ((e.bY.filter (λx=>x.aM==1)).map (·.aI)):=by unfold Oy;rw[arp ah,bD]
theorem aJI(hc:VC c)(hv:VS c s)(hr:0<=e.Region/\e.Region<c.gH)(P:ajn c s e)(hl:e.kH=(oV c s e.Region).filter (nin (Lx e)))(hf:∀x∈e.kH,ags c s e x=some false):
  Ob c s e=some ((e.bY.length:Int),0):=by
 have hln:=P.ln;have hcl:=Pg (s:=s) hc (r:=e.Region);have hml:(Lx e).length<=40000:=by unfold Lx;rw[nQ];exact Cb (PW _ _) hln
 have hll:e.kH.length<=32:=by rw[hl];exact Cb (PW _ _) hcl
 unfold Ob;rw[fF (show¬e.Region<0 by omega),fF (show¬c.gH<=e.Region by omega)];simp only[nU,aZ];rw[aKB hc hv,bD,aLr hc hv,bD,aM3 hc hv P,bD];simp only[jY,aZ];rw[fHZ,aKZ hln,bD,aMG ah ah,bD];simp only;rw[<-hl,aH1 _ ah,bD];simp only[gN,aZ];apply pJ;refine lJ (L:=λm (_:Unit) i=>Ir c s e (e.bY.length:Int) e.kH (e.kH.length:Int) m i) (x:=()) e.kH.length ah (λ_ _=>True) trivial ?_ ?_
 .rintro m k _ hk _ ih;show Ok (Ir c s e _ e.kH _ (m+1) k) _;rw[Ir,eZZ,dVZ,gW,hf _ (jk hk),bD,aZ,bLZ];exact ih () trivial
 .rintro m _ _;show Ok (Ir c s e _ e.kH _ (m+1) _) _;rw[Ir,fHZ];exact Ok.some rfl
end
end
theorem aqo{n:Int}{u:Bool}:∀{es:List (Value×Value)},tQ es=true->tQ (vQ es n u)=true
 | [],_=>rfl
 | (a,b)::r,h=>by
  unfold tQ at h⊢;rw[wT,dD]at h;obtain⟨h1,h2⟩:=h;have ih:=aqo (n:=n) (u:=u) (es:=r) h2;unfold tQ at ih;unfold QE at h1;split at h1
  .rename_i x y q;obtain⟨rfl,rfl⟩:a=_/\b=_:=(aD q);rw[vQ];cases decide (x=n)with|true=>simp only[aY,wT,h2,Gt];rfl|false=>simp only[aZ,wT,ih,Gt];rfl
  .cases h1
theorem uY{n m:Int}{u:Bool}:∀{es:List (Value×Value)},tQ es=true->wV (vQ es n u) m=if n=m then u else wV es m
 | [],_=>by
  simp only[vQ,wV];by_cases q:n=m
  .rw[dU q,bU q];rfl
  .rw[fF q,cZ q];rfl
 | (a,b)::r,h=>by
  unfold tQ at h;rw[wT,dD]at h;obtain⟨h1,h2⟩:=h;have ih:=uY (n:=n) (m:=m) (u:=u) (es:=r) h2;unfold QE at h1;split at h1
  .rename_i x y q;obtain⟨rfl,rfl⟩:a=_/\b=_:=(aD q);rw[vQ];by_cases w:x=n
   .subst w;rw[dU rfl,aY];simp only[wV];by_cases q2:x=m
    .rw[dU q2,bU q2];rfl
    .rw[fF q2,cZ q2];rfl
   .rw[fF w,aZ];simp only[wV];by_cases q2:x=m
    .subst q2;rw[dU rfl,cZ (λe=>w e.symm)];rfl
    .rw[fF q2];exact ih
  .cases h1
section
variable {c:aN} {s:aO} {e:gD}
def Jy(st:List eU)(n:Nat)(t:Int):Bool:=(st.take n).any λx=>x.aM==2&&x.aI==t
theorem apI{st:List eU}{n:Nat}(hn:n<st.length)(t:Int):Jy st (n+1) t=(Jy st n t||((st.getD n aG).aM==2&&(st.getD n aG).aI==t)):=by unfold Jy;rw[yH hn,List.any_append];simp
def LZ(s:aO)(x:eU)(Hq:Bool):Bool:=
 bif decide (x.aI<0)||decide ((s.aH.length:Int)<=x.aI)then true
 else bif x.aM==1 then(aL s x.aI).eX||(!Hq&&((aL s x.aI).bC !=x.aK))else bif x.aM==2 then(aL s x.aI).bC==x.aK else true
theorem aMA(s:aO)(x:eU)(m:Bool):SF s x m=some (LZ s x m):=by unfold SF LZ;cases h:(decide (x.aI<0)||decide ((s.aH.length:Int)<=x.aI))with|true=>rfl|false=>rw[ng]at h;have h1:=wO h.1;have h2:=wO h.2;simp only[aZ];rw[dVZ];cases (x.aM==1)<;>cases (x.aM==2)<;>rfl
def yT(s:aO)(st:List eU):Nat->List Int
 |0=> []
 |n+1=>yT s st n++(bif LZ s (st.getD n aG) (Jy st n (st.getD n aG).aI)then []else [(n:Int)])
theorem apD(s:aO)(st:List eU):∀n,(yT s st n).length<=n
 |0=>gI _
 |n+1=>by have:=apD s st n;rw[yT,pY];cases LZ s (st.getD n aG) (Jy st n (st.getD n aG).aI)<;>simp<;>omega
theorem ash(hl:e.bY.length<=40000):Zc s e=some (yT s e.bY e.bY.length):=by
 unfold Zc;apply pJ;refine lJ (L:=λm (x:List Int×List (Value×Value)) i=>DF s e.bY (e.bY.length:Int) m x.1 x.2 i) (x:=([],[])) e.bY.length ah (λn x=>x.1=yT s e.bY n/\tQ x.2=true∧∀t,wV x.2 t=Jy e.bY n t) ⟨rfl,rfl,λt=>rfl⟩ ?_ ?_
 .rintro m n ⟨l,mp⟩ hn ⟨h1,h2,h3⟩ ih;simp only at h1 h2 h3;show Ok (DF s e.bY _ (m+1) l mp n) _;have hlen:=apD s e.bY n;rw[DF,eZZ,dVZ,gW,h2];show Ok ((SF s _ _).bind _) _;rw[aMA,bD,h3];have k2:∀l':List Int,l'=yT s e.bY (n+1)->Ok (Ta (DF s e.bY (e.bY.length:Int) m) mp (n:Int) (e.bY.getD n aG) l') (λr=>r=yT s e.bY e.bY.length):=by intro l' hl';unfold Ta YK;rw[bLZ];cases hk:((e.bY.getD n aG).aM==2)with
   |true=>
    rw[aY,h2];refine ih (l',vQ mp (e.bY.getD n aG).aI true) ⟨hl',aqo h2,λt=> ?_⟩;rw[uY h2,h3,apI hn,hk,kN];by_cases q:(e.bY.getD n aG).aI=t
    .rw[bU q,show((e.bY.getD n aG).aI==t)=true by simpa using q];simp
    .rw[cZ q,show((e.bY.getD n aG).aI==t)=false by simpa using q];simp
   |false=>rw[aZ];refine ih (l',mp) ⟨hl',h2,λt=> ?_⟩;rw[h3,apI hn,hk];simp
  cases hc:LZ s (e.bY.getD n aG) (Jy e.bY n (e.bY.getD n aG).aI)with|true=>simp only[gN,aZ];exact k2 l (by rw[yT,hc,aY,nK];exact h1)|false=>simp only[jG,aY];rw[h1,gZ (dT (by unfold room;simp;omega))];exact k2 _ (by rw[yT,hc,aZ])
 .rintro m ⟨l,mp⟩ ⟨h1,h2,h3⟩;show Ok (DF s e.bY _ (m+1) l mp _) _;rw[DF,fHZ];exact Ok.some h1
theorem ajr{r:Int}(hv:VS c s)(hr:0<=r/\r<3:=by omega):Yx s r=some (hasB s.d9 r):=by
 have hev:=hv.lD;unfold Yx;rw[dT hr.1,gZ (by rw[dT (xX r).1];rfl),kN];have:∀(a:Fin 8) (q:Fin 3),(jd .i64 (iF .i64 (a.1:Int) (IntKind.u64.wrap (q.1:Int))) 1==1)=hasB (a.1:Int) (q.1:Int):=by decide+kernel
 have:=this ⟨s.d9.toNat,ah⟩ ⟨r.toNat,ah⟩;simp only[show((s.d9.toNat:Nat):Int)=s.d9 by omega,show((r.toNat:Nat):Int)=r by omega]at this;rw[this]
theorem aoY(hc:VC c)(hI:Inv c s)(hl:e.bY.length<=40000){bZ:Int}(ht:0<=bZ/\bZ<=1073741824)(hr:0<=e.Region/\e.Region<c.gH)(hev:hasB s.d9 e.Region=true){i:Nat}{rest:List Int}(hi:i<e.bY.length)(hlf:yT s e.bY e.bY.length=(i:Int)::rest)
  {y:aP} (hy:Td c s (e.bY.getD i aG) bZ=some (y,true)):FU c s e bZ=some (y,0):=by
 have nX:=hc.reg;unfold FU;rw[dF (show¬e.Region<0 by omega),dF (show¬c.gH<=e.Region by omega),dF (show¬bZ<0 by omega),dF (show¬1073741824<bZ by omega)];simp only[nU,aZ];rw[ajr hI.vs,bD,hev];simp only[gN,aZ];rw[ash hl,bD,hlf];have e0:((((((i:Int)::rest).length:Nat):Int))==0)=false:=by rw[rQ];simp;omega
 rw[e0,aZ];obtain⟨f,hf⟩:∃f,fuel=f+1:=⟨18446744073709551615,by rw[iK]⟩;rw[hf,Tc,eZ aj,dV (jc _) aj];simp only[show(((i:Int)::rest).getD (0:Int).toNat aG)=(i:Int)from rfl];rw[dVZ,gW];simp only[show tQ []=true from rfl,show∀t,wV [] t=false from λ_=>rfl,aZ,bq,aY,hy,bD]
theorem apL(hc:VC c)(hI:Inv c s)(hl:e.bY.length<=40000){bZ:Int}(ht:0<=bZ/\bZ<=1073741824)(hr:0<=e.Region/\e.Region<c.gH)(hev:hasB s.d9 e.Region=true)(hlf:yT s e.bY e.bY.length=[]):FU c s e bZ=some (zE,34):=by have nX:=hc.reg;unfold FU;rw[dF (show¬e.Region<0 by omega),dF (show¬c.gH<=e.Region by omega),dF (show¬bZ<0 by omega),dF (show¬1073741824<bZ by omega)];simp only[nU,aZ];rw[ajr hI.vs,bD,hev];simp only[gN,aZ];rw[ash hl,bD,hlf];rfl
theorem apK(hc:VC c)(hI:Inv c s){bZ:Int}(ht:0<=bZ/\bZ<=1073741824)(hr:0<=e.Region/\e.Region<c.gH)(hev:hasB s.d9 e.Region=false):FU c s e bZ=some (rX bZ e.Region,0):=by have nX:=hc.reg;unfold FU;rw[dF (show¬e.Region<0 by omega),dF (show¬c.gH<=e.Region by omega),dF (show¬bZ<0 by omega),dF (show¬1073741824<bZ by omega)];simp only[nU,aZ];rw[ajr hI.vs,bD,hev];rfl
end
def lN(s:aO)(mv:List Int):List eU:=mv.map λi=>jw (aL s i).aT i
theorem aiP{s:aO}{mv:List Int}{j:Nat}(hj:j<mv.length):(lN s mv).getD j aG=jw (aL s (mv.getD j aG)).aT (mv.getD j aG):=by unfold lN;rw[fC,mG,jN hj,fC,jN hj];rfl
theorem Gl{s:aO}{mv:List Int}:(lN s mv).length=mv.length:=by simp[lN]
section
variable {c:aN} {s:aO}
structure RX(c:aN)(s:aO)(t:Int)(done:List Int)(now:aO):Prop where
 uo:∃st ts,Run c s s.aH st done ts/\akj c s done ts now t
 Hq:∀i∈done,aL now i=yA c s i t
 evc:now.d9=s.d9
theorem RX.zero(hI:Inv c s){t:Int}(ht:s.bf<=t):RX c s t [] s:=
 ⟨⟨[],s.aH,.nil,hI,rfl,λi hi=>⟨rfl,rfl,rfl,rfl,rfl,rfl⟩,rfl,aj,ht,λi _ _=>rfl⟩,λi hi=>absurd hi l6,rfl⟩
structure Q0(c:aN)(s:aO)(r t:Int)(mv:List Int):Prop where
 nd:mv.Nodup
 mem:∀j∈mv,(0<=j/\j<(c.aH.length:Int))/\j3 c s r j=true
 ln:mv.length<=32
 wu:∀j∈mv,(aL s j).dn.bV<=t
theorem RX.step(hc:VC c)(hrs:RS c s){r t:Int}(ht:s.bf<=t/\t<=1000000000)(hh:tL c s r=true){mv:List Int}(C:Q0 c s r t mv){now:aO}{m:Nat}(hm:m<mv.length)(h:RX c s t (mv.take m) now):
  uP c now (mv.getD m aG) t=(gE c now (mv.getD m aG) t,0)/\(iy c now (gE c now (mv.getD m aG) t)).2=0/\(gE c now (mv.getD m aG) t).aK=(aL s (mv.getD m aG)).aT/\RX c s t (mv.take (m+1)) (iy c now (gE c now (mv.getD m aG) t)).1:=by
 have hI:=hrs.inv hc;generalize hi:mv.getD m aG=i;have him:i∈mv:=by rw[<-hi];exact jk hm
 have ets:mv.take (m+1)=mv.take m++ [i]:=by rw[yH hm,hi]
 have hsub:∀j∈mv.take m++ [i],j∈mv:=λj hj=>by rw[<-ets]at hj;exact abw hj
 have hnd:(mv.take m++ [i]).Nodup:=by rw[<-ets];exact C.nd.sublist (ajg _ _)
 have hin:i ∉ mv.take m:=λw=>(Ca.1 hnd).2.2 i w i aj rfl;obtain⟨st,ts,h1,h2⟩:=h.uo;have hl:=C.ln;obtain⟨g1,st',ts',g2,g3⟩:=aI3 (q:=(now,[])) hc hrs hrs.cnt ht hh h1 hnd (λj hj=>C.mem j (hsub j hj)) (by rw[rM];omega) (C.wu i him) h2;have hz:(uP c now i t).2=0:=by
  by_cases w:(uP c now i t).2=0
  .exact w
  .rw[asI (q:=(now,[])) w]at g1;exact absurd g1 aj
 have g4:=ajK (q:=(now,[])) hz;rw[g4]at g3;simp only at g3;have F:=aMM hc h2.inv hz;obtain⟨e1,e2,e3,e4,e5,e6⟩:=aaG hz;have hkp:=h2.kp i (C.mem i him).1.1 hin;have hcl:∀k,bX now k=bX s k:=λk=>by unfold bX;rw[h2.cl]
 have hf:yA c now i t=yA c s i t:=by unfold yA;rw[hkp,hcl]
 refine⟨e6,e5,by show(aL now i).aT=_;rw[hkp],?_⟩;rw[ets];refine⟨⟨st',ts',g2,g3⟩,λj hj=> ?_,?_⟩
 .rw[F.ap];show(gX (bump now (gE c now i t)) i (yA c now i t)).aH.getD j.toNat aG=_;have hir:=F.ir;rcases qp.1 hj with w|w
  .have hj0:=(C.mem j (hsub j hj)).1.1;have hne:j≠i:=λq=>hin (by rw[<-q];exact w);rw[aiT];exact h.Hq j w
  .rw[qw]at w;subst w;rw[aoy ah];exact hf
 .rw[F.ap];exact h.evc
theorem RX.left(hc:VC c)(hrs:RS c s){r t:Int}{mv:List Int}(C:Q0 c s r t mv)(hsb:∀j∈mv,0<=(aL s j).aT){now:aO}{m:Nat}(h:RX c s t (mv.take m) now):∀n,n<=mv.length->yT now (lN s mv) n=((List.range n).filter λj=>decide (m<=j)).map Int.ofNat
 |0,_=>rfl
 |n+1,hn=>by
  have hI:=hrs.inv hc;obtain⟨st,ts,h1,h2⟩:=h.uo;have R:=LC hc hI (hrs.ni hc) h1;have hnl:now.aH.length=c.aH.length:=h2.inv.vs.tl;have hsl:=hI.vs.tl;generalize hi:mv.getD n aG=i;have him:i∈mv:=by rw[<-hi];exact jk
  obtain⟨hr1,hr2⟩:=C.mem i him;rw[yT,RX.left hc hrs C hsb h n ah,aiP ah,hi,List.range_succ,AO,Lp];congr 1;have hcar:LZ now (jw (aL s i).aT i) (Jy (lN s mv) n (jw (aL s i).aT i).aI)=((aL now i).bC==(aL s i).aT):=by unfold LZ;show(bif decide (i<0)||decide ((now.aH.length:Int)<=i)then true else _)=_;rw[dF (show¬i<0 by omega),dF (show¬(now.aH.length:Int)<=i by omega)];rfl
  rw[hcar];by_cases q:n<m
  .have hd:i∈mv.take m:=(by have hlt:n<(mv.take m).length:=(by rw[rM];omega);have e:(mv.take m)[n]=i:=(by rw[<-hi];simp[fC,show n<mv.length by omega]);rw[<-e];exact yN hlt);rw[h.Hq i hd];have:((yA c s i t).bC==(aL s i).aT)=true:=(by simp[yA]);rw[this];simp[show¬m<=n by omega]
  .have hnd:i ∉ mv.take m:=(by intro w;obtain⟨j,hj,e⟩:=zh w;rw[rM]at hj;have e2:mv[j]=i:=(by rw[<-e];simp);have e3:mv[n]=i:=(by rw[<-hi];simp[fC,show n<mv.length by omega]);have:=(ai7 (C.nd) (i:=j) (j:=n) (h₀:=by omega) (h₁:=by omega)).1 (by rw[e2,e3]);omega);rw[h2.kp i hr1.1 hnd];have hact:kX (aL s i)=true:=(by unfold j3 at hr2;rw[dD]at hr2;exact hr2.1);have nX:=aaz hc hI (i:=i.toNat) ah (D8.1 hact).1 (hsb i him);have:((aL s i).bC==(aL s i).aT)=false:=(by rw[rQ];intro w;exact nX (by show eF c (aL s i).aT=eF c (aL s i).bC;rw[w]));rw[this];simp[show m<=n by omega]
end
def K1(c:aN)(al:Nat->Bool)(p:bO)(l:List aP)(s:aO):Prop:=H1 c p l s
def K3(c:aN)(al:Nat->Bool)(p:bO)(l:List aP)(s:aO):Prop:=H3 c al p l s
section
variable {c:aN} {al:Nat->Bool} {p:bO} {l:List aP} {s:aO} {e:aP}
theorem arH(hc:VC c)(hv:VS c s)(h:p.state=s):pQ p=some s:=by have h1:=hv.tl;have h2:=hv.cl;have h3:=hc.tl;have h4:=hc.cl;unfold pQ;rw[h,aa1,bD,aa0,bD]
theorem arZ{q:bP}(h:q.kW=l)(hl:l.length<=1000):y7 q=some l:=by unfold y7 Rt;rw[h,gZ (dT (rm ay))];rfl
theorem K1.norm(h:K1 c al p l s):((iL p):bO)=p:=H1.norm h
theorem K3.norm(h:K3 c al p l s):((jH p):bO)=p:=H3.norm h
theorem K1.state(hc:VC c)(hv:VS c s)(h:K1 c al p l s):pQ p=some s:=arH hc hv (H1.sta h)
theorem K3.state(hc:VC c)(hv:VS c s)(h:K3 c al p l s):pQ p=some s:=arH hc hv (H3.sta h)
theorem K1.WA(h:K1 c al p l s)(hl:l.length<=1000):Fw p=some l:=by unfold Fw;show(y7 (iE p.bn)).bind _=_;rw[arZ (q:=(iE p.bn)) (H1.ent h) hl];rfl
theorem K3.WA(h:K3 c al p l s)(hl:l.length<=1000):Ic p=some l:=by unfold Ic;show(y7 (gK p.bn)).bind _=_;rw[arZ (q:=(gK p.bn)) (H3.ent h) hl];rfl
theorem aqQ(hc:VC c)(hz:(iy c s e).2=0):sG e=some true:=by
 have hv:=Uw (e:=e) hc;have:A8 c e=true:=by unfold iy at hz;cases h:A8 c e with|true=>rfl|false=>rw[h]at hz;cases hz
 rw[this]at hv;unfold Uv at hv;obtain⟨x,h1,h2⟩:=DU hv;obtain⟨y,h3,h4⟩:=DU h2;have:(x&&y)=true:=aD h4
 rw[dD]at this;rw[h1,this.1]
theorem aiq(hc:VC c)(hI:Inv c s)(hz:(iy c s e).2=0):BQ c s e=some ((iy c s e).1,0):=by rw[aoC hc hI,<-hz]
theorem K1.prop(hc:VC c)(hI:Inv c s)(h:K1 c al p l s)(hz:(iy c s e).2=0)(hl:l.length<=390):Ok (Il p e) (λo=>o.2.1=0/\K1 c al o.2.2 (l++ [e]) (iy c s e).1):=
 H1.propose h (aiq hc hI hz) (aqQ hc hz) (UR hc hz).2 hl
theorem K3.prop(hc:VC c)(hI:Inv c s)(h:K3 c al p l s)(hz:(iy c s e).2=0)(hl:l.length<=390):Ok (Km p e) (λo=>o.2.1=0/\K3 c al o.2.2 (l++ [e]) (iy c s e).1):=
 H3.propose h (aiq hc hI hz) (aqQ hc hz) (UR hc hz).2 hl
theorem K1.new(hc:VC c)(h3:c.dh.length=1):Ok (K9 c) (λo=>o.2=0/\K1 c (λ_=>true) o.1 [] (newS c)):=H1.new hc h3
theorem K3.new(hc:VC c)(h3:c.dh.length=3):Ok (UF c) (λo=>o.2=0/\K3 c (λ_=>true) o.1 [] (newS c)):=H3.new hc h3
theorem K1.lose(hc:VC c)(h:K1 c (λ_=>true) p l s)(hl:l.length<=390){r:Int}(hM:(c.dh.length:Int)<2*(lM c r c.dh.length:Nat)):Ok (Tf p r) (λo=>∃al',K1 c al' o.2 l s):=by
 have h3:c.dh.length=1:=by obtain⟨R,L,b,T,_,_,_,_,_,_,h3,_⟩:=H1.ok h;exact h3
 exact Ok.eq (H1.lose hc h (aLY h3 hM)) ⟨λ_=>true,h⟩
theorem K3.lose(hc:VC c)(h:K3 c (λ_=>true) p l s)(hl:l.length<=390){r:Int}(hM:(c.dh.length:Int)<2*(lM c r c.dh.length:Nat)):Ok (SL p r) (λo=>∃al',K3 c al' o.2 l s):=by
 have h3:c.dh.length=3:=by obtain⟨R,L,b,T,_,_,_,_,_,_,h3,_⟩:=H3.ok h;exact h3
 exact H3.lose hc h hl (aLZ h3 hM)
theorem abe:∀(a b:List aP) (s:aO),xE c s (a++b)->xE c s a/\xE c (vY c s a) b
 | [],b,s,h=>⟨trivial,h⟩
 |x::a,b,s,h=>⟨⟨h.1,(abe a b _ h.2).1⟩,(abe a b _ h.2).2⟩
theorem Vk{n:Nat}(h:xE c s l):xE c s (l.take n):=(abe (l.take n) (l.drop n) s (by rw[aje];exact h)).1
theorem ajC(h:xE c s l){n:Nat}(hn:n<l.length):(iy c (vY c s (l.take n)) (l.getD n aG)).2=0/\vY c s (l.take (n+1))=(iy c (vY c s (l.take n)) (l.getD n aG)).1:=by
 have h1:xE c s (l.take n++ [l.getD n aG]):=by rw[<-yH hn];exact Vk h
 exact⟨(abe _ _ s h1).2.1,by rw[yH hn,aaQ]⟩
theorem aKj(hc:VC c)(h:xE c (newS c) l)(hl:l.length<=1000):UW c l=some (vY c (newS c) l,(l.length:Int),0):=by
 unfold UW;rw[ahN hc,bD];apply pJ;refine lJ (L:=λm x i=>IJ c l l (l.length:Int) m x i) l.length ah (λn x=>x=vY c (newS c) (l.take n)) rfl ?_ ?_
 .rintro m n x hn rfl ih;show Ok (IJ c l l _ (m+1) _ n) _;obtain⟨h1,h2⟩:=ajC h hn;have hI:=Vx hc (l.take n) _ (Li hc) (Vk h);rw[IJ,eZZ,dVZ,gW,aiq hc hI h1,bD,bLZ];exact ih _ h2.symm
 .rintro m x rfl;show Ok (IJ c l l _ (m+1) _ _) _;rw[IJ,fHZ,tF];exact Ok.some rfl
theorem aJz(hc:VC c)(hI:Inv c s):aak c s=some true:=by
 have hbl:(nA c s).length=c.aJ.length:=KU c s;have hcl:=hc.cl;unfold aak;rw[Uz hc hI.vs.tl,bD,hbl];simp only[jY,aZ];apply pJ;refine lJ (L:=λm (_:Unit) i=>IK c (nA c s) m i) (x:=()) c.aJ.length ah (λ_ _=>True) trivial ?_ ?_
 .rintro m k _ hk _ ih;show Ok (IK c (nA c s) (m+1) k) _;rw[IK,hbl,eZZ,dV ah (by rw[hbl];omega),gW,dVZ,gW,bLZ];have h1:=Pp.1 hI.ov k hk;have h2:(nA c s).getD k aG=ru c s.aH k s.aH.length:=ag4 hk;rw[fH (by rw[h2];omega)];exact ih () trivial
 .rintro m _ _;show Ok (IK c (nA c s) (m+1) _) _;rw[IK,hbl,fHZ];exact Ok.some rfl
structure InR(c:aN)(r:Int)(L:List Int):Prop where
 nd:L.Nodup
 mem:∀k∈L,(0<=k/\k<(c.aJ.length:Int))/\eF c k=r
 ln:L.length<=16
theorem ase(hc:VC c)(r:Int):Ok (Uj c r) (InR c r):=by
 have hcl:=hc.cl;unfold Uj;refine lJ (L:=λm x i=>FN c r (c.aJ.length:Int) m x i) c.aJ.length ah (λn x=>x.Nodup/\(∀k∈x,(0<=k/\k<(n:Int))/\eF c k=r)/\x.length<=n) ⟨abx,λk hk=>absurd hk l6,gI _⟩ ?_ ?_
 .rintro m n x hn ⟨h1,h2,h3⟩ ih;show Ok (FN c r _ (m+1) x n) _;rw[FN,eZZ,Ay hc,bD];unfold YO;rw[bLZ];cases hq:(eF c (n:Int)==r)with
  |true=>
   rw[aY,gZ (dT (rm ay))];refine ih _ ⟨Ca.2 ⟨h1,aj,λa ha b hb=> ?_⟩,λk hk=> ?_,ay⟩
   .rw[qw]at hb;have:=(h2 a ha).1;omega
   .rcases qp.1 hk with w|w
    .have:=h2 k w;exact⟨ah,this.2⟩
    .rw[qw]at w;subst w;exact⟨ah,aD hq⟩
  |false=>rw[aZ];exact ih _ ⟨h1,λk hk=>by have:=h2 k hk;exact⟨ah,this.2⟩,ah⟩
 .rintro m x ⟨h1,h2,h3⟩;show Ok (FN c r _ (m+1) x _) _;rw[FN,fHZ];exact Ok.some ⟨h1,h2,ah⟩
structure Gz(c:aN)(r:Int)(s0 s:aO)(out:List aP)(n:Nat):Prop where
 rl:RL c s out (40+n)
 tn:s.aH=s0.aH
 tk:s.bf=s0.bf
 ev:s.d9=s0.d9
 cl:∀k,0<=k->k<(c.aJ.length:Int)->eF c k≠r->bX s k=bX s0 k
theorem Gz.md(hc:VC c){r:Int}{s0 s:aO}{out:List aP}{n:Nat}(h:Gz c r s0 s out n)(ho:n<=60){j:Int}(hj:0<=j/\j<(c.aJ.length:Int))(hr:eF c j=r)(hm:(bX s j).gJ≠3):
  (iy c s (yD s0.bf j)).2=0/\Gz c r s0 (iy c s (yD s0.bf j)).1 (out++ [yD s0.bf j]) (n+1)∧∀k,0<=k->k≠j->bX (iy c s (yD s0.bf j)).1 k=bX s k:=by
 have hI:=h.rl.inv hc;have htk:=hI.vs.bZ;have h1:=h.rl.ct;have h2:=h.rl.len;have ha:=aJE (s:=s) (bZ:=s0.bf) hc hj (by rw[<-h.tk];omega) ah hm;have hz:(iy c s (yD s0.bf j)).2=0:=by rw[ha]
 have hcl:∀k,0<=k->k≠j->bX (iy c s (yD s0.bf j)).1 k=bX s k:=λk hk hne=>by rw[ha];show(s.aJ.set j.toNat _).getD k.toNat aG=s.aJ.getD k.toNat aG;simp only[fC,yM];rw[cZ ah]
 refine⟨hz,⟨(h.rl.snoc hc hz (by show s0.bf<=s.bf+20000;rw[h.tk];omega)).up ah,by rw[ha];exact h.tn,by rw[ha];rfl,by rw[ha];exact h.ev,λk hk hk2 hkr=> ?_⟩,hcl⟩;have:k≠j:=λq=>hkr (by rw[q];exact hr);rw[hcl k hk this];exact h.cl k hk hk2 hkr
end
end Go.CP
namespace Go.CP
open Go Go.RowKit
theorem TQ [F:Fuel]:O9=some true:=by obtain⟨n,e,d⟩:=F;subst e;kernel_rfl
end Go.CP
namespace Go.CP
open Go
variable [Fuel]
section
variable {c:aN} {al:Nat->Bool} {p:bO} {s:aO}
theorem aLQ(hc:VC c)(hN:c.dh.length=1){l:List Int}(hl:JK l):Ok (Pb c l 40) (λp=>∃out s,K1 c (λ_=>true) p out s/\RL c s out 40):=by
 unfold Pb;refine Ok.bind (K1.new hc hN) λo ho=> ?_;obtain⟨h1,h2⟩:=ho;rw[h1,h2.norm];simp only[jY,nU,aZ];refine Ok.bind (arl hc hl (n:=40) ah) λx hx=> ?_;obtain⟨s',R⟩:=hx;have hxl:=R.len;refine lJ (L:=λm q i=>IW c x m i q) x.length ah (λn q=>K1 c (λ_=>true) q (x.take n) (vY c (newS c) (x.take n))) h2 ?_ ?_
 .rintro m n q hn hq ih;show Ok (IW c x (m+1) (n:Int) q) _;obtain⟨a1,a2⟩:=ajC R.ok hn;rw[IW,eZZ,dVZ,gW];refine Ok.bind (K1.prop hc (Vx hc _ _ (Li hc) (Vk R.ok)) hq a1 (by rw[rM];omega)) λo ho=> ?_;obtain⟨b1,b2⟩:=ho;rw[b1,b2.norm,bLZ];simp only[jY,aZ];refine ih _ ?_;rw[yH hn,aaQ];exact b2
 .rintro m q hq;show Ok (IW c x (m+1) _ q) _;rw[tF,R.run]at hq;have hv:=(R.inv hc).vs;have e1:=hv.tl;have e2:=hv.cl;rw[IW,fHZ,K1.state hc hv hq,bD,e1,e2];simp only[jY,nU,aZ];exact Ok.some ⟨x,s',hq,R⟩
theorem aMX(hc:VC c){r:Int}(hM:(c.dh.length:Int)<2*(lM c r c.dh.length:Nat)){out:List aP}(h:K1 c (λ_=>true) p out s)(R:RL c s out 40):
  Ok (aaX c p r) (λo=>o.1=true∧∃al' out' s',K1 c al' o.2 out' s'/\Gz c r s s' out' 16):=by
 have hol:=R.len;have hI:=R.inv hc;unfold aaX;rw[h.norm];refine Ok.bind (K1.lose hc h ah hM) λo ho=> ?_;obtain⟨al',h1⟩:=ho;rw[h1.norm,K1.state hc hI.vs h1,bD];refine Ok.bind (ase hc r) λL hL=> ?_;have hLl:=hL.ln;have hcl:=hI.vs.cl;refine lJ (L:=λm q i=>F4 s L m i q) L.length ah (λn q=>∃out' s',K1 c al' q out' s'/\Gz c r s s' out' n∧∀k,0<=k->k ∉ L.take n->bX s' k=bX s k) ⟨out,s,h1,⟨R.up ah,rfl,rfl,rfl,λ_ _ _ _=>rfl⟩,λ_ _ _=>rfl⟩ ?_ ?_
 .rintro m n q hn ⟨out',s',q1,q2,q3⟩ ih;show Ok (F4 s L (m+1) (n:Int) q) _;have hm:=hL.mem _ (jk hn);generalize hj:L.getD n aG=j at hm;have hx:∀k:Int->Option (Bool×bO),bE L (n:Int) k=k (L.getD (n:Int).toNat aG):=λk=>dVZ;rw[F4,eZZ,hx,abd ah ah];simp only[gW,hj];rw[dF (show¬j<0 by omega),dF (show¬(s.aJ.length:Int)<=j by omega)];simp only[nU,aZ];unfold Vp IY;rw[bD,hx,hx];simp only[gW,hj];rw[dV hm.1.1 ah,bLZ];have hjn:j ∉ L.take n:=λw=>by obtain⟨i,hi,e⟩:=zh w;rw[rM]at hi;have e2:L[i]=j:=(by rw[<-e];simp);have e3:L[n]=j:=(by rw[<-hj];simp[fC,hn]);have:=(ai7 hL.nd (i:=i) (j:=n) (h₀:=by omega) (h₁:=by omega)).1 (by rw[e2,e3]);omega
  have hsub:∀k,k ∉ L.take (n+1)->k ∉ L.take n/\k≠j:=λk hk=>by rw[yH hn,hj,qp,qw,not_or]at hk;exact hk
  have aNp:=q2.rl.len;have hcj:bX s' j=s.aJ.getD j.toNat aG:=q3 j hm.1.1 hjn;cases hmo:((s.aJ.getD j.toNat aG).gJ !=3)with
  |true=>obtain⟨z1,z2,z3⟩:=q2.md hc ah hm.1 hm.2 (by rw[hcj];simpa using hmo);simp only[aY];refine Ok.bind (K1.prop (e:=yD s.bf j) hc (q2.rl.inv hc) q1 z1 ah) λo ho=> ?_;obtain⟨b1,b2⟩:=ho;rw[b1,b2.norm];simp only[jY,aZ];refine ih _ ⟨_,_,b2,z2,λk hk hkn=> ?_⟩;obtain⟨w1,w2⟩:=hsub k hkn;rw[z3 k hk w2];exact q3 k hk w1
  |false=>simp only[aZ];exact ih _ ⟨out',s',q1,⟨q2.rl.up ah,q2.tn,q2.tk,q2.ev,q2.cl⟩,λk hk hkn=>q3 k hk (hsub k hkn).1⟩
 .rintro m q ⟨out',s',q1,q2,q3⟩;show Ok (F4 s L (m+1) _ q) _;rw[F4,fHZ];exact Ok.some ⟨rfl,al',out',s',q1,⟨q2.rl.up ah,q2.tn,q2.tk,q2.ev,q2.cl⟩⟩
theorem asl(hc:VC c)(hrs:RS c s){r t:Int}(ht:s.bf<=t/\t<=s.bf+2000)(hr:0<=r/\r<c.gH)(hh:tL c s r=true){mv:List Int}(C:Q0 c s r t mv)(hsb:∀j∈mv,0<=(aL s j).aT)(hev:hasB s.d9 r=true){e:gD}(he:e.bY=lN s mv/\e.Region=r):
  ∀(f k m:Nat) (q:bO) (out:List aP) (now:aO) (acc:List aP),k=mv.length-m->k<f->m<=mv.length->acc.length<=m+1->K1 c al q out now->RX c s t (mv.take m) now->RL c now out (60+m)->s.bf<=now.bf→
   Ok (Oe c e t f acc q) (λo=>o.2.1=34∧∃out' now',K1 c al o.2.2 out' now'/\out'.length=out.length+k/\(∃w,out'=out++w)/\RX c s t mv now'/\RL c now' out' 100)
 |0,_,_,_,_,_,_,_,h,_,_,_,_,_,_=>absurd h (kF _)
 |f +1,k,m,q,out,now,acc,hk,hf,hm,ha,h1,h2,h3,htn=>by
  have hI:=h3.inv hc;have htb:=hrs.bZ;have hs0:=(hrs.inv hc).vs.bZ;have hln:=C.ln;have hlen:e.bY.length=mv.length:=by rw[he.1,Gl]
  have WT:hasB now.d9 e.Region=true:=by rw[h2.evc,he.2];exact hev
  have hleft:=h2.left hc hrs C hsb mv.length (gI _);rw[Oe,K1.state hc hI.vs h1,bD];by_cases hd:m<mv.length
  .obtain⟨s1,s2,s3,s4⟩:=h2.step hc hrs ⟨ht.1,ah⟩ hh C hd;have hidx:yT now e.bY e.bY.length=(m:Int)::((List.range' (m+1) (mv.length-(m+1))).map Int.ofNat):=(by rw[hlen,he.1,hleft];have e1:(List.range mv.length).filter (λj=>decide (m<=j))=List.range' m (mv.length-m):=(by have e2:List.range mv.length=List.range m++List.range' m (mv.length-m):=(by have:=arT (s:=0) (m:=m) (n:=mv.length-m);rw[nL,show m+(mv.length-m)=mv.length by omega]at this;rw[aby,aby];exact this.symm);rw[e2,AO,PU.2 (λx hx=>by have:=zT.1 hx;simp;omega),Gn,ai3.2 (λx hx=>by rw[List.mem_range'_1]at hx;simp;omega)]);rw[e1,show mv.length-m=(mv.length-(m+1))+1 by omega,List.range'_succ];rfl);have hent:Td c now (e.bY.getD m aG) t=some (gE c now (mv.getD m aG) t,true):=(by rw[he.1,aiP hd];show(bif false then _ else(Oo c now (mv.getD m aG) t).bind _)=_;rw[aZ,as0 hc hI,s1,bD];show some (_,((0:Int)==0)&&(_==_))=_;rw[s3];simp[jw]);rw[aoY hc hI ah ⟨ah,ah⟩ (by rw[he.2];exact hr) WT ah hidx hent,bD];simp only[jY,aZ];have hol:=h3.len;refine Ok.bind (K1.prop hc hI h1 s2 ah) λo ho=> ?_;obtain⟨b1,b2⟩:=ho;rw[b1,b2.norm];simp only[jY,aZ];rw[gZ (dT (rm ay))];obtain⟨st,ts,_,F⟩:=h2.uo;have htk:=F.tk;have R2:=h3.snoc (e:=gE c now (mv.getD m aG) t) hc s2 (by show t<=now.bf+20000;omega);refine(asl hc hrs ht hr hh C hsb hev he f (k-1) (m+1) _ _ _ _ ah ah ah ay b2 s4 (R2.up ah) (by rw[(UR hc s2).1];exact ht.1)).mono λo ho=> ?_;obtain⟨c1,out',now',c2,c3,⟨w,c4⟩,c5,c6⟩:=ho;exact⟨c1,out',now',c2,by rw[c3];simp;omega,⟨_,by rw[c4,qU]⟩,c5,c6⟩
  .have hmm:m=mv.length:=ah;subst hmm
   rw[apL hc hI ah ⟨ah,ah⟩ (by rw[he.2];exact hr) WT (by
    rw[hlen,he.1,hleft,PU.2 (λx hx=>by have:=zT.1 hx;simp;omega)];rfl),bD]
   rw[tF]at h2;exact Ok.some ⟨rfl,out,now,h1,ah,⟨[],aj⟩,h2,h3.up ah⟩
theorem aLR(hc:VC c)(hN:c.dh.length=3){l:List Int}(hl:JK l):Ok (ZV c l 40) (λp=>∃out s,K3 c (λ_=>true) p out s/\RL c s out 40):=by
 unfold ZV;refine Ok.bind (K3.new hc hN) λo ho=> ?_;obtain⟨h1,h2⟩:=ho;rw[h1,h2.norm];simp only[jY,nU,aZ];refine Ok.bind (arl hc hl (n:=40) ah) λx hx=> ?_;obtain⟨s',R⟩:=hx;have hxl:=R.len;refine lJ (L:=λm q i=>II c x m i q) x.length ah (λn q=>K3 c (λ_=>true) q (x.take n) (vY c (newS c) (x.take n))) h2 ?_ ?_
 .rintro m n q hn hq ih;show Ok (II c x (m+1) (n:Int) q) _;obtain⟨a1,a2⟩:=ajC R.ok hn;rw[II,eZZ,dVZ,gW];refine Ok.bind (K3.prop hc (Vx hc _ _ (Li hc) (Vk R.ok)) hq a1 (by rw[rM];omega)) λo ho=> ?_;obtain⟨b1,b2⟩:=ho;rw[b1,b2.norm,bLZ];simp only[jY,aZ];refine ih _ ?_;rw[yH hn,aaQ];exact b2
 .rintro m q hq;show Ok (II c x (m+1) _ q) _;rw[tF,R.run]at hq;have hv:=(R.inv hc).vs;have e1:=hv.tl;have e2:=hv.cl;rw[II,fHZ,K3.state hc hv hq,bD,e1,e2];simp only[jY,nU,aZ];exact Ok.some ⟨x,s',hq,R⟩
theorem aMY(hc:VC c){r:Int}(hM:(c.dh.length:Int)<2*(lM c r c.dh.length:Nat)){out:List aP}(h:K3 c (λ_=>true) p out s)(R:RL c s out 40):
  Ok (aaj c p r) (λo=>o.1=true∧∃al' out' s',K3 c al' o.2 out' s'/\Gz c r s s' out' 16):=by
 have hol:=R.len;have hI:=R.inv hc;unfold aaj;rw[h.norm];refine Ok.bind (K3.lose hc h ah hM) λo ho=> ?_;obtain⟨al',h1⟩:=ho;rw[h1.norm,K3.state hc hI.vs h1,bD];refine Ok.bind (ase hc r) λL hL=> ?_;have hLl:=hL.ln;have hcl:=hI.vs.cl;refine lJ (L:=λm q i=>FY s L m i q) L.length ah (λn q=>∃out' s',K3 c al' q out' s'/\Gz c r s s' out' n∧∀k,0<=k->k ∉ L.take n->bX s' k=bX s k) ⟨out,s,h1,⟨R.up ah,rfl,rfl,rfl,λ_ _ _ _=>rfl⟩,λ_ _ _=>rfl⟩ ?_ ?_
 .rintro m n q hn ⟨out',s',q1,q2,q3⟩ ih;show Ok (FY s L (m+1) (n:Int) q) _;have hm:=hL.mem _ (jk hn);generalize hj:L.getD n aG=j at hm;have hx:∀k:Int->Option (Bool×bO),bE L (n:Int) k=k (L.getD (n:Int).toNat aG):=λk=>dVZ;rw[FY,eZZ,hx,abd ah ah];simp only[gW,hj];rw[dF (show¬j<0 by omega),dF (show¬(s.aJ.length:Int)<=j by omega)];simp only[nU,aZ];unfold Vp IY;rw[bD,hx,hx];simp only[gW,hj];rw[dV hm.1.1 ah,bLZ];have hjn:j ∉ L.take n:=λw=>by obtain⟨i,hi,e⟩:=zh w;rw[rM]at hi;have e2:L[i]=j:=(by rw[<-e];simp);have e3:L[n]=j:=(by rw[<-hj];simp[fC,hn]);have:=(ai7 hL.nd (i:=i) (j:=n) (h₀:=by omega) (h₁:=by omega)).1 (by rw[e2,e3]);omega
  have hsub:∀k,k ∉ L.take (n+1)->k ∉ L.take n/\k≠j:=λk hk=>by rw[yH hn,hj,qp,qw,not_or]at hk;exact hk
  have aNp:=q2.rl.len;have hcj:bX s' j=s.aJ.getD j.toNat aG:=q3 j hm.1.1 hjn;cases hmo:((s.aJ.getD j.toNat aG).gJ !=3)with
  |true=>obtain⟨z1,z2,z3⟩:=q2.md hc ah hm.1 hm.2 (by rw[hcj];simpa using hmo);simp only[aY];refine Ok.bind (K3.prop (e:=yD s.bf j) hc (q2.rl.inv hc) q1 z1 ah) λo ho=> ?_;obtain⟨b1,b2⟩:=ho;rw[b1,b2.norm];simp only[jY,aZ];refine ih _ ⟨_,_,b2,z2,λk hk hkn=> ?_⟩;obtain⟨w1,w2⟩:=hsub k hkn;rw[z3 k hk w2];exact q3 k hk w1
  |false=>simp only[aZ];exact ih _ ⟨out',s',q1,⟨q2.rl.up ah,q2.tn,q2.tk,q2.ev,q2.cl⟩,λk hk hkn=>q3 k hk (hsub k hkn).1⟩
 .rintro m q ⟨out',s',q1,q2,q3⟩;show Ok (FY s L (m+1) _ q) _;rw[FY,fHZ];exact Ok.some ⟨rfl,al',out',s',q1,⟨q2.rl.up ah,q2.tn,q2.tk,q2.ev,q2.cl⟩⟩
theorem asn(hc:VC c)(hrs:RS c s){r t:Int}(ht:s.bf<=t/\t<=s.bf+2000)(hr:0<=r/\r<c.gH)(hh:tL c s r=true){mv:List Int}(C:Q0 c s r t mv)(hsb:∀j∈mv,0<=(aL s j).aT)(hev:hasB s.d9 r=true){e:gD}(he:e.bY=lN s mv/\e.Region=r):
  ∀(f k m:Nat) (q:bO) (out:List aP) (now:aO) (acc:List aP),k=mv.length-m->k<f->m<=mv.length->acc.length<=m+1->K3 c al q out now->RX c s t (mv.take m) now->RL c now out (60+m)->s.bf<=now.bf→
   Ok (NT c e t f acc q) (λo=>o.2.1=34∧∃out' now',K3 c al o.2.2 out' now'/\out'.length=out.length+k/\(∃w,out'=out++w)/\RX c s t mv now'/\RL c now' out' 100)
 |0,_,_,_,_,_,_,_,h,_,_,_,_,_,_=>absurd h (kF _)
 |f +1,k,m,q,out,now,acc,hk,hf,hm,ha,h1,h2,h3,htn=>by
  have hI:=h3.inv hc;have htb:=hrs.bZ;have hs0:=(hrs.inv hc).vs.bZ;have hln:=C.ln;have hlen:e.bY.length=mv.length:=by rw[he.1,Gl]
  have WT:hasB now.d9 e.Region=true:=by rw[h2.evc,he.2];exact hev
  have hleft:=h2.left hc hrs C hsb mv.length (gI _);rw[NT,K3.state hc hI.vs h1,bD];by_cases hd:m<mv.length
  .obtain⟨s1,s2,s3,s4⟩:=h2.step hc hrs ⟨ht.1,ah⟩ hh C hd;have hidx:yT now e.bY e.bY.length=(m:Int)::((List.range' (m+1) (mv.length-(m+1))).map Int.ofNat):=(by rw[hlen,he.1,hleft];have e1:(List.range mv.length).filter (λj=>decide (m<=j))=List.range' m (mv.length-m):=(by have e2:List.range mv.length=List.range m++List.range' m (mv.length-m):=(by have:=arT (s:=0) (m:=m) (n:=mv.length-m);rw[nL,show m+(mv.length-m)=mv.length by omega]at this;rw[aby,aby];exact this.symm);rw[e2,AO,PU.2 (λx hx=>by have:=zT.1 hx;simp;omega),Gn,ai3.2 (λx hx=>by rw[List.mem_range'_1]at hx;simp;omega)]);rw[e1,show mv.length-m=(mv.length-(m+1))+1 by omega,List.range'_succ];rfl);have hent:Td c now (e.bY.getD m aG) t=some (gE c now (mv.getD m aG) t,true):=(by rw[he.1,aiP hd];show(bif false then _ else(Oo c now (mv.getD m aG) t).bind _)=_;rw[aZ,as0 hc hI,s1,bD];show some (_,((0:Int)==0)&&(_==_))=_;rw[s3];simp[jw]);rw[aoY hc hI ah ⟨ah,ah⟩ (by rw[he.2];exact hr) WT ah hidx hent,bD];simp only[jY,aZ];have hol:=h3.len;refine Ok.bind (K3.prop hc hI h1 s2 ah) λo ho=> ?_;obtain⟨b1,b2⟩:=ho;rw[b1,b2.norm];simp only[jY,aZ];rw[gZ (dT (rm ay))];obtain⟨st,ts,_,F⟩:=h2.uo;have htk:=F.tk;have R2:=h3.snoc (e:=gE c now (mv.getD m aG) t) hc s2 (by show t<=now.bf+20000;omega);refine(asn hc hrs ht hr hh C hsb hev he f (k-1) (m+1) _ _ _ _ ah ah ah ay b2 s4 (R2.up ah) (by rw[(UR hc s2).1];exact ht.1)).mono λo ho=> ?_;obtain⟨c1,out',now',c2,c3,⟨w,c4⟩,c5,c6⟩:=ho;exact⟨c1,out',now',c2,by rw[c3];simp;omega,⟨_,by rw[c4,qU]⟩,c5,c6⟩
  .have hmm:m=mv.length:=ah;subst hmm
   rw[apL hc hI ah ⟨ah,ah⟩ (by rw[he.2];exact hr) WT (by
    rw[hlen,he.1,hleft,PU.2 (λx hx=>by have:=zT.1 hx;simp;omega)];rfl),bD]
   rw[tF]at h2;exact Ok.some ⟨rfl,out,now,h1,ah,⟨[],aj⟩,h2,h3.up ah⟩
end
section
variable {c:aN} {s:aO} {ts:List bI}
theorem aLh(hc:VC c)(hI:Inv c s)(hN:NI s){r:Int}{st:List eU}{mv:List Int}(hr:Run c s s.aH st mv ts):mv.Nodup->(∀i∈mv,(0<=i/\i<(c.aH.length:Int))/\j3 c s r i=true)->st.filter (λx=>x.aM==1)=[]->st=lN s mv:=by induction hr with
 |nil=>intro _ _ _;rfl
 | @snoc st mv ts i h hi hn ih=>
  intro hnd hcb hf;rw[AO,List.append_eq_nil_iff]at hf;have akJ:=Ca.1 hnd;have R:=LC hc hI hN h;obtain⟨ys,G⟩:=Xn hc R.gs hn;have hys:ys=[]:=by rcases ys with _|⟨y,l⟩;rfl;have:=hf.2;rw[G.st]at this;exact absurd this (by simp[jR])
  subst hys;have hic:=hcb i aj;have hvl:=hI.vs.tl;have ei:((i.toNat:Nat):Int)=i:=ah
  have hk:=Vl hc hI hN (r:=r) h akJ.1 (λj hj=>(hcb j (wL _ hj)).2) i.toNat ah (by rw[ei];exact hic.2) (by rw[ei];exact λq=>akJ.2.2 i q i aj rfl);rw[ih akJ.1 (λj hj=>hcb j (wL _ hj)) hf.1,G.st,hk];unfold lN;rw[Lp];rfl
structure ajU(c:aN)(s:aO)(r:Int)(mv:List Int):Prop where
 nd:mv.Nodup
 mem:∀i,i∈mv ↔ (0<=i/\i<(c.aH.length:Int))/\j3 c s r i=true
 ln:mv.length<=32
 us:∀i∈mv,qj c s (aL s i).aT=true
 mak:Ox c s r=some ({Region:=r,bY:=lN s mv,kH:=[]},0)
 ck:Ob c s {Region:=r,bY:=lN s mv,kH:=[]}=some ((mv.length:Int),0)
 sh:Oy {Region:=r,bY:=lN s mv,kH:=[]}=some []
theorem apy(hc:VC c)(hrs:RS c s){r:Int}(hr:0<=r/\r<c.gH)(hh:tL c s r=true):∃mv,ajU c s r mv:=by
 have hI:=hrs.inv hc;have hv:=hI.vs;obtain⟨mv,M⟩:=made hc hv r;have hvl:=hv.tl;have R:=LC hc hI (hrs.ni hc) M.run;have hml:=aL1 hc hv r;have hcl:=Pg (s:=s) hc (r:=r);have hpl:=M.perm.length_eq;rw[pY]at hpl;have hpn:(mv++(mkS c s r).2.2).Nodup:=M.perm.nodup_iff.2 (aHW hc);have hmem:∀i,i∈mv++(mkS c s r).2.2->(0<=i/\i<(c.aH.length:Int))/\j3 c s r i=true:=λi hi=>(aaE hc).1 (M.perm.mem_iff.1 hi);have hnd:=(Ca.1 hpn).1;obtain⟨f1,f2,f3,f4⟩:=ah1 hc hI (hrs.ni hc) hh M.run hnd (λi hi=>hmem i (wL _ hi));obtain⟨_,_,_,g4⟩:=ah1 hc hI (hrs.ni hc) hh (st:=[]) (mv:=[]) .nil abx (λi hi=>absurd hi l6);have hleft:(mkS c s r).2.2=[]:=by rw[List.eq_nil_iff_forall_not_mem];intro i hi;obtain⟨hir,hcb⟩:=hmem i (VD _ hi);have hnm:i ∉ mv:=λq=>(Ca.1 hpn).2.2 i q i hi rfl;obtain⟨u,ms⟩:=f4 i hir hcb hnm;have hti:=Vl hc hI (hrs.ni hc) (r:=r) M.run hnd (λj hj=>(hmem j (wL _ hj)).2) i.toNat ah (by rw[show((i.toNat:Nat):Int)=i by omega];exact hcb) (by rw[show((i.toNat:Nat):Int)=i by omega];exact hnm);have et:s.aH.getD i.toNat aG=aL s i:=rfl;rw[et]at hti;unfold j3 at hcb;rw[dD]at hcb;have hno:=asv (s:=s) hc R.gs (i:=i) (by rw[hti];exact hcb.1) (by rw[hti];exact u) (M.left i hi);have hgl:=R.gs.len;have:=aiX hc (xu c (mkS c s r).1 ((mkS c s r).1.getD i.toNat aG).aT (tn c i).iT) (λy hy=>by have:=(aiK hc R.gs hy).1;omega);omega
 have hst:=aLh hc hI (hrs.ni hc) (r:=r) M.run hnd (λi hi=>hmem i (wL _ hi)) f1;have hperm:mv.Perm (oV c s r):=by have:=M.perm;rw[hleft,nK]at this;exact this
 have hin:∀i,i∈mv ↔ (0<=i/\i<(c.aH.length:Int))/\j3 c s r i=true:=λi=>(hperm.mem_iff).trans (aaE hc);have hlm:mv.length<=32:=ah
 have hmv:Lx {Region:=r,bY:=lN s mv,kH:=[]}=mv:=by unfold Lx;rw[<-hst];exact R.Hq
 have hk:∀x∈lN s mv,x.aM≠1:=λx hx w=>by have:x∈(mkS c s r).2.1.filter (λx=>x.aM==1):=abu.2 ⟨by rw[hst];exact hx,aD w⟩;rw[f1]at this;exact absurd this l6
 refine⟨mv,hnd,hin,hlm,λi hi=>(g4 i ((hin i).1 hi).1 ((hin i).1 hi).2 l6).1,?_,?_,?_⟩
 .rw[aL0 hc hv hr,hst,hleft]
 .have P:ajn c s {Region:=r,bY:=lN s mv,kH:=[]}:=by refine⟨by rw[<-hst];exact R.MR,by rw[<-hst];exact R.cap,λx hx h2=> ?_,λk hk2 h1=>absurd h1 (hk _ (jk hk2)),by show(lN s mv).length<=_;rw[Gl];omega⟩;have:x.aI∈Lx {Region:=r,bY:=lN s mv,kH:=[]}:=xS.2 ⟨x,abu.2 ⟨hx,aD h2⟩,rfl⟩;rw[hmv]at this;exact hperm.mem_iff.1 this
  have:=aJI hc hv (e:={Region:=r,bY:=lN s mv,kH:=[]}) hr P (by
   rw[hmv];symm;rw[PU];intro x hx;unfold nin
   rw[dU (hperm.mem_iff.2 hx)];simp) (λx hx=>absurd hx l6)
  rw[this,show(lN s mv).length=mv.length from Gl]
 .rw[aLn (by show(lN s mv).length<=_;rw[Gl];omega)];show some (((lN s mv).filter (λx=>x.aM==1)).map (·.aI))=_;rw[<-hst,f1];rfl
theorem apW(hc:VC c){s0 now:aO}{r t:Int}{mv:List Int}(hv0:VS c s0)(Ra:VS c now)(hmem:∀i,i∈mv ↔ (0<=i/\i<(c.aH.length:Int))/\j3 c s0 r i=true)
  (h1:∀i,0<=i->i ∉ mv->aL now i=aL s0 i) (h2:∀i∈mv,(aL now i).eX=false/\(aL now i).bC=(aL s0 i).aT/\(aL now i).dn.aK=(aL now i).bC/\(aL now i).dn.From=t/\t<(aL now i).dn.bV/\(bX now (aL now i).bC).gJ=1/\0<=(aL now i).bC/\eF c (aL now i).bC≠r):
  K5 c s0 now r t=some true:=by
 have e1:=hv0.tl;have e2:=Ra.tl;have e3:=Ra.cl;have hct:=hc.tl;unfold K5;apply pJ;refine lJ (L:=λm (_:Unit) i=>DN c s0 now r t m i) (x:=()) s0.aH.length ah (λ_ _=>True) trivial ?_ ?_
 .rintro m k _ hk _ ih;show Ok (DN c s0 now r t (m+1) (k:Int)) _;rw[DN,eZZ,dVZ,dVZ,gW];unfold Zu;rw[bLZ];have a0:s0.aH.getD k aG=aL s0 (k:Int):=by unfold aL;rw[gW]
  have an:now.aH.getD k aG=aL now (k:Int):=by unfold aL;rw[gW]
  rw[a0,an];have hcb:j3 c s0 r (k:Int)=(((aL s0 (k:Int)).dN&& !(aL s0 (k:Int)).eX)&&(eF c (aL s0 (k:Int)).bC==r)):=rfl;have hm:=hmem (k:Int);rw[hcb]at hm;have hno:(((aL s0 (k:Int)).dN&& !(aL s0 (k:Int)).eX)&&(eF c (aL s0 (k:Int)).bC==r))=false->(k:Int) ∉ mv:=λw q=>by have:=(hm.1 q).2;rw[w]at this;cases this
  have same:(k:Int) ∉ mv->Ok (bif !(((aL s0 (k:Int)).dN==(aL now (k:Int)).dN)&&(((aL s0 (k:Int)).eX==(aL now (k:Int)).eX)&&(((aL s0 (k:Int)).bC==(aL now (k:Int)).bC)&&(((aL s0 (k:Int)).aT==(aL now (k:Int)).aT)&&(((aL s0 (k:Int)).Next==(aL now (k:Int)).Next)&&(((aL s0 (k:Int)).dK==(aL now (k:Int)).dK)&&(((aL s0 (k:Int)).bN==(aL now (k:Int)).bN)&&(((aL s0 (k:Int)).dn.aK==(aL now (k:Int)).dn.aK)&&(((aL s0 (k:Int)).dn.bN==(aL now (k:Int)).dn.bN)&&(((aL s0 (k:Int)).dn.qQ==(aL now (k:Int)).dn.qQ)&&(((aL s0 (k:Int)).dn.From==(aL now (k:Int)).dn.From)&&(((aL s0 (k:Int)).dn.bV==(aL now (k:Int)).dn.bV)&&true))))))))))))then some false else DN c s0 now r t m ((k:Int)+1)) (λb=>b=true):=λw=>by rw[h1 (k:Int) ah w];simp only[Lu,Ba,gN,aZ];exact ih () trivial
  cases hp:(aL s0 (k:Int)).dN with
  |false=>simp only[jG,Ep,gN,aZ,bD,aY];have:=same (hno (by rw[hp];rfl));rw[hp]at this;exact this
  |true=>cases hs:(aL s0 (k:Int)).eX with|true=>simp only[gN,Qd,Ep,aZ,bD,aY];have:=same (hno (by rw[hp,hs];rfl));rw[hp,hs]at this;exact this|false=>simp only[gN,nU,jG,aY,Ay hc,bD,jZ];cases hr:(eF c (aL s0 (k:Int)).bC !=r)with|true=>have hr':(eF c (aL s0 (k:Int)).bC==r)=false:=(by rw[yP]at hr;simpa using hr);have:=same (hno (by rw[hp,hs,hr'];rfl));rw[hp,hs]at this;exact this|false=>have hr':(eF c (aL s0 (k:Int)).bC==r)=true:=(by rw[Cc]at hr;simpa using hr);obtain⟨b1,b2,b3,b4,b5,b6,b7,b8⟩:=h2 (k:Int) (hm.2 ⟨ah,by rw[hp,hs,hr'];rfl⟩);have hth:=(Ra.t _ (jk (xs:=now.aH) (i:=k) ah)).lW;rw[an]at hth;have q1:((aL now (k:Int)).bC !=(aL s0 (k:Int)).aT)=false:=(by rw[b2];simp);have q2:((aL now (k:Int)).dn.aK !=(aL now (k:Int)).bC)=false:=(by rw[b3];simp);have q6:(now.aJ.getD (aL now (k:Int)).bC.toNat aG).gJ=1:=b6;have q8:(eF c (aL now (k:Int)).bC==r)=false:=(aD b8);simp only[aZ,b1,q1,q2,jZ,nU];rw[dF (show¬t<(aL now (k:Int)).dn.From by omega),dF (show¬(aL now (k:Int)).dn.bV<=t by omega),dF (show¬(aL now (k:Int)).bC<0 by omega),dF (show¬(now.aJ.length:Int)<=(aL now (k:Int)).bC by omega)];simp only[nU,jG];rw[abd b7 ah,q6];simp only[jY,nU,jG,aY,Ay hc,bD,q8,jZ,aZ];exact ih () trivial
 .rintro m _ _;show Ok (DN c s0 now r t (m+1) _) _;rw[DN,fHZ];exact Ok.some rfl
end
section
variable {out:List aP}{mv p1 p2:List Int}{p3:Int}
section
variable {c:aN} {al:Nat->Bool} {p:bO} {s:aO}
theorem ar4(hc:VC c){r t:Int}{s0 now:aO}(R:RL c now out 100)(hs:K5 c s0 now r t=some true){n:Nat}(hn:n<=out.length+1:=by omega):Ok (Iq c r s0 t now out fuel (n:Int)) (λb=>b=true):=by
 have hl:=R.len;have key:∀(m k:Nat),k<=out.length+1->out.length+1-k<m->Ok (Iq c r s0 t now out m (k:Int)) (λb=>b=true):=by intro m;induction m with
  |zero=>intro k _ h;exact absurd h (kF _)
  |succ m ih=>
   intro k hk hm;rw[Iq];by_cases q:k<=out.length
   .have hok:=Vk (n:=k) R.ok;rw[eZZ,gZ (dT ⟨ah,ah⟩),gW,aKj hc hok (by rw[rM];omega),bD];simp only[jY,jG,aY];rw[aJz hc (Vx hc _ _ (Li hc) hok),bD,bLZ];simp only[gN,nU,aZ];exact ih (k+1) ah ah
   .rw[fHZ,hs];exact Ok.some rfl
 exact key fuel n hn aB
theorem aNz(hc:VC c){s0:aO}{r:Int}(hr:0<=r/\r<c.gH)(h:K1 c al p out s)(L:Gz c r s0 s out 16)(h0:RL c s0 [] 40\/Inv c s0)(P:ajU c s r mv)(hh:tL c s r=true)(hev:hasB s.d9 r=false):
  Ok (Zw p c {Region:=r,bY:=lN s mv,kH:=[]} (s0.bf+2*c.iC)) (λo=>o.2.1=34∧∃out' now,K1 c al o.2.2 out' now/\out'.length=out.length+1+mv.length/\RL c now out' 100/\K5 c s0 now r (s0.bf+2*c.iC)=some true):=by
 have hrs:RS c s:=⟨out,L.rl.up ah⟩;have hI:=hrs.inv hc;have hv:=hI.vs;have htb:=hrs.bZ;have htk:=hv.bZ;have hls:=hc.yg;have nX:=hc.reg;have hct:=hv.cnt;have hcn:=hrs.cnt;have akG:=hv.lD;have hsl:=hv.tl;have e0:=L.tk;generalize ht:s0.bf+2*c.iC=t;have hap:=ap6 (s:=s) (bZ:=t) hc hr ⟨ah,ah,ah⟩ ah hev;have hz:(iy c s (rX t r)).2=0:=by rw[hap]
 have R2:=L.rl.snoc (e:=rX t r) hc hz (by show t<=s.bf+20000;omega);unfold Zw;rw[h.norm];obtain⟨f,hf⟩:∃f,fuel=f+1:=⟨18446744073709551615,by rw[iK]⟩;have hf2:f=18446744073709551615:=by have:=iK;omega
 rw[hf,Oe,K1.state hc hv h,bD,apK (e:={Region:=r,bY:=lN s mv,kH:=[]}) hc hI ⟨ah,ah⟩ hr hev,bD];simp only[jY,aZ];have hol:=L.rl.len;refine Ok.bind (K1.prop (e:=rX t r) hc hI h hz ah) λo ho=> ?_;obtain⟨b1,b2⟩:=ho;rw[b1,b2.norm];simp only[jY,aZ];rw[gZ (dT (rm aj))];generalize hs2:(iy c s (rX t r)).1=s2 at b2 R2;have GJ:s2={bump s (rX t r)with d9:=wm .i64 s.d9 (iV .i64 1 (IntKind.u64.wrap r))}:=by rw[<-hs2,hap]
 have t2:s2.aH=s.aH:=by rw[GJ];rfl
 have c2:s2.aJ=s.aJ:=by rw[GJ];rfl
 have k2:s2.bf=t:=by rw[GJ];rfl
 have v2:∀q,0<=q->q<c.gH->hasB s2.d9 q=if q=r then !hasB s.d9 q else hasB s.d9 q:=λq hq1 hq2=>by rw[GJ];exact arO akG ⟨hr.1,ah⟩ ⟨hq1,ah⟩
 have ta:∀i,aL s2 i=aL s i:=λi=>by unfold aL;rw[t2]
 have ca:∀i,bX s2 i=bX s i:=λi=>by unfold bX;rw[c2]
 have WU:RS c s2:=⟨out++ [rX t r],R2.up ah⟩;have hh2:tL c s2 r=true:=by rw[aas hc t2 hv (λk _ _ _=>ca k) (λq h1 h2 h3=>by rw[v2 q h1 h2,cZ h3])];exact hh
 have WS:hasB s2.d9 r=true:=by rw[v2 r hr.1 hr.2,bU rfl,hev];rfl
 have hcb:∀i,j3 c s2 r i=j3 c s r i:=λi=>by unfold j3;rw[ta]
 have hps:lN s2 mv=lN s mv:=by unfold lN;simp only[ta]
 have hsb:∀j∈mv,0<=(aL s2 j).aT:=λj hj=>by rw[ta];exact(AZ (P.us j hj)).1
 have C:Q0 c s2 r t mv:=⟨P.nd,λj hj=>by rw[hcb];exact(P.mem j).1 hj,P.ln,λj hj=>by
  have hj2:=((P.mem j).1 hj).1;have:=(hI.t j.toNat ah).wl;rw[ta];show(s.aH.getD j.toNat aG).dn.bV<=t
  omega⟩
 refine(asl hc WU (r:=r) ⟨ah,ah⟩ hr hh2 C hsb WS (e:={Region:=r,bY:=lN s mv,kH:=[]}) ⟨hps.symm,rfl⟩ f mv.length 0 _ (out++ [rX t r]) s2 _ ah (by have:=P.ln;omega) (zk _) aj b2 (RX.zero (WU.inv hc) ah) (R2.up ah) (jc _)).mono λo ho=> ?_;obtain⟨d1,out',now,d2,d3,_,d5,d6⟩:=ho;refine⟨d1,out',now,d2,by rw[d3];simp,d6,?_⟩;have hIn:=d6.inv hc;obtain⟨st,ts,_,F⟩:=d5.uo;have a0:∀i,aL s i=aL s0 i:=λi=>by unfold aL;rw[L.tn]
 have hv0:VS c s0:=by
  rcases h0 with q|q
  .exact q.vs hc
  .exact q.vs
 refine apW (mv:=mv) hc hv0 hIn.vs (λi=>by rw[P.mem i];unfold j3;rw[a0]) (λi hi hn=>by rw[F.kp i hi hn,ta,a0]) (λi hi=> ?_);rw[d5.Hq i hi];have hu:=P.us i hi;have hur:=AZ hu;unfold qj at hu;simp only[dD,oo,uE]at hu;have hmi:=(P.mem i).1 hi;have hact:kX (aL s i)=true/\eF c (aL s i).bC=r:=by have:=hmi.2;unfold j3 at this;rw[dD,uE]at this;exact this
 have hrg:=aaz hc hI (i:=i.toNat) ah (D8.1 hact.1).1 hur.1;refine⟨rfl,by show(aL s2 i).aT=_;rw[ta,a0],rfl,rfl,by show t<t+c.iC;omega,?_,by show 0<=(aL s2 i).aT;rw[ta];exact hur.1,?_⟩
 .show(bX now (aL s2 i).aT).gJ=1;have:bX now (aL s2 i).aT=bX s (aL s i).aT:=by rw[ta];unfold bX;rw[F.cl,c2]
  rw[this];exact hu.1.2.1
 .show eF c (aL s2 i).aT≠r;rw[ta];intro w;exact hrg (by show eF c (aL s i).aT=eF c (aL s i).bC;rw[w,hact.2])
theorem aMJ(h1:JK p1)(h2:JK p2)(h3:G8 p3)(hcf:KR p1=some c)(hc:VC c)(hN:c.dh.length=1):BO p1 p2 p3=some true:=by apply okT;unfold BO DR;rw[TQ];have l1:=h1.2;have l2:=h2.2;simp only[bD,gN,jG,aY,aZ,jZ,pG];rw[dT (show(p1.length:Int)<=200 by omega),dT (show(p2.length:Int)<=200 by omega)];simp only[bD,gN,jG,aY,aZ,jZ,nU];rw[hcf,bD];have nX:=hc.reg;have hls:=hc.yg;refine Ok.bind (aLQ hc hN h2) λp hp=> ?_;obtain⟨out,s0,hK,R⟩:=hp;refine Ok.bind (VZ h3 nX.1) λr hr=> ?_;have hI:=R.inv hc;have hv:=hI.vs;have hrl:=R.len;have hrt:=R.tk;have htk:=hv.bZ;rw[hK.norm,K1.state hc hv hK,bD,apE hc hv.fs7,bD];refine Ok.bq (by rw[dT (xX r).1];simp) ?_;cases hh:tL c s0 r with
 |false=>exact Ok.some rfl
 |true=>
 simp only[gN,jG,aY,jZ];rw[aqu hc hr,bD];by_cases hM:(c.dh.length:Int)<2*(lM c r c.dh.length:Nat)
 .rw[dT hM];simp only[gN,jG,aY,jZ];rw[La hv.lD.1,bD];cases hev:hasB s0.d9 r with
  |true=>exact Ok.some rfl
  |false=>
  simp only[aZ];refine Ok.bind (aMX hc hM hK R) λo ho=> ?_;obtain⟨o1,al',Ms,s1,q1,L⟩:=ho;rw[o1,q1.norm];simp only[gN,aZ];have hrs:RS c s1:=⟨Ms,L.rl.up ah⟩;have hI1:=hrs.inv hc;have hv1:=hI1.vs;have Xq:tL c s1 r=true:=by rw[aas hc L.tn hv L.cl (λq _ _ _=>by rw[L.ev])];exact hh
  obtain⟨mv,P⟩:=apy hc hrs hr Xq;have hml:=P.ln;have hol:=L.rl.len;rw[K1.state hc hv1 q1,bD,P.mak,bD];have z0:(((([]:List Int).length:Nat):Int) !=0)=false:=rfl;simp only[jY,z0,nU,jG,aY];rw[P.sh,bD];simp only[z0,nU,aZ];rw[bD,P.ck,bD,K1.WA q1 ah,bD];rw[bL (x:=2*c.iC) ah ah,bL (x:=s0.bf+2*c.iC) ah ah];unfold aft;refine Ok.bind (aNz hc hr q1 L (.inr hI) P Xq (by rw[L.ev];exact hev)) λo ho=> ?_;obtain⟨d1,out',now,d2,d3,d4,d5⟩:=ho;have hIn:=d4.inv hc;have e1:=hv.tl;have e2:=hIn.vs.tl;have hl4:=d4.len;rw[d1,d2.norm,K1.state hc hIn.vs d2,bD,K1.WA d2 ah];have e3:((now.aH.length:Int) !=(s0.aH.length:Int))=false:=by rw[e1,e2];simp
  have e4:((mv.length:Int) !=(((lN s1 mv).length:Nat):Int))=false:=by rw[Gl];simp
  have e5:((out'.length:Int) !=aQ (aQ ((Ms.length:Int)+1)+(((lN s1 mv).length:Nat):Int)))=false:=by rw[Gl,bL (x:=(Ms.length:Int)+1) ah ah,bLZ,d3];simp
  simp only[e3,e4,jY,nU,jG,aY,bD,jZ,e5,aZ];exact ar4 hc d4 d5
 .rw[dF hM];exact Ok.some rfl
theorem aNA(hc:VC c){s0:aO}{r:Int}(hr:0<=r/\r<c.gH)(h:K3 c al p out s)(L:Gz c r s0 s out 16)(h0:RL c s0 [] 40\/Inv c s0)(P:ajU c s r mv)(hh:tL c s r=true)(hev:hasB s.d9 r=false):
  Ok (YX p c {Region:=r,bY:=lN s mv,kH:=[]} (s0.bf+2*c.iC)) (λo=>o.2.1=34∧∃out' now,K3 c al o.2.2 out' now/\out'.length=out.length+1+mv.length/\RL c now out' 100/\K5 c s0 now r (s0.bf+2*c.iC)=some true):=by
 have hrs:RS c s:=⟨out,L.rl.up ah⟩;have hI:=hrs.inv hc;have hv:=hI.vs;have htb:=hrs.bZ;have htk:=hv.bZ;have hls:=hc.yg;have nX:=hc.reg;have hct:=hv.cnt;have hcn:=hrs.cnt;have akG:=hv.lD;have hsl:=hv.tl;have e0:=L.tk;generalize ht:s0.bf+2*c.iC=t;have hap:=ap6 (s:=s) (bZ:=t) hc hr ⟨ah,ah,ah⟩ ah hev;have hz:(iy c s (rX t r)).2=0:=by rw[hap]
 have R2:=L.rl.snoc (e:=rX t r) hc hz (by show t<=s.bf+20000;omega);unfold YX;rw[h.norm];obtain⟨f,hf⟩:∃f,fuel=f+1:=⟨18446744073709551615,by rw[iK]⟩;have hf2:f=18446744073709551615:=by have:=iK;omega
 rw[hf,NT,K3.state hc hv h,bD,apK (e:={Region:=r,bY:=lN s mv,kH:=[]}) hc hI ⟨ah,ah⟩ hr hev,bD];simp only[jY,aZ];have hol:=L.rl.len;refine Ok.bind (K3.prop (e:=rX t r) hc hI h hz ah) λo ho=> ?_;obtain⟨b1,b2⟩:=ho;rw[b1,b2.norm];simp only[jY,aZ];rw[gZ (dT (rm aj))];generalize hs2:(iy c s (rX t r)).1=s2 at b2 R2;have GJ:s2={bump s (rX t r)with d9:=wm .i64 s.d9 (iV .i64 1 (IntKind.u64.wrap r))}:=by rw[<-hs2,hap]
 have t2:s2.aH=s.aH:=by rw[GJ];rfl
 have c2:s2.aJ=s.aJ:=by rw[GJ];rfl
 have k2:s2.bf=t:=by rw[GJ];rfl
 have v2:∀q,0<=q->q<c.gH->hasB s2.d9 q=if q=r then !hasB s.d9 q else hasB s.d9 q:=λq hq1 hq2=>by rw[GJ];exact arO akG ⟨hr.1,ah⟩ ⟨hq1,ah⟩
 have ta:∀i,aL s2 i=aL s i:=λi=>by unfold aL;rw[t2]
 have ca:∀i,bX s2 i=bX s i:=λi=>by unfold bX;rw[c2]
 have WU:RS c s2:=⟨out++ [rX t r],R2.up ah⟩;have hh2:tL c s2 r=true:=by rw[aas hc t2 hv (λk _ _ _=>ca k) (λq h1 h2 h3=>by rw[v2 q h1 h2,cZ h3])];exact hh
 have WS:hasB s2.d9 r=true:=by rw[v2 r hr.1 hr.2,bU rfl,hev];rfl
 have hcb:∀i,j3 c s2 r i=j3 c s r i:=λi=>by unfold j3;rw[ta]
 have hps:lN s2 mv=lN s mv:=by unfold lN;simp only[ta]
 have hsb:∀j∈mv,0<=(aL s2 j).aT:=λj hj=>by rw[ta];exact(AZ (P.us j hj)).1
 have C:Q0 c s2 r t mv:=⟨P.nd,λj hj=>by rw[hcb];exact(P.mem j).1 hj,P.ln,λj hj=>by
  have hj2:=((P.mem j).1 hj).1;have:=(hI.t j.toNat ah).wl;rw[ta];show(s.aH.getD j.toNat aG).dn.bV<=t
  omega⟩
 refine(asn hc WU (r:=r) ⟨ah,ah⟩ hr hh2 C hsb WS (e:={Region:=r,bY:=lN s mv,kH:=[]}) ⟨hps.symm,rfl⟩ f mv.length 0 _ (out++ [rX t r]) s2 _ ah (by have:=P.ln;omega) (zk _) aj b2 (RX.zero (WU.inv hc) ah) (R2.up ah) (jc _)).mono λo ho=> ?_;obtain⟨d1,out',now,d2,d3,_,d5,d6⟩:=ho;refine⟨d1,out',now,d2,by rw[d3];simp,d6,?_⟩;have hIn:=d6.inv hc;obtain⟨st,ts,_,F⟩:=d5.uo;have a0:∀i,aL s i=aL s0 i:=λi=>by unfold aL;rw[L.tn]
 have hv0:VS c s0:=by
  rcases h0 with q|q
  .exact q.vs hc
  .exact q.vs
 refine apW (mv:=mv) hc hv0 hIn.vs (λi=>by rw[P.mem i];unfold j3;rw[a0]) (λi hi hn=>by rw[F.kp i hi hn,ta,a0]) (λi hi=> ?_);rw[d5.Hq i hi];have hu:=P.us i hi;have hur:=AZ hu;unfold qj at hu;simp only[dD,oo,uE]at hu;have hmi:=(P.mem i).1 hi;have hact:kX (aL s i)=true/\eF c (aL s i).bC=r:=by have:=hmi.2;unfold j3 at this;rw[dD,uE]at this;exact this
 have hrg:=aaz hc hI (i:=i.toNat) ah (D8.1 hact.1).1 hur.1;refine⟨rfl,by show(aL s2 i).aT=_;rw[ta,a0],rfl,rfl,by show t<t+c.iC;omega,?_,by show 0<=(aL s2 i).aT;rw[ta];exact hur.1,?_⟩
 .show(bX now (aL s2 i).aT).gJ=1;have:bX now (aL s2 i).aT=bX s (aL s i).aT:=by rw[ta];unfold bX;rw[F.cl,c2]
  rw[this];exact hu.1.2.1
 .show eF c (aL s2 i).aT≠r;rw[ta];intro w;exact hrg (by show eF c (aL s i).aT=eF c (aL s i).bC;rw[w,hact.2])
theorem aMK(h1:JK p1)(h2:JK p2)(h3:G8 p3)(hcf:KR p1=some c)(hc:VC c)(hN:c.dh.length=3):SS p1 p2 p3=some true:=by apply okT;unfold SS DR;rw[TQ];have l1:=h1.2;have l2:=h2.2;simp only[bD,gN,jG,aY,aZ,jZ,pG];rw[dT (show(p1.length:Int)<=200 by omega),dT (show(p2.length:Int)<=200 by omega)];simp only[bD,gN,jG,aY,aZ,jZ,nU];rw[hcf,bD];have nX:=hc.reg;have hls:=hc.yg;refine Ok.bind (aLR hc hN h2) λp hp=> ?_;obtain⟨out,s0,hK,R⟩:=hp;refine Ok.bind (VZ h3 nX.1) λr hr=> ?_;have hI:=R.inv hc;have hv:=hI.vs;have hrl:=R.len;have hrt:=R.tk;have htk:=hv.bZ;rw[hK.norm,K3.state hc hv hK,bD,apE hc hv.fs7,bD];refine Ok.bq (by rw[dT (xX r).1];simp) ?_;cases hh:tL c s0 r with
 |false=>exact Ok.some rfl
 |true=>
 simp only[gN,jG,aY,jZ];rw[aqu hc hr,bD];by_cases hM:(c.dh.length:Int)<2*(lM c r c.dh.length:Nat)
 .rw[dT hM];simp only[gN,jG,aY,jZ];rw[La hv.lD.1,bD];cases hev:hasB s0.d9 r with
  |true=>exact Ok.some rfl
  |false=>
  simp only[aZ];refine Ok.bind (aMY hc hM hK R) λo ho=> ?_;obtain⟨o1,al',Ms,s1,q1,L⟩:=ho;rw[o1,q1.norm];simp only[gN,aZ];have hrs:RS c s1:=⟨Ms,L.rl.up ah⟩;have hI1:=hrs.inv hc;have hv1:=hI1.vs;have Xq:tL c s1 r=true:=by rw[aas hc L.tn hv L.cl (λq _ _ _=>by rw[L.ev])];exact hh
  obtain⟨mv,P⟩:=apy hc hrs hr Xq;have hml:=P.ln;have hol:=L.rl.len;rw[K3.state hc hv1 q1,bD,P.mak,bD];have z0:(((([]:List Int).length:Nat):Int) !=0)=false:=rfl;simp only[jY,z0,nU,jG,aY];rw[P.sh,bD];simp only[z0,nU,aZ];rw[bD,P.ck,bD,K3.WA q1 ah,bD];rw[bL (x:=2*c.iC) ah ah,bL (x:=s0.bf+2*c.iC) ah ah];unfold aeT;refine Ok.bind (aNA hc hr q1 L (.inr hI) P Xq (by rw[L.ev];exact hev)) λo ho=> ?_;obtain⟨d1,out',now,d2,d3,d4,d5⟩:=ho;have hIn:=d4.inv hc;have e1:=hv.tl;have e2:=hIn.vs.tl;have hl4:=d4.len;rw[d1,d2.norm,K3.state hc hIn.vs d2,bD,K3.WA d2 ah];have e3:((now.aH.length:Int) !=(s0.aH.length:Int))=false:=by rw[e1,e2];simp
  have e4:((mv.length:Int) !=(((lN s1 mv).length:Nat):Int))=false:=by rw[Gl];simp
  have e5:((out'.length:Int) !=aQ (aQ ((Ms.length:Int)+1)+(((lN s1 mv).length:Nat):Int)))=false:=by rw[Gl,bL (x:=(Ms.length:Int)+1) ah ah,bLZ,d3];simp
  simp only[e3,e4,jY,nU,jG,aY,bD,jZ,e5,aZ];exact ar4 hc d4 d5
 .rw[dF hM];exact Ok.some rfl
end
end
theorem aH5{c:aN}(hc:VC c)(h3:c.dh.length=3)(l:List Int)(n:Int):Pb c l n=none:=by unfold Pb K9;rw[agv hc,bD,h3];rfl
theorem aC6{p1 p2:List Int}{p3:Int}(h1:∀x∈p1,G8 x)(h2:∀x∈p2,G8 x)(h3:G8 p3):((BO p1 p2 p3).orElse λ_=>SS p1 p2 p3)=some true:=by
 by_cases l1:p1.length<=200
 .by_cases l2:p2.length<=200
  .obtain⟨c,e,hc⟩:=aIT (l:=p1) ⟨h1,l1⟩;have h4:=hc.rl;have h5:=hc.ro;by_cases q:c.dh.length=1
   .rw[aMJ ⟨h1,l1⟩ ⟨h2,l2⟩ h3 e hc q];rfl
   .have q3:c.dh.length=3:=ah;have:BO p1 p2 p3=none:=(by unfold BO DR;rw[TQ];simp only[bD,gN,jG,aY,aZ,jZ,pG];rw[dT (show(p1.length:Int)<=200 by omega),dT (show(p2.length:Int)<=200 by omega)];simp only[bD,gN,jG,aY,aZ,jZ,nU];rw[e,bD,aH5 hc q3];rfl);rw[this,aMK ⟨h1,l1⟩ ⟨h2,l2⟩ h3 e hc q3];rfl
  .have:BO p1 p2 p3=some true:=(by unfold BO DR;rw[TQ];simp only[bD,gN,jG,aY,aZ,jZ,pG];rw[dT (show(p1.length:Int)<=200 by omega),dF (show¬(p2.length:Int)<=200 by omega)];rfl);rw[this];rfl
 .have:BO p1 p2 p3=some true:=by unfold BO DR;rw[TQ];simp only[bD,gN,jG,aY,aZ,jZ,pG];rw[dF (show¬(p1.length:Int)<=200 by omega)];rfl
  rw[this];rfl
end Go.CP
namespace Go.AM
open Go Go.RowKit Go.CP
variable [Fuel]
section
variable {ys:List CV}{k:IntKind}{x:Int}{f:FuncId}{args:List SV}
def LM(w:World)(ys:List CV)(cs:List Value):Prop:=
 cs.length=ys.length∧∀(j:Nat) y v,ys[j]? =some y->cs[j]? =some v->lu w (λ_=>False) y v/\v.oneCell'=true
theorem ahK{w:World}:LM w [] []:=⟨rfl,λj y v h=>by simp at h⟩
theorem ahj{w:World}{y:CV}{v:Value}{vs:List Value}(h:lu w (λ_=>False) y v)(h1:v.oneCell'=true)(t:LM w ys vs):LM w (y::ys) (v::vs):=by refine⟨by simp[t.1],λj y' v' e1 e2=> ?_⟩;cases j with|zero=>simp at e1 e2;subst e1;subst e2;exact⟨h,h1⟩|succ j=>simp at e1 e2;exact t.2 j y' v' e1 e2
theorem aJu{w:World}{vs:List Value}(t:LM w ys vs):LM w (.val (.int k x)::ys) (.int k x::vs):=ahj (.val _) rfl t
section
variable {H:Type} {L8:TypeId×Value->H} {P:Program} {w:World} {base:Nat} {spare:Nat->Bool} {held:Bool}
def Opn{α:Type}(L8:TypeId×Value->H)(P:Program)(w:World)(base:Nat)(spare:Nat->Bool)(held:Bool)(t:TypeId)(enc:α->List CV)(Inv:α->Prop):Prop:=
 ∀n cs x,DataW.trod L8 P w base spare held n t cs=some x→∃a,Inv a/\LM w (enc a) cs
theorem arv{t:TypeId}(ht:P.underlying t=some (.int k)):Opn L8 P w base spare held t (ab7 k) (λn=>(Lit.int k n).wf=true):=by intro n cs x h;obtain⟨m,rfl,_,hw⟩:=DataW.trod_int ht h;exact⟨m,hw,aJu ahK⟩
theorem apQ{t e:TypeId}{z:Nat}{τ:Ty}{Inv:den τ->Prop}(ht:P.underlying t=some (.slice e))(hc:P.cellsOf e=z)(hz0:0<z)(hw:wd τ=z)
  (he:Opn L8 P w base spare held e (xk τ) Inv):Opn L8 P w base spare held t (λxs:List (den τ)=> [CV.ls τ xs]) (λxs=>∀x∈xs,Inv x):=by
 have hz:∀a:den τ,(xk τ a).length=z:=λa=>by rw[aJQ,hw]
 intro n cs x h;rcases Deep.open_slice ht h with⟨rfl,_⟩|⟨a,len,cap,m,n,D,Pl,rfl,hb,hl,hm,hmm,_,hx⟩
 .exact⟨[],aj,ahj (.ls _ _ _ (.qh _ _ _ _)) rfl ahK⟩
 have hlm:len<=m:=by rw[hmm];split<;>omega
 have each:∀i,i<len→∃q:den τ×List Value,Inv q.1/\LM w (xk τ q.1) q.2/\q.2.length=z∧∀j,j<z->w.cell? ((a.add (i*z)).add j)=q.2[j]? :=by intro i hi;obtain⟨cs',h1,h2⟩:=hx i ah;rw[hc]at h1;obtain⟨_,hlen,hcell⟩:=World.cells?_some h1;obtain⟨y,hy,hs⟩:=he _ _ _ h2;exact⟨(y,cs'),hy,hs,hlen,hcell⟩
 obtain⟨q,hq⟩:=Deep.choose_lt each;refine⟨(List.range len).map (λi=>(q i).1),?_,ahj (.ls _ _ _ ?_) rfl ahK⟩
 .intro y hy;obtain⟨i,hi,rfl⟩:=xS.1 hy;exact(hq i (zT.1 hi)).1
 .rw[hw];have hln:((List.range len).map (λi=>(q i).1)).length=len:=aj
  have hg:∀i,i<len->((List.range len).map (λi=>(q i).1)).getD i aG=(q i).1:=by intro i hi;simp[fC,hi]
  rcases Nat.eq_zero_or_pos len with h0|h0
  .subst h0;exact .qh _ _ _ _
  rw[hln];obtain⟨b,off,spot⟩:=a;have hsome:∀i j,i<len->j<z->(q i).2[j]? =some ((q i).2.getD j undef):=by intro i j hi hj;have:j<(q i).2.length:=(by rw[(hq i hi).2.2.1];exact hj);simp[fC,this]
  have hsp:spot=none/\b<w.heap.size:=by
   have h1:=(hq 0 h0).2.2.2 0 hz0;rw[hsome 0 0 h0 hz0,abC]at h1;have ez:∀x:Addr,x.add 0=x:=λx=>rfl;rw[ez,ez]at h1;unfold World.cell? at h1;split at h1
   .rename_i heq;refine⟨?_,?_⟩
    .rcases spot with _|s;rfl;simp at h1
    .rw[ajM]at heq;exact heq.1
   .cases h1
  obtain⟨rfl,hbs⟩:=hsp;have c0:∀i j,i<len->j<z->w.cell? ⟨b,off+(i*z+j),none⟩=(q i).2[j]? :=by intro i j hi hj;have:=(hq i hi).2.2.2 j hj;rw[WideShapes.add_plain,WideShapes.add_plain,wM]at this;exact this
  have dm:∀j,j<len*z->j / z<len/\j%z<z/\j / z*z+j%z=j:=by intro j hj;refine⟨(Nat.div_lt_iff_lt_mul hz0).2 hj,uD _ hz0,?_⟩;rw[Eh];exact Nat.div_add_mod j z
  refine .rd z len _ b off cap (λj=>(q (j / z)).2.getD (j%z) undef) (λh=>h) hbs hl ?_ ?_ ?_ ?_
  .intro i hi;exact hz _
  .intro j hj;obtain⟨h1,h2,h3⟩:=dm j hj;have:=c0 (j / z) (j%z) h1 h2;rw[h3,hsome _ _ h1 h2]at this;exact this
  .intro j hj;obtain⟨h1,h2,h3⟩:=dm j hj;have hs:=(hq (j / z) h1).2.1;have hlt:j%z<(xk τ (q (j / z)).1).length:=(by rw[hz];exact h2);exact(hs.2 (j%z) ((xk τ (q (j / z)).1)[j%z]) _ (jN hlt) (hsome _ _ h1 h2)).2
  .intro i j y hi hy;unfold fE at hy;rw[hg i hi]at hy;have hj:j<z:=(by rw[<-hz (q i).1];exact(ai6.1 hy).1);have e1:(i*z+j) / z=i:=(by rw[Eh,Nat.mul_add_div hz0,Nat.div_eq_of_lt hj,wN]);have e2:(i*z+j)%z=j:=(by rw[Eh,abB,PZ hj]);simp only[e1,e2];exact((hq i hi).2.1.2 j y _ hy (hsome i j hi hj)).1
theorem aru{t:TypeId}{τ:Ty}{Inv:List (den τ)->Prop}{a:Option Addr}{len cap:Nat}{d:DataW H}{ps:List MemPlace}
  (he:Opn L8 P w base spare held t (λxs:List (den τ)=> [CV.ls τ xs]) Inv) (h:DataW.Trod L8 P w base spare held t (.slice a len cap) d ps):∃xs:List (den τ),Inv xs/\fu w (λ_=>none) (λ_=>False) (.one (.s (.c (.ls τ xs)))) (.slice a len cap):=by
 obtain⟨n,hn⟩:=h;obtain⟨xs,hi,hs⟩:=he _ _ _ hn;refine⟨xs,hi,?_⟩;exact .c (hs.2 0 _ (.slice a len cap) rfl rfl).1
theorem wf_i64(h:(Lit.int .i64 x).wf=true): -9223372036854775808<=x/\x<9223372036854775808:=by
 simp only[Lit.wf,oo,dD]at h;have e1:IntKind.i64.min= -9223372036854775808:=ak
 have e2:IntKind.i64.max=9223372036854775807:=ak
 omega
theorem aK0:MX (λ_=>False) (λ_=>none) []=λ_=>False:=by
 funext b;simp only[MX,iQ];apply propext;constructor
 .rintro(h|⟨k,o,l,hk,_⟩)
  .exact h
  .simp at hk
 .exact λh=>h.elim
theorem qy.law{P:Program}{v:Value}(hA:qy P f args [] (λr' h'=>r'=fQ v/\h'=[])){w:World}{vs:List Value}
  (ha:j4 (fu w (λ_=>none) (λ_=>False)) args vs):
  Calls P f vs.toArray w λe w'=>e=.returned v/\w'.os=w.os/\w'.tape=w.tape/\w'.output=w.output/\w.heap.size<=w'.heap.size∧∀b,b<w.heap.size->w'.heap[b]? =w.heap[b]? :=by
 have hH:fK (λ_=>False) w (λ_=>none) []:=⟨λk o hk=>by simp at hk,λk k' o o' l l' b e1=>by simp at e1,λ_ _=>rfl,λb hb=>λh=>h,λb h=>h.elim⟩;refine(hA (λ_=>False) w (λ_=>none) vs hH (by rw[aK0];exact ha)).mono (λe w' he=> ?_);obtain⟨v',r',h',m',rfl,⟨rfl,rfl⟩,H',iP,hfr,hmt,hid⟩:=he;have:v'=v:=by cases iP with|c h=>cases h;rfl
 subst this;exact⟨rfl,hfr.os,hfr.tape,hfr.output.1,hfr.size,λb hb=>hfr.keep b hb (by rintro⟨k,o,l,hk,_⟩;simp at hk)⟩
theorem qy.below{P:Program}{v:Value}(hA:qy P f args [] (λr' h'=>r'=fQ v/\h'=[])){w:World}{vs:List Value}
  (ha:j4 (fu w (λ_=>none) (λ_=>False)) args vs):Calls P f vs.toArray w λe w'=>e=.returned v/\Below w.heap.size w w':=
 (qy.law hA ha).mono λe w' ⟨h1,h2,h3,h4,h5,h6⟩=>⟨h1,⟨h2,h3,h4,h5,h6⟩⟩
end
theorem kU.below{P:Program}{S:aR}(h:kU P S)(v:S.ps.V){r:S.β}(hF:S.F v=some r)(h0:gY S.ps.objs v.2=[])(h1:gY S.rs.objs (S.g r).2=[]){y:Value}(hy:EB (kQ S.rs.slots (S.g r).1)=fQ y){w:World}{vs:List Value}
  (ha:j4 (fu w (λ_=>none) (λ_=>False)) ((kQ S.ps.slots v.1).map (·.2)) vs):Calls P S.f vs.toArray w λe w'=>e=.returned y/\Below w.heap.size w w':=by
 have:=h.2 v r hF;rw[h0,h1,hy]at this;exact this.below ha
end
end Go.AM
