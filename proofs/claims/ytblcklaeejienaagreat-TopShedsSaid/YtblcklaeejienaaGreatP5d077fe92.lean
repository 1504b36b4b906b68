/- Plans and the log: the law EvacplanLog. -/
import Derived.KernelRfl
import Derived.Deep.Slices
import Derived.ChangeArms
import Derived.Below
import Derived.Test.YtblcklaeejienaaGreatP42f297c5c
set_option linter.defProp false
set_option linter.unusedSectionVars false
set_option linter.unusedSimpArgs false
set_option linter.unusedVariables false
namespace Go.CP
open Go
variable [Fuel]
section
variable {c:aM} {s:aN} {e:aP} {ts:List bM}
theorem ZO(h:VC c)(hP:qy c e)(ht:s.aZ<=e.aZ/\0<=e.aZ/\e.aZ<=1073741824)(hcnt:s.eP<4096):iB c s e=Af c (bump s e) e:=by have hvalid:Bb c e=true:=((valid_eq (e:=e) h).2).2 ⟨ht.2,hP⟩;unfold iB;rw[hvalid,fV (show¬4096<=s.eP by omega),fV (show¬e.aZ<s.aZ by omega)];rfl
theorem aGn(h:VC c)(k:e.aL=2)(t:d9 c e)(ce:fI c e)(o:e.dh= -1)(ep:1<=e.bP/\e.bP<=1048576)(w:0<=e.From/\e.From<=1073741824/\0<=e.bY/\e.bY<=1073741824)(n:iq c e)(ht:s.aZ<=e.aZ/\0<=e.aZ/\e.aZ<=1073741824)(hcnt:s.eP<4096)
  (pl:(aO s e.aI).dZ=true) (sb:e.aJ=(aO s e.aI).bB) (nh:e.aJ≠(aO s e.aI).bL) (md:(dw s e.aJ).ig=1) (e1:e.bP=(aO s e.aI).bP+1) (v1:e.N=(dw s e.aJ).fZ) (v2:(dw s e.aJ).fZ=(dw s e.aJ).iY)
  (w1:e.aZ<=e.From) (w2:e.From<=e.aZ+c.iQ) (w3:e.From<e.bY) (w4:e.bY-e.From<=c.iQ) (w5:(aO s e.aI).dV.bY<=e.aZ)
  (fit:pQ c (gX (bump s e) e.aI (wH (aO s e.aI) e))=[]):iB c s e=(gX (bump s e) e.aI (wH (aO s e.aI) e),0):=by
 rw[ZO h (.grant k t ce o ep w n) ht hcnt];unfold Af;rw[k];show AZ c (bump s e) e=_;unfold AZ;have t0:aO (bump s e) e.aI=aO s e.aI:=rfl;have c0:dw (bump s e) e.aJ=dw s e.aJ:=rfl;have b1:(!(aO s e.aI).dZ||((aO s e.aI).fC&&(e.aJ !=(aO s e.aI).bB)))=false:=by rw[pl,sb];simp
 have b2:(((e.aJ !=(aO s e.aI).bL)&&(e.aJ !=(aO s e.aI).bB))&&(e.aJ !=(aO s e.aI).dN))=false:=by rw[<-sb];simp
 have hg:AR c (bump s e) e=0:=by
  unfold AR;have hn:(e.aJ==(aO s e.aI).bL)=false:=aD nh
  simp only[t0,c0,hn,md,jQ,l6,nu,kW];rw[show((1:Int)==3)=false from rfl,show((1:Int)==2)=false from rfl];have a1:(e.bP !=(aO s e.aI).bP+1)=false:=by rw[e1];simp
  have a2:((e.N !=(dw s e.aJ).fZ)||((dw s e.aJ).fZ !=(dw s e.aJ).iY))=false:=by rw[v1,v2];simp
  rw[a1,a2];rw[fV ah,fV ah,fV ah,fV ah,fV (show¬e.From<(aO s e.aI).dV.bY by omega),fV (show¬e.aZ<(aO s e.aI).dV.bY by omega)];rfl
 simp only[t0];rw[b1,b2,hg];show nP c _=_;rw[arI fit]
def Am(bS i:Int):aP:={aL:=8,aZ:=bS,aI:=i,aJ:=(-1),dh:=(-1),bP:=0,From:=0,bY:=0,N:=1}
theorem aIR(h:VC c){bS i:Int}(hi:0<=i/\i<(c.aH.length:Int))(ht:s.aZ<=bS/\0<=bS/\bS<=1073741824)(hcnt:s.eP<4096)(hpl:(aO s i).dZ=true)(hsh:(aO s i).fC=false)(hw:(aO s i).dV.bY<=bS):
  iB c s (Am bS i)=(gX (bump s (Am bS i)) i {aO s i with fC:=true,dN:= -1},0):=by
 rw[ZO (e:=Am bS i) h (.shed rfl hi rfl rfl ⟨rfl,rfl,rfl⟩ (.inr rfl)) ht hcnt];have ek:Af c (bump s (Am bS i)) (Am bS i)=Bo c (bump s (Am bS i)) (Am bS i):=by unfold Af;rfl
 rw[ek];unfold Bo;have e0:aO (bump s (Am bS i)) (Am bS i).aI=aO s i:=rfl;have b3:decide ((Am bS i).aZ<(aO s i).dV.bY)=false:=fV (by show¬bS<_;omega);dsimp only;rw[e0,hpl,hsh,b3];rfl
def EI(s:aN):Prop:=∀t∈s.aH,t.bP<=s.eP
theorem Ee(h:EI s){t:bM}(ht:t.bP<=s.eP+1):EI (gX (bump s e) e.aI t):=by
 intro x hx;show x.bP<=s.eP+1;rcases Gs hx with q|q
 .have:=h x q;omega
 .rw[q];exact ht
theorem Jc(h:EI s){s':aN}(h1:s'.aH=s.aH)(h2:s'.eP=s.eP+1):EI s':=by intro x hx;rw[h1]at hx;have:=h x hx;omega
theorem aJY(h:VC c)(hI:Inv c s)(hE:EI s){s':aN}(hs:Step c s e s'):EI s':=by
 have hat:∀(t:d9 c e),(aO s e.aI).bP<=s.eP:=by intro t;have:=hI.vs.tl;unfold d9 at t;exact hE _ (jw (xs:=s.aH) (i:=e.aI.toNat) ah)
 cases hs with
 |place k t ce o np m1 m2 f1 f2 y1 y2 fit=>exact Ee hE (by have:=hat t;show(aO s e.aI).bP<=_;omega)
 |grant k t ce ep w n pl sh cl m1 m2 eq v1 v2 w1 w2 w3 w4 w5 w6 fit=>
  refine Ee hE ?_;have:=hat t;have he:(wH (aO s e.aI) e).bP=e.bP:=by unfold wH;cases (e.aJ==(aO s e.aI).bL)<;>cases (e.aJ==(aO s e.aI).bB)<;>rfl
  rw[he];rcases eq with q|q<;>omega
 |cut k t pl ep ep1=>exact Ee hE (by have:=hat t;show(aO s e.aI).bP<=_;omega)
 |aaD k t ce pl fit=>exact Ee hE (by have:=hat t;show(aO s e.aI).bP<=_;omega)
 |jB k t ce pl n1 n2 n3 m1 f1 y1 t1 t2 fit=>exact Ee hE (by have:=hat t;show(aO s e.aI).bP<=_;omega)
 |ready k t ce pl n1 m1=>exact Ee hE (by have:=hat t;show(aO s e.aI).bP<=_;omega)
 |migrate k t ce pl sh tg n1 n2 n3 m1 f1 y1 t1 t2 fit=>exact Ee hE (by have:=hat t;show(aO s e.aI).bP<=_;omega)
 |abandon k t pl tg=>exact Ee hE (by have:=hat t;show(aO s e.aI).bP<=_;omega)
 |shed k t n pl sh w=>exact Ee hE (by have:=hat t;show(aO s e.aI).bP<=_;omega)
 |back k t n sh m1 fit=>exact Ee hE (by have:=hat t;show(aO s e.aI).bP<=_;omega)
 |mode k ce n m1=>exact Jc hE rfl rfl
 |want k ce n n1 v1 v2 f=>exact Jc hE rfl rfl
 |runs k ce n n1 n2 f w=>exact Jc hE rfl rfl
 |prove k n n1 b=>exact Jc hE rfl rfl
 |mM k o n n1=>exact Jc hE rfl rfl
 |expand k h1 h2 h3=>exact Jc hE rfl rfl
 |contract k h1=>exact Jc hE rfl rfl
 |note k=>exact Jc hE rfl rfl
theorem aKV:EI (newS c):=by intro t ht;have:t=uU:=Li ht;rw[this];exact jh _
theorem aLr(h:VC c)(l:List aP):∀s,Inv c s->EI s->yJ c s l->EI (yD c s l):=by induction l with|nil=>intro s _ hN _;exact hN|cons e l ih=>intro s hI hN ho;exact ih _ (ahC h hI ho.1) (aJY h hI hN (ZP h ho.1).2.2.2) ho.2
theorem RS.ei(h:VC c)(hr:RS c s):EI s:=by obtain⟨o,q⟩:=hr;rw[<-q.run];exact aLr h o _ (Vd h) aKV q.ok
structure Alike(a b:bM):Prop where
 pl:a.dZ=b.dZ
 sh:a.fC=b.fC
 ho:a.bL=b.bL
 sb:a.bB=b.bB
 nx:a.Next=b.Next
 tg:a.dN=b.dN
theorem Alike.dl{a b:bM}(h:Alike a b)(d:iG)(j:Nat):dl a d j=dl b d j:=by unfold CP.dl;rw[h.pl,h.sh,h.ho,h.sb,h.nx,h.tg]
structure aP3(c:aM)(s:aN)(ts:List bM)(now:aN)(bS:Int)(n:Nat):Prop where
 inv:Inv c now
 ei:EI now
 len:now.aH.length=ts.length
 al:∀i,i<ts.length->Alike (now.aH.getD i aG) (ts.getD i aG)
 cl:now.aK=s.aK
 cnt:now.eP=s.eP+n
 tk:now.aZ<=bS
 win:∀i,i<ts.length->(now.aH.getD i aG).dV.bY<=bS+1
 lim:bS<=3000000+n
theorem aoF{a b:List bM}{j:Nat}:∀n,(∀i,i<n->Alike (a.getD i aG) (b.getD i aG))->qW c a j n=qW c b j n
 |0,_=>rfl
 |n+1,h=>by rw[qW,qW,aoF n (λi hi=>h i ah),(h n ah).dl]
theorem an2{x:bM}{i:Int}(hi:i.toNat<s.aH.length:=by omega):(gX (bump s e) i x).aH.getD i.toNat aG=x:=pY hi
theorem an3{x:bM}{i:Int}{j:Nat}(hj:i.toNat≠j):(gX (bump s e) i x).aH.getD j aG=s.aH.getD j aG:=by show(s.aH.set i.toNat x).getD j aG=_;simp[fD,xU,hj]
end
section
variable {c:aM} {s:aN} {ts:List bM}
structure aMp(c:aM)(s:aN)(mv:List Int)(ts:List bM)(now:aN)(t:Int):Prop where
 inv:Inv c now
 len:now.aH.length=ts.length
 al:∀i,i<ts.length->Alike (now.aH.getD i aG) (ts.getD i aG)
 cl:now.aK=s.aK
 cnt:now.eP=s.eP+(mv.length:Nat)
 tk:now.aZ<=t
 kp:∀i,0<=i->i ∉ mv->aO now i=aO s i
theorem aHo{now:aN}(hlen:now.aH.length=ts.length)(al:∀i,i<ts.length->Alike (now.aH.getD i aG) (ts.getD i aG))(hcap:Cw c s ts):pQ c now=[]:=by rw[O8];intro j hj;have h:=hcap j hj;rw[abn hj]at h;rw[hlen];exact wR (Int.le_of_eq (aoF _ al)) h
end
def yI(bS j:Int):aP:={aL:=9,aZ:=bS,aI:= -1,aJ:=j,dh:= -1,bP:=0,From:=0,bY:=0,N:=3}
def tZ(bS r:Int):aP:={aL:=13,aZ:=bS,aI:= -1,aJ:= -1,dh:=r,bP:=0,From:=0,bY:=0,N:=1}
section
variable {c:aM} {s s':aN} {e:aP}
theorem aIQ(h:VC c){j bS:Int}(hj:0<=j/\j<(c.aK.length:Int))(ht:s.aZ<=bS/\0<=bS/\bS<=1073741824)(hcnt:s.eP<4096)(hm:(dw s j).ig≠3):
  iB c s (yI bS j)=(tV (bump s (yI bS j)) j {dw s j with ig:=3,qd:=bS},0):=by
 rw[ZO (e:=yI bS j) h (.mode rfl rfl hj rfl ⟨rfl,rfl,rfl⟩ ⟨by show(1:Int)<=3;omega,by show(3:Int)<=3;omega⟩) ht hcnt];show Ey (bump s (yI bS j)) (yI bS j)=_;unfold Ey;rw[show((dw (bump s (yI bS j)) (yI bS j).aJ).ig==(yI bS j).N)=false from sG.2 hm];rfl
theorem apy(h:VC c){r bS:Int}(hr:0<=r/\r<c.gK)(ht:s.aZ<=bS/\0<=bS/\bS<=1073741824)(hcnt:s.eP<4096)(hb:hasB s.eH r=false):
  iB c s (tZ bS r)=({bump s (tZ bS r)with eH:=wm .i64 s.eH (iL .i64 1 (IntKind.u64.wrap r))},0):=by
 rw[ZO (e:=tZ bS r) h (.mM rfl rfl rfl hr ⟨rfl,rfl,rfl⟩ (.inr rfl)) ht hcnt];show Eu (bump s (tZ bS r)) (tZ bS r)=_;unfold Eu;rw[show hasB (bump s (tZ bS r)).eH (tZ bS r).dh=false from hb];rfl
theorem aJL:∀(a:Fin 8) (r q:Fin 3),hasB (wm .i64 (a.1:Int) (iL .i64 1 (IntKind.u64.wrap (r.1:Int)))) (q.1:Int)=if q=r then !hasB (a.1:Int) (q.1:Int)else hasB (a.1:Int) (q.1:Int):=by decide+kernel
theorem ari{a r q:Int}(ha:0<=a/\a<8)(hr:0<=r/\r<3)(hq:0<=q/\q<3):hasB (wm .i64 a (iL .i64 1 (IntKind.u64.wrap r))) q=if q=r then !hasB a q else hasB a q:=by
 have:=aJL ⟨a.toNat,ah⟩ ⟨r.toNat,ah⟩ ⟨q.toNat,ah⟩;simp only[show((a.toNat:Nat):Int)=a by omega,show((r.toNat:Nat):Int)=r by omega,show((q.toNat:Nat):Int)=q by omega,Fin.mk.injEq]at this;rw[this];by_cases w:q=r
 .rw[bW w,bW ah]
 .rw[dn w,dn ah]
end
section
variable {p:List Int}
theorem rm{n:Nat}(h:n<=140737488355328:=by omega):n<=room:=h
theorem xZ(x:Int):0<=IntKind.u64.wrap x/\IntKind.u64.wrap x<18446744073709551616:=by simp only[IntKind.wrap,IntKind.signed,IntKind.bits,nu,nH,mJ,show(2:Int)^64=18446744073709551616 from rfl];omega
theorem aH8(hp:p.length<=1000000):ZN p 10=some p:=by unfold ZN;rw[bI (x:=(p.length:Int)+10) ah ah];rw[gU (by exact dT ⟨ah,ah,ah,ah⟩),gU (dT (rm ay))];rfl
theorem ar5:∀(k m:Nat) (p:List Int) (x:Int),0<=x->x<128^(k+1)->k<m->p.length+k<=2000000->k<=20->Ok (OG m p x) (λr=>r.length<=p.length+(k+1))
 |_,0,_,_,_,_,hm,_,_=>absurd hm (kJ _)
 |0,m+1,p,x,h0,h1,_,hp,_=>by rw[OG,fAZ,gU (dT (rm ay))];exact Ok.some aj
 |k+1,m+1,p,x,h0,h1,hm,hp,hk=>by
  rw[OG];refine Ok.cond (λh=> ?_) (λ_=> ?_)
  .refine Ok.bq (dT (rm ay)) ?_;have e:iJ .u64 x 7=x / 128:=(by unfold iJ;rw[show(min (7:Int).toNat IntKind.u64.bits)=7 from rfl,show(2:Int)^7=128 from rfl,asu _ ah]);rw[e];have hx:x / 128<128^(k+1):=(by rw[Int.pow_succ]at h1;omega);exact(ar5 k m _ _ ah hx ah ay ah).mono λr hr=>by simp at hr;omega
  .exact Ok.bq (dT (rm ay)) (Ok.some aj)
theorem aJS(v:Int):Ok (aam v) (λr=>0<=r/\r<18446744073709551616):=by unfold aam;exact Ok.cond (λ_=>Ok.some (xZ _)) (λ_=>Ok.some (xZ _))
theorem Cq(v:Int)(hp:p.length<=1000000):Ok (qK p v) (λr=>r.length<=p.length+10):=by
 unfold qK;rw[aH8 hp,bF];unfold ahV;refine Ok.bind (P:=λr=>r.length<=p.length+10) (Ok.bind (aJS v) λx hx=> ?_) λr hr=>Ok.some hr;refine ar5 9 fuel p x hx.1 ?_ aB ah ah;have:(128:Int)^(9+1)=1180591620717411303424:=ak
 omega
theorem aqJ(hp:p.length<=20):Ok (Ow p) (λr=>r.length<=10*p.length):=by
 unfold Ow;refine jX (L:=λm x k=>NY p (p.length:Int) m x k) p.length ah (λk x=>x.length<=10*k) aj (λm k x hk hI hn=> ?_) (λm x hI=> ?_)
 .rw[NY,eFZ,dJZ];refine Ok.bind (Cq _ ah) λy hy=> ?_;rw[bIZ];exact hn y ah
 .rw[NY,fAZ];exact Ok.some hI
theorem aoT(hp:p.length<=1000000)(x:Int):Ok (UD x p) (λ_=>True):=by
 unfold UD OJ;rw[bF];refine Ok.bind (P:=λ_=>True) ?_ (λr _=>Ok.some trivial);unfold agi;refine jX (L:=λm y k=>NT p p (p.length:Int) m y k) p.length ah (λk y=>True) trivial (λm k y hk hI hn=> ?_) (λm y hI=> ?_)
 .rw[NT,eFZ,dJZ];unfold OJ;rw[bF,bIZ];exact hn _ trivial
 .rw[NT,fAZ];exact Ok.some trivial
theorem VG{p:List Int}(hp:p.length<=60000):Ok (aad [] 8 p) (λr=>r.length<=p.length+18):=by
 unfold aad;rw[fAZ];refine Ok.bind (Cq _ aj) λy hy=>Ok.bind (aoT ah _) λz _=> ?_;refine aii (L:=λm (x:List Int×Int) k=>IU p m x.1 x.2 k) 8 (λk x=>x.1.length<=10+k) (λm k x hk hI hn=> ?_) (λm x hI=> ?_) fuel 0 (y,z) ah aB (aD hy)
 .show Ok (IU p (m+1) x.1 x.2 _) _;rw[IU,eFZ,gU (dT (rm ay)),bIZ];exact hn (x.1++ [IntKind.u8.wrap x.2],iJ .u64 x.2 8) ay
 .show Ok (IU p (m+1) x.1 x.2 _) _;rw[IU,fAZ,gU (dT (rm))];exact Ok.some ay
theorem aIU(e:aP):Ok (Zu e) (λr=>r.length<=90):=by unfold Zu;show Ok ((qK [] e.aL).bind λx1=>(qK x1 e.aZ).bind λx2=>(qK x2 e.aI).bind λx3=>(qK x3 e.aJ).bind λx4=>(qK x4 e.dh).bind λx5=>(qK x5 e.bP).bind λx6=>(qK x6 e.From).bind λx7=>(qK x7 e.bY).bind λx8=>(qK x8 e.N).bind λx9=>some x9) _;refine Ok.bind (Cq _ aj) λx1 h1=>Ok.bind (Cq _ (by simp at h1;omega)) λx2 h2=>Ok.bind (Cq _ (by simp at h1;omega)) λx3 h3=>Ok.bind (Cq _ (by simp at h1;omega)) λx4 h4=>Ok.bind (Cq _ (by simp at h1;omega)) λx5 h5=>Ok.bind (Cq _ (by simp at h1;omega)) λx6 h6=>Ok.bind (Cq _ (by simp at h1;omega)) λx7 h7=>Ok.bind (Cq _ (by simp at h1;omega)) λx8 h8=>Ok.bind (Cq _ (by simp at h1;omega)) λx9 h9=>Ok.some (by simp at h1;omega)
structure oI(d:bQ)(b:Nat):Prop where
 lo:0<=d.qL
 hi:d.qL<=(d.data.length:Int)
 ln:d.data.length<=b
theorem oI.up{d:bQ}{b b':Nat}(h:oI d b)(hb:b<=b'):oI d b':=⟨h.lo,h.hi,vv h.ln hb⟩
theorem aqo{j:fT}{b:Nat}{r:List Int}(h:oI j.bX b)(hb:b<=1000000000)(hr:r.length<=150:=by omega):
  Ok (Nc j r) (λj'=>∃d,j'={j with bX:=d}/\oI d (b+170)):=by
 unfold Nc afE;have hd:=h.ln;refine Ok.bind (VG ah) λy hy=> ?_;rw[fQ,gU (dT (rm)),bF];exact Ok.some ⟨_,rfl,h.lo,by have:=h.hi;show j.bX.qL<=((j.bX.data++y).length:Int);simp;omega,by show(j.bX.data++y).length<=_;simp;omega⟩
theorem aaY{j:fT}{b:Nat}(h:oI j.bX b):Ok (Nn j) (λj'=>∃d,j'={j with bX:=d}/\oI d b):=by unfold Nn af2;rw[bF];exact Ok.some ⟨_,rfl,by show(0:Int)<=(j.bX.data.length:Int);omega,jh _,h.ln⟩
end
abbrev LG:=List cO
def nA(l:LG)(i:Int):Int:=if 0<=i/\i<(l.length:Int)then(l.getD i.toNat aG).iA else 0
theorem aKL{l:LG}{i:Int}(h:i<0\/(l.length:Int)<=i):nA l i=0:=by unfold nA;rw[dn ah]
theorem arb{l r:LG}{i:Int}(h:i<(l.length:Int):=by omega):nA (l++r) i=nA l i:=by
 unfold nA;by_cases h0:0<=i
 .rw[bW ⟨h0,ay⟩,bW ⟨h0,h⟩];congr 1;rw[fD,fD,p9 ah]
 .rw[dn ah,dn ah]
theorem aJE{l:LG}{x:cO}:nA (l++ [x]) (l.length:Int)=x.iA:=by unfold nA;rw[bW ⟨ah,ay⟩];simp
theorem Eo(j:fT)(i:Int):zf j i=some (nA j.bT i):=by
 unfold zf FI nA;by_cases h:0<=i/\i<(j.bT.length:Int)
 .rw[dF (show¬i<0 by omega),dF (show¬(j.bT.length:Int)<=i by omega),bW h];simp only[qc,aX];rw[dJ h.1 h.2];rfl
 .rw[dn h];by_cases h1:i<0
  .rw[dT h1];rfl
  .rw[dT (show(j.bT.length:Int)<=i by omega)];simp
theorem ah8(r:bn)(hl:r.aR.bT.length<=1000000){i:Int}(hi:0<=i):Fy r i=some (r.aR.bT.drop i.toNat):=by
 unfold Fy;refine o8 ?_;have key:∀(m:Nat) (i:Nat) (acc:LG),r.aR.bT.length-i<m->acc.length<=i->Ok (MV r m (i:Int) acc) (λx=>x=acc++r.aR.bT.drop i):=by intro m;induction m with
  |zero=>intro i acc h;omega
  |succ m ih=>
   intro i acc h ha;rw[MV];unfold nC xH;rw[bF,bF];by_cases hi:i<r.aR.bT.length
   .rw[eFZ];unfold Ns FI;rw[dF (show¬(i:Int)<0 by omega),dF (show¬(r.aR.bT.length:Int)<=(i:Int)by omega)];simp only[qc,aX];rw[dJZ,bF,bF,gU (dT (rm ay)),bIZ];have:=ih (i+1) (acc++ [r.aR.bT.getD i aG]) ah ay;rw[show((i+1:Nat):Int)=(i:Int)+1 by omega]at this;refine this.mono λx hx=> ?_;rw[hx,rH];congr 1;rw[D9 hi];simp[fD,hi]
   .rw[fAZ];exact Ok.some (by rw[Pt ah,nE])
 have:=key fuel i.toNat [] aB aj;rw[show((i.toNat:Nat):Int)=i by omega]at this;simpa using this
theorem ZH{r:bn}{b:Nat}{t v:Int}(h:oI r.aR.bX b)(hb:b<=1000000)(ht:0<=t/\t<=1073741824)(hv: -1<=v/\v<5)
  (hc:r.aR.gJ<t\/(r.aR.gJ=t/\(r.aR.iR= -1\/r.aR.iR=v)):=by omega):
  Ok (MZ r t v) (λr'=>∃d,r'={r with aR:={bX:=d,gJ:=t,iR:=v,bT:=r.aR.bT}}/\oI d (b+170)):=by
 unfold MZ aeh RN;rw[dF (show¬t<0 by omega),dF (show¬1073741824<t by omega),dF (show¬v< -1 by omega),dF (show¬5<=v by omega),dF (show¬t<r.aR.gJ by omega)];simp only[qc,kW,aX];have e:((t==r.aR.gJ&&r.aR.iR != -1)&&r.aR.iR !=v)=false:=by
  rcases hc with hc|⟨h1,h2|h2⟩
  .rw[show(t==r.aR.gJ)=false by rw[sG];omega];rfl
  .rw[h2];simp
  .rw[h2];simp
 rw[e];simp only[aX,bF,jT];refine Ok.bind (P:=λx=>∃d,x=(0,{bX:=d,gJ:=t,iR:=v,bT:=r.aR.bT})/\oI d (b+170)) (Ok.bind (aqJ aj) λy hy=>Ok.bind (aqo (j:={r.aR with gJ:=t,iR:=v}) h ah (by simp at hy;omega)) λz hz=> ?_) λx hx=> ?_
 .obtain⟨d,rfl,hd⟩:=hz;exact Ok.some ⟨d,rfl,hd⟩
 .obtain⟨d,rfl,hd⟩:=hx;refine Ok.bind (aaY (j:={bX:=d,gJ:=t,iR:=v,bT:=r.aR.bT}) hd) λz hz=> ?_;obtain⟨d',rfl,hd'⟩:=hz;exact Ok.some ⟨d',rfl,hd'⟩
def lastT(l:LG):Int:=nA l ((l.length:Int)-1)
theorem ag0{j:fT}{b:Nat}{t:Int}{e:aP}(h:oI j.bX b)(hb:b<=1000000)(ht:1<=t/\t<=1073741824)(hs:rY e=some true)(h1:t<=j.gJ)(h2:lastT j.bT<=t)(hl:j.bT.length<4096):
  Ok (R3 j t e) (λx=>∃d,x=(0,{j with bX:=d,bT:=j.bT++ [⟨t,e⟩]})/\oI d (b+170)):=by
 unfold R3 Sm;rw[dF (show¬t<1 by omega),dF (show¬1073741824<t by omega),dF (show¬j.gJ<t by omega)];simp only[qc,kW,jQ,aY,hs,bF,gI,aX];rw[bIZ,Eo,bF,dF (show¬t<nA j.bT ((j.bT.length:Int)-1)from by unfold lastT at h2;omega),fAZ,aX,gU (dT (rm ay)),bF];simp only[jT,aX];refine Ok.bind (aqJ aj) λy hy=>Ok.bind (aIU e) λz hz=> ?_;simp at hy;rw[gU (dT (rm))];refine Ok.bind (aqo (j:={j with bT:=j.bT++ [⟨t,e⟩]}) h ah ay) λw hw=> ?_;obtain⟨d,rfl,hd⟩:=hw;exact Ok.some ⟨d,rfl,hd⟩
def gA(a:uX):Nat->Int
 |0=>a.e0
 |1=>a.e1
 |2=>a.e2
 |_=>0
def sA(a:uX)(v:Int):Nat->uX
 |0=>{a with e0:=v}
 |1=>{a with e1:=v}
 |2=>{a with e2:=v}
 |_=>a
theorem VA(a:uX)(v:Int){k i:Nat}(hk:k<3):gA (sA a v k) i=if i=k then v else gA a i:=by
 have:k=0\/k=1\/k=2:=ah
 rcases this with rfl|rfl|rfl<;>rcases i with _|_|_|i<;>simp[gA,sA]
def wZ(r:bn)(k:Nat):bJ:=
 {aL:=3,From:=r.id,To:=(k:Int),iA:=r.aR.gJ,gQ:=gA r.next k,lZ:=nA r.aR.bT (gA r.next k-1),qO:=r.fK,OK:=false,nk:=r.aR.bT.drop (gA r.next k).toNat}
theorem agc{r:bn}{k:Nat}(hk:k<3)(hl:r.aR.bT.length<=1000000)(hn:0<=gA r.next k/\gA r.next k<=1000000:=by omega):H9 r (k:Int)=some (wZ r k):=by
 unfold H9 yK jl pG;simp only[bF];have:k=0\/k=1\/k=2:=ah
 rcases this with rfl|rfl|rfl<;>simp only[show(((0:Nat):Int)==4)=false from rfl,show(((0:Nat):Int)==3)=false from rfl,show(((0:Nat):Int)==2)=false from rfl,show(((0:Nat):Int)==1)=false from rfl,show(((0:Nat):Int)==0)=true from rfl,show(((1:Nat):Int)==4)=false from rfl,show(((1:Nat):Int)==3)=false from rfl,show(((1:Nat):Int)==2)=false from rfl,show(((1:Nat):Int)==1)=true from rfl,show(((2:Nat):Int)==4)=false from rfl,show(((2:Nat):Int)==3)=false from rfl,show(((2:Nat):Int)==2)=true from rfl,aY,aX]<;>
 .unfold H6;simp only[gA]at hn;simp only[Eo,bF];rw[ah8 r hl hn.1,bIZ];rfl
def Fa:Nat->List Nat
 |0=> [1,2]
 |1=> [0,2]
 |_=> [0,1]
theorem aqm{r:bn}{i:Nat}(hi:i<3)(hid:r.id=(i:Int))(hn:r.n=3)(hl:r.aR.bT.length<=1000000)(hx:∀k,k<3->0<=gA r.next k/\gA r.next k<=1000000):
  BK r=some ((Fa i).map (wZ r)):=by
 unfold BK;rw[hn];obtain⟨f,hf⟩:∃f,fuel=f+4:=⟨18446744073709551612,by rw[iP]⟩;rw[hf];have a0:=agc (r:=r) (k:=0) ah hl (hx 0 ah);have a1:=agc (r:=r) (k:=1) ah hl (hx 1 ah);have a2:=agc (r:=r) (k:=2) ah hl (hx 2 ah);have:i=0\/i=1\/i=2:=ah
 rcases this with rfl|rfl|rfl<;>
  simp only[HY,MJ,hid,eF (show(0:Int)<3 by omega),show aQ (0+1)=1 from rfl,show aQ (1+1)=2 from rfl,show aQ (2+1)=3 from rfl,eF (show(1:Int)<3 by omega),eF (show(2:Int)<3 by omega),fA (show¬(3:Int)<3 by omega),
   show(((0:Nat):Int))=0 from rfl,show(((1:Nat):Int))=1 from rfl,show(((2:Nat):Int))=2 from rfl]at a0 a1 a2⊢<;>
  simp[a0,a1,a2,bq,Fa,room]
def JO(r:bn)(k:Nat)(m:Int):Bool:=(((k:Int) !=r.id)&&decide (m<=gA r.gH k))
def Qj(r:bn)(m:Int):Bool:=JO r 0 m||JO r 1 m||JO r 2 m
theorem arx{r:bn}{rc:Int->Option bn}{m:Int}(hn:r.n=3):BL rc m r.n r fuel 1 0=(bif Qj r m then some {r with fK:=m}else rc (aQ (m-1))):=by
 obtain⟨f,hf⟩:∃f,fuel=f+4:=⟨18446744073709551612,by rw[iP]⟩;rw[hf,hn];unfold Qj JO
 simp only[BL,Ia,Rq,Rp,eF (show(0:Int)<3 by omega),show aQ (0+1)=1 from rfl,show aQ (1+1)=2 from rfl,show aQ (2+1)=3 from rfl,eF (show(1:Int)<3 by omega),eF (show(2:Int)<3 by omega),fA (show¬(3:Int)<3 by omega),hn,gA,
  show((0:Int)==4)=false from rfl,show((0:Int)==3)=false from rfl,show((0:Int)==2)=false from rfl,show((0:Int)==1)=false from rfl,show((0:Int)==0)=true from rfl,show((1:Int)==4)=false from rfl,show((1:Int)==3)=false from rfl,show((1:Int)==2)=false from rfl,show((1:Int)==1)=true from rfl,show((2:Int)==4)=false from rfl,show((2:Int)==3)=false from rfl,show((2:Int)==2)=true from rfl,aY,aX,
  show(((0:Nat):Int))=0 from rfl,show(((1:Nat):Int))=1 from rfl,show(((2:Nat):Int))=2 from rfl]
 rw[gU (by cases ((0:Int) !=r.id)<;>rfl)]
 cases (((0:Int) !=r.id)&&decide (m<=r.gH.e0))<;>cases (((1:Int) !=r.id)&&decide (m<=r.gH.e1))<;>cases h2:(((2:Int) !=r.id)&&decide (m<=r.gH.e2))<;>
  simp only[aY,aX,gU (show(!((1:Int) !=r.id)||decide ((0:Int)<=1/\(1:Int)<((5:Nat):Int)))=true by cases ((1:Int) !=r.id)<;>rfl),gU (show(!((2:Int) !=r.id)||decide ((0:Int)<=2/\(2:Int)<((5:Nat):Int)))=true by cases ((2:Int) !=r.id)<;>rfl),h2,show aQ (1+1)=2 from rfl,show aQ (2+1)=3 from rfl,show aQ (3+1)=4 from rfl,show aQ (2*1)=2 from rfl,show aQ (2*2)=4 from rfl,show aQ (2*3)=6 from rfl,show aQ (2*4)=8 from rfl,fA (show¬(3:Int)<2 by omega),eF (show(3:Int)<4 by omega),eF (show(3:Int)<6 by omega),eF (show(3:Int)<8 by omega),qc,kW,VK,En]
theorem asZ{r:bn}(hn:r.n=3)(hc:0<=r.fK)(hl:r.aR.bT.length<=1000000)
  (h:∀m:Int,r.fK<m->m<=(r.aR.bT.length:Int)->nA r.aR.bT (m-1)=r.aR.gJ->Qj r m=false):zR r=some r:=by
 unfold zR nC xH;simp only[bF];have key:∀(f:Nat) (m:Int),(m-r.fK).toNat<f->m<=(r.aR.bT.length:Int)->Ib r f m=some r:=by intro f;induction f with
  |zero=>intro m hm;omega
  |succ f ih=>
   intro m hm hml;rw[Ib];by_cases hd:r.fK<m
   .rw[eF hd,bIZ,Eo];unfold jl pG;simp only[bF];by_cases ht:nA r.aR.bT (m-1)=r.aR.gJ
    .rw[ht,jT,aX,arx hn,h m hd hml ht,aX,bIZ];exact ih _ ah ah
    .rw[show(nA r.aR.bT (m-1) !=r.aR.gJ)=true by simpa using ht,aY];unfold Rp;rw[bIZ];exact ih _ ah ah
   .rw[fA hd]
 exact key fuel _ aB (jh _)
theorem aMr{r:bn}(hn:r.n=3)(hc:0<=r.fK)(hl:r.aR.bT.length<=1000000)(h1:r.fK<(r.aR.bT.length:Int))(h2:lastT r.aR.bT=r.aR.gJ)(h3:Qj r (r.aR.bT.length:Int)=true):
  zR r=some {r with fK:=(r.aR.bT.length:Int)}:=by
 unfold zR nC xH;simp only[bF];obtain⟨f,hf⟩:∃f,fuel=f+1:=⟨18446744073709551615,by rw[iP]⟩;unfold lastT at h2;rw[hf,Ib,eF h1,bIZ,Eo];unfold jl pG;simp only[bF];rw[h2,jT,aX,arx hn,h3];rfl
structure PM(r:bn)(m:bJ):Prop where
 to:m.To=r.id
 fr:m.From≠r.id
 f0:0<=m.From
 f1:m.From<r.n
 t0:1<=m.iA
 t1:m.iA<=1073741824
 i0:0<=m.gQ
 i1:m.gQ<=4096
 p0:0<=m.lZ
 p1:m.lZ<=m.iA
 c0:0<=m.qO
 c1:m.qO<=4096
theorem apZ{r:bn}{m:bJ}(h:PM r m):Ig r m=(bif(m.aL==1)then Dn m m.aL (m.aL==1)else(bif(m.aL==2)then Dn m m.aL (m.aL==2)else Dn m m.aL (m.aL==4))):=by unfold Ig;have a:=h.to;have b:=h.fr;have c:=h.f0;have d:=h.f1;have e:=h.t0;have f:=h.t1;have g:=h.i0;have i:=h.i1;have j:=h.p0;have k:=h.p1;have l:=h.c0;have n:=h.c1;rw[show(m.To !=r.id)=false by simpa using a,show(m.From==r.id)=false by simpa using b,dF (show¬m.From<0 by omega),dF (show¬r.n<=m.From by omega),dF (show¬m.iA<1 by omega),dF (show¬1073741824<m.iA by omega),dF (show¬m.gQ<0 by omega),dF (show¬4096<m.gQ by omega),dF (show¬m.lZ<0 by omega),dF (show¬m.iA<m.lZ by omega),dF (show¬m.qO<0 by omega),dF (show¬4096<m.qO by omega)];rfl
theorem aax{r:bn}{m:bJ}(h:PM r m)(k:m.aL=1\/m.aL=2\/m.aL=4):Ig r m=some true:=by rw[apZ h];rcases k with k|k|k<;>rw[k]<;>rfl
theorem aJo{r:bn}{m:bJ}(h:PM r m)(k:m.aL=3)(ha:Nu m=some true):Ig r m=some true:=by rw[apZ h,k];show Dn m 3 false=_;unfold Dn;rw[ha];rfl
theorem aKn{m:bJ}(h0:(m.lZ=0 ↔ m.gQ=0))(h1:0<=m.gQ/\m.gQ<=4000)(hp:m.lZ<=m.iA)(he:m.nk=[]∨∃e,m.nk=[⟨m.iA,e⟩]/\1<=m.iA/\rY e=some true):Nu m=some true:=by
 unfold Nu;obtain⟨f,hf⟩:∃f,fuel=f+2:=⟨18446744073709551614,by rw[iP]⟩;have e1:((m.lZ==0)==(m.gQ==0))=true:=by
  by_cases q:m.gQ=0
  .rw[h0.2 q,q];rfl
  .rw[show(m.lZ==0)=false by simpa using λx=>q (h0.1 x),show(m.gQ==0)=false by simpa using q];rfl
 have hl:m.nk.length<=1:=by rcases he with h|⟨e,h,_⟩<;>rw[h]<;>simp
 rw[e1,bIZ,dF (show¬4096<m.gQ+(m.nk.length:Int)by omega)];simp only[gI,qc,aX];rw[hf];rcases he with h|⟨e,h,ht,hs⟩
 .rw[h,M7];rfl
 .rw[h,M7];simp only[qM];rw[eFZ,dJ ah aj];simp only[show([(⟨m.iA,e⟩:cO)].getD (0:Int).toNat aG)=⟨m.iA,e⟩from rfl,hs,bF,gI,kW];have hmx:jD 1 m.lZ<=m.iA:=by unfold jD;split<;>omega
  rw[dF (show¬m.iA<jD 1 m.lZ by omega),dF (show¬m.iA<m.iA by omega)];simp only[qc,aX];rw[M7,show aQ (0+1)=1 from rfl];rfl
def BD(j i T x:Int):bJ:={aL:=4,From:=j,To:=i,iA:=T,gQ:=x,lZ:=0,qO:=0,OK:=true,nk:=[]}
def Dl(r:bn)(k:Nat):bJ:={aL:=1,From:=r.id,To:=(k:Int),iA:=r.aR.gJ,gQ:=(r.aR.bT.length:Int),lZ:=lastT r.aR.bT,qO:=0,OK:=false,nk:=[]}
def BF(j i T:Int):bJ:={aL:=2,From:=j,To:=i,iA:=T,gQ:=0,lZ:=0,qO:=0,OK:=true,nk:=[]}
theorem aJH{r:bn}{i:Nat}(hi:i<3)(hid:r.id=(i:Int))(hn:r.n=3)(hl:r.aR.bT.length<=1000000):
  MS r=some ((Fa i).map (Dl r)):=by
 unfold MS;rw[hn];obtain⟨f,hf⟩:∃f,fuel=f+4:=⟨18446744073709551612,by rw[iP]⟩;rw[hf];have a:∀k:Nat,J6 (k:Int) r=some (Dl r k):=by intro k;unfold J6 yK jl pG Ic nC xH;simp only[bF,Eo];rw[bIZ];rfl
 have a0:=a 0;have a1:=a 1;have a2:=a 2;have:i=0\/i=1\/i=2:=ah
 rcases this with rfl|rfl|rfl<;>
  simp only[MO,Rk,hid,eF (show(0:Int)<3 by omega),show aQ (0+1)=1 from rfl,show aQ (1+1)=2 from rfl,show aQ (2+1)=3 from rfl,eF (show(1:Int)<3 by omega),eF (show(2:Int)<3 by omega),fA (show¬(3:Int)<3 by omega),
   show(((0:Nat):Int))=0 from rfl,show(((1:Nat):Int))=1 from rfl,show(((2:Nat):Int))=2 from rfl]at a0 a1 a2⊢<;>
  simp[a0,a1,a2,bq,Fa,room]
theorem aLZ{r:bn}{b:Nat}{i j T cm:Int}{L es:LG}(hid:r.id=j)(hn:r.n=3)(hro:r.fO≠3)(qY:r.aR.gJ=T)(wC:r.aR.bT=L)(hd:oI r.aR.bX b)(hb:b<=1000000)
  (hi:0<=i/\i<3/\i≠j) (hT:1<=T/\T<=1073741824) (hL:L.length<=3000) (hcm:0<=cm/\cm<=4096) (hco:r.fK<=(L.length:Int)) (hpos:∀x∈L,1<=x.iA) (hla:lastT L<=T)
  (hes:es=[]∨∃e,es=[⟨T,e⟩]/\rY e=some true):
  Ok (nT r {aL:=3,From:=i,To:=j,iA:=T,gQ:=(L.length:Int),lZ:=lastT L,qO:=cm,OK:=false,nk:=es})
   (λo=>∃d,o=([BD j i T ((L.length+es.length:Nat):Int)],{r with aR:={bX:=d,gJ:=T,iR:=r.aR.iR,bT:=L++es},fO:=1,fK:=jD r.fK (ji cm ((L.length+es.length:Nat):Int))})/\oI d (b+170)):=by
 have hl1:es.length<=1:=by rcases hes with h|⟨e,h,_⟩<;>rw[h]<;>simp
 have hlast:(lastT L=0 ↔ (L.length:Int)=0)/\0<=lastT L:=by
  unfold lastT nA;by_cases q:L=[]
  .subst q;simp
  .have hp:0<L.length:=aiH.2 q;rw[bW ah]
   have:=hpos (L.getD ((L.length:Int)-1).toNat aG) (by
    rw[fD,jR ah]
    exact zo _)
   omega
 unfold nT
 rw[aJo ⟨hid.symm,by rw[hid];exact hi.2.2,hi.1,by rw[hn];exact hi.2.1,hT.1,hT.2,by show(0:Int)<=(L.length:Int);omega,by show(L.length:Int)<=4096;omega,hlast.2,hla,hcm.1,hcm.2⟩ rfl
  (aKn hlast.1 ⟨by show(0:Int)<=(L.length:Int);omega,by show(L.length:Int)<=4000;omega⟩ hla (by
   rcases hes with h|⟨e,h,hs⟩
   .exact .inl h
   .exact .inr ⟨e,h,hT.1,hs⟩))]
 unfold jl pG;simp only[bF,gI,aX,qY];rw[fAZ];unfold Ie adU jl pG nC xH;simp only[bF,qY,wC,show((3:Int)==1)=false from rfl,show((3:Int)==2)=false from rfl,show((3:Int)==3)=true from rfl,aX,aY,show(r.fO==3)=false by simpa using hro];rw[fA (show¬T<T by omega),dF (show¬(L.length:Int)<(L.length:Int)by omega)];simp only[jQ,l6,kW]
 have e2:((bif decide (0<(L.length:Int))then zf r.aR (aQ ((L.length:Int)-1))else some aG).bind λbU=>
   (bif decide (0<(L.length:Int))&&bU !=lastT L then
    (Fu {r with fO:=1} i (ji (L.length:Int) (aQ ((L.length:Int)-1))) false).bind λdG=>some (dG,{r with fO:=1})
   else MK {aL:=3,From:=i,To:=j,iA:=T,gQ:=(L.length:Int),lZ:=lastT L,qO:=cm,OK:=false,nk:=es} {r with fO:=1} fuel 0))=
   MK {aL:=3,From:=i,To:=j,iA:=T,gQ:=(L.length:Int),lZ:=lastT L,qO:=cm,OK:=false,nk:=es} {r with fO:=1} fuel 0:=by
  by_cases q:0<(L.length:Int)
  .rw[dT q,aY,Eo,bF,bIZ,wC];rw[show nA L ((L.length:Int)-1)=lastT L from rfl,jT];rfl
  .rw[dF q,aX,bF];rfl
 have e3:=e2;rw[e3];refine Ok.bind (P:=λo=>∃d,o=([BD j i T ((L.length+es.length:Nat):Int)],{r with aR:={bX:=d,gJ:=T,iR:=r.aR.iR,bT:=L++es},fO:=1,fK:=jD r.fK (ji cm ((L.length+es.length:Nat):Int))})/\oI d (b+170)) ?_ (λo ho=>by obtain⟨d,rfl,hd⟩:=ho;exact Ok.some ⟨d,rfl,hd⟩);obtain⟨f,hf⟩:∃f,fuel=f+2:=⟨18446744073709551614,by rw[iP]⟩;rw[hf,MK];rcases hes with h|⟨e,h,hs⟩
 .subst h;simp only[xW,show decide ((0:Int)<((0:Nat):Int))=false from rfl,aX,bF,nu];rw[aby (by intro h;cases h)];unfold Ri Fu yK jl pG;simp only[bF,xW,qY,hid];rw[bIZ];refine Ok.some ⟨r.aR.bX,?_,hd.up ah⟩;rw[nE,<-wC];simp[BD,qY,nE];rw[<-qY]
 .subst h;simp only[qM,show decide ((0:Int)<((1:Nat):Int))=true from rfl,aY,l6];rw[Eo,bF,VE ⟨ah,aj⟩];simp only[show([(⟨T,e⟩:cO)].getD (0:Int).toNat aG)=⟨T,e⟩from rfl];rw[bIZ,wC,aKL (.inr ah),show((0:Int)==T)=false by rw[sG];omega,aX];rw[fA (by show¬(L.length:Int)+0<r.fK;omega),gU (dT aj)];unfold aep nC xH;simp only[bF,wC];rw[fAZ];unfold XK;refine Ok.bind (P:=λx=>∃d,x={r with aR:={bX:=d,gJ:=T,iR:=r.aR.iR,bT:=L++ [⟨T,e⟩]},fO:=1}/\oI d (b+170)) ?_ (λx hx=> ?_)
  .simp only[show([(⟨T,e⟩:cO)].drop (0:Int).toNat)=[⟨T,e⟩]from rfl,qM];rw[hf,Rs,eFZ,dJ ah aj];simp only[show([(⟨T,e⟩:cO)].getD (0:Int).toNat aG)=⟨T,e⟩from rfl];refine Ok.bind (ag0 (j:=r.aR) hd hb hT hs (by rw[qY];omega) (by rw[wC];exact hla) (by rw[wC];omega)) λx hx=> ?_;obtain⟨d,rfl,hd'⟩:=hx;rw[show aQ (0+1)=1 from rfl,Rs,fAZ];refine Ok.bind (aaY (j:={r.aR with bX:=d,bT:=r.aR.bT++ [⟨T,e⟩]}) hd') λx hx=> ?_;obtain⟨d',rfl,hd''⟩:=hx;exact Ok.some ⟨d',by rw[wC,<-qY],hd''⟩
  .obtain⟨d,rfl,hd'⟩:=hx;unfold Ri Fu yK jl pG;simp only[bF,qM,qY,hid];rw[bIZ];refine Ok.some ⟨d,?_,hd'⟩;simp only[BD,qY];rfl
theorem aL0{r:bn}{k:Nat}{i T x:Int}(hid:r.id=i)(hn:r.n=3)(hro:r.fO=3)(qY:r.aR.gJ=T)(hk:k<3)(hki:(k:Int)≠i)(hT:1<=T/\T<=1073741824)(hx:0<=x/\x<=(r.aR.bT.length:Int))(hl:r.aR.bT.length<=4000):
  nT r (BD (k:Int) i T x)=(zR {r with gH:=sA r.gH (jD (gA r.gH k) x) k,next:=sA r.next (jD (gA r.gH k) x) k}).bind λr'=>some ([],r'):=by
 unfold BD nT;rw[aax ⟨hid.symm,by rw[hid];exact hki,by show(0:Int)<=(k:Int);omega,by rw[hn];show(k:Int)<3;omega,hT.1,hT.2,hx.1,by show x<=4096;omega,by show(0:Int)<=0;omega,by show(0:Int)<=T;omega,by show(0:Int)<=0;omega,by show(0:Int)<=4096;omega⟩ (.inr (.inr rfl))];unfold jl pG;simp only[bF,gI,aX,qY];rw[fA (by show¬T<T;omega)];unfold Ie adV jl pG nC xH;simp only[bF,qY,hro,show((4:Int)==1)=false from rfl,show((4:Int)==2)=false from rfl,show((4:Int)==3)=false from rfl,show((4:Int)==4)=true from rfl,aX,aY,show((3:Int) !=3)=false from rfl,jQ,jT,kW,gI];rw[eF hx.2];have:k=0\/k=1\/k=2:=ah
 rcases this with rfl|rfl|rfl<;>
  simp only[show(((0:Nat):Int)==4)=false from rfl,show(((0:Nat):Int)==3)=false from rfl,show(((0:Nat):Int)==2)=false from rfl,show(((0:Nat):Int)==1)=false from rfl,show(((0:Nat):Int)==0)=true from rfl,show(((1:Nat):Int)==4)=false from rfl,show(((1:Nat):Int)==3)=false from rfl,show(((1:Nat):Int)==2)=false from rfl,show(((1:Nat):Int)==1)=true from rfl,show(((2:Nat):Int)==4)=false from rfl,show(((2:Nat):Int)==3)=false from rfl,show(((2:Nat):Int)==2)=true from rfl,aY,aX,
   J3,J2,XB,show((0:Int)==4)=false from rfl,show((0:Int)==3)=false from rfl,show((0:Int)==2)=false from rfl,show((0:Int)==1)=false from rfl,show((0:Int)==0)=true from rfl,show((1:Int)==4)=false from rfl,show((1:Int)==3)=false from rfl,show((1:Int)==2)=false from rfl,show((1:Int)==1)=true from rfl,show((2:Int)==4)=false from rfl,show((2:Int)==3)=false from rfl,show((2:Int)==2)=true from rfl,fU,bF,sA,gA,hro]
def LQ(r:bn)(d:bQ)(i:Nat):bn:=
 {r with aR:={bX:=d,gJ:=r.aR.gJ+1,iR:=(i:Int),bT:=r.aR.bT},fO:=2,nK:=iL .i64 1 (IntKind.u64.wrap (i:Int))}
theorem aGo{r:bn}{b i:Nat}(hi:i<3)(hid:r.id=(i:Int))(hn:r.n=3)(hd:oI r.aR.bX b)(hb:b<=1000000)(ht:0<=r.aR.gJ/\r.aR.gJ<=1000000)(hl:r.aR.bT.length<=1000000):
  Ok (zh r) (λo=>∃d,o=((Fa i).map (Dl (LQ r d i)),LQ r d i)/\oI d (b+170)):=by
 unfold zh jl pG;simp only[bF];rw[fAZ,bIZ];refine Ok.bind (ZH (r:=r) (t:=r.aR.gJ+1) (v:=r.id) hd hb ah ah (.inl ah)) λx hx=> ?_;obtain⟨d,rfl,hd'⟩:=hx;refine Ok.bq (dT (xZ _).1) ?_;simp only[hn,show((3:Int)==1)=false from rfl,aX];have e:({r with aR:={bX:=d,gJ:=r.aR.gJ+1,iR:=r.id,bT:=r.aR.bT},fO:=2,nK:=iL .i64 1 (IntKind.u64.wrap r.id)}:bn)=LQ r d i:=by unfold LQ;rw[hid]
 rw[show({aR:={bX:=d,gJ:=r.aR.gJ+1,iR:=r.id,bT:=r.aR.bT},id:=r.id,n:=3,fO:=2,fK:=r.fK,nK:=iL .i64 1 (IntKind.u64.wrap r.id),next:=r.next,gH:=r.gH}:bn)=LQ r d i by rw[<-e,<-hn]];rw[aJH (r:=LQ r d i) hi hid hn hl,bF];exact Ok.some ⟨d,rfl,hd'⟩
theorem aK8{r:bn}{b:Nat}{i j T:Int}{L:LG}(hid:r.id=j)(hn:r.n=3)(qY:r.aR.gJ<T)(wC:r.aR.bT=L)(hd:oI r.aR.bX b)(hb:b<=900000)
  (hi:0<=i/\i<3/\i≠j) (hT:1<=T/\T<=1073741824) (hL:L.length<=3000) (h0:0<=lastT L/\lastT L<=T):
  Ok (nT r {aL:=1,From:=i,To:=j,iA:=T,gQ:=(L.length:Int),lZ:=lastT L,qO:=0,OK:=false,nk:=[]})
   (λo=>∃d,o=([BF j i T],{r with aR:={bX:=d,gJ:=T,iR:=i,bT:=L},fO:=1})/\oI d (b+340)):=by
 unfold nT;rw[aax ⟨hid.symm,by rw[hid];exact hi.2.2,hi.1,by rw[hn];exact hi.2.1,hT.1,hT.2,by show(0:Int)<=(L.length:Int);omega,by show(L.length:Int)<=4096;omega,h0.1,h0.2,by show(0:Int)<=0;omega,by show(0:Int)<=4096;omega⟩ (.inl rfl)];unfold jl pG;simp only[bF,gI,aX];rw[eF (show r.aR.gJ<T from qY)];refine Ok.bind (ZH (r:=r) (t:=T) (v:= -1) hd ah ah ah (.inl qY)) λx hx=> ?_;obtain⟨d,rfl,hd'⟩:=hx;unfold Ie ad3 Ic Nb M9 yK jl pG nC xH;simp only[show((1:Int)==1)=true from rfl,aY,bF,Eo,wC];rw[bIZ];simp only[show nA L ((L.length:Int)-1)=lastT L from rfl];rw[dF (show¬lastT L<lastT L by omega)];simp only[show((-1:Int)== -1)=true from rfl,gI,aX,bF,PK,jQ,l6,aY,kW,En,Gx,Ad];rw[dT (show(L.length:Int)<=(L.length:Int)by omega)];simp only[aY];refine Ok.bind (P:=λo=>∃d,o=([BF j i T],{r with aR:={bX:=d,gJ:=T,iR:=i,bT:=L},fO:=1})/\oI d (b+340)) ?_ (λo ho=>by obtain⟨d,rfl,hd⟩:=ho;exact Ok.some ⟨d,rfl,hd⟩);refine Ok.bind (ZH (r:={r with aR:={bX:=d,gJ:=T,iR:= -1,bT:=L},fO:=1}) (t:=T) (v:=i) hd' ah ah ah (.inr ⟨rfl,.inl rfl⟩)) λy hy=> ?_;obtain⟨d2,rfl,hd2⟩:=hy;unfold XF;exact Ok.some ⟨d2,by simp only[BF,hid],hd2.up ah⟩
def Hu(r:bn)(v:Int):bn:=
 {r with fO:=3,nK:=v,next:={e0:=(r.aR.bT.length:Int),e1:=(r.aR.bT.length:Int),e2:=(r.aR.bT.length:Int),e3:=r.next.e3,e4:=r.next.e4},gH:={e0:=0,e1:=0,e2:=0,e3:=r.gH.e3,e4:=r.gH.e4}}
theorem aJ8{r:bn}(hn:r.n=3):Nt r=some (Hu r r.nK):=by
 unfold Nt;obtain⟨f,hf⟩:∃f,fuel=f+4:=⟨18446744073709551612,by rw[iP]⟩;rw[hf,hn]
 simp only[Fv,Ih,nC,xH,bF,eF (show(0:Int)<3 by omega),show aQ (0+1)=1 from rfl,show aQ (1+1)=2 from rfl,show aQ (2+1)=3 from rfl,eF (show(1:Int)<3 by omega),eF (show(2:Int)<3 by omega),fA (show¬(3:Int)<3 by omega),
  show((0:Int)==4)=false from rfl,show((0:Int)==3)=false from rfl,show((0:Int)==2)=false from rfl,show((0:Int)==1)=false from rfl,show((0:Int)==0)=true from rfl,show((1:Int)==4)=false from rfl,show((1:Int)==3)=false from rfl,show((1:Int)==2)=false from rfl,show((1:Int)==1)=true from rfl,show((2:Int)==4)=false from rfl,show((2:Int)==3)=false from rfl,show((2:Int)==2)=true from rfl,aY,aX]
 unfold Hu;rw[<-hn]
def vB(i k:Nat):Int:=ug .i64 (iL .i64 1 (IntKind.u64.wrap (i:Int))) (iL .i64 1 (IntKind.u64.wrap (k:Int)))
theorem aLG:∀i k:Fin 3,i≠k->aQ (aQ (aQ (0+je .i64 (iJ .i64 (vB i.1 k.1) (IntKind.u64.wrap 0)) 1)+je .i64 (iJ .i64 (vB i.1 k.1) (IntKind.u64.wrap 1)) 1)+je .i64 (iJ .i64 (vB i.1 k.1) (IntKind.u64.wrap 2)) 1)=2:=ak
theorem aJ2{r:bn}{i k:Nat}{T:Int}(hid:r.id=(i:Int))(hn:r.n=3)(hro:r.fO=2)(qY:r.aR.gJ=T)(hv:r.nK=iL .i64 1 (IntKind.u64.wrap (i:Int)))(hk:k<3)(hi:i<3)(hki:i≠k)(hT:1<=T/\T<=1073741824)(hl:r.aR.bT.length<=4000):
  nT r (BF (k:Int) (i:Int) T)=some ((Fa i).map (wZ (Hu r (vB i k))),Hu r (vB i k)):=by
 unfold BF nT;rw[aax ⟨hid.symm,by rw[hid];show(k:Int)≠(i:Int);omega,by show(0:Int)<=(k:Int);omega,by rw[hn];show(k:Int)<3;omega,hT.1,hT.2,by show(0:Int)<=0;omega,by show(0:Int)<=4096;omega,by show(0:Int)<=0;omega,by show(0:Int)<=T;omega,by show(0:Int)<=0;omega,by show(0:Int)<=4096;omega⟩ (.inr (.inl rfl))];unfold jl pG;simp only[bF,gI,aX,qY];rw[fA (by show¬T<T;omega)];unfold Ie XI jl pG;simp only[bF,qY,hro,show((2:Int)==1)=false from rfl,show((2:Int)==2)=true from rfl,aX,aY,show((2:Int) !=2)=false from rfl,jQ,jT,kW,gI];rw[gU (dT (xZ _).1),hv];obtain⟨f,hf⟩:∃f,fuel=f+4:=⟨18446744073709551612,by rw[iP]⟩;rw[hn,hf];simp only[XC,eF (show(0:Int)<3 by omega),show aQ (0+1)=1 from rfl,show aQ (1+1)=2 from rfl,show aQ (2+1)=3 from rfl,eF (show(1:Int)<3 by omega),eF (show(2:Int)<3 by omega),fA (show¬(3:Int)<3 by omega),gU (dT (xZ _).1)];have hc:=aLG ⟨i,hi⟩ ⟨k,hk⟩ (by intro h;exact hki (aD h));simp only[vB]at hc;rw[hc];simp only[show decide (aQ (2*2)<=3)=false from rfl,aX];rw[aJ8 (r:={aR:=r.aR,id:=r.id,n:=3,fO:=2,fK:=r.fK,nK:=_,next:=r.next,gH:=r.gH}) rfl,bF]
 rw[aqm (i:=i) hi (by exact hid) (by rfl) (by exact(by omega:r.aR.bT.length<=1000000)) (by
  intro q hq;have:q=0\/q=1\/q=2:=ah
  rcases this with rfl|rfl|rfl<;>simp only[Hu,gA]<;>omega)]
 simp only[bF];unfold Hu vB;rw[<-hn]
theorem aK7{r:bn}{i k T:Int}(hid:r.id=i)(hn:r.n=3)(hro:r.fO=3)(qY:r.aR.gJ=T)(hk:0<=k/\k<3)(hki:k≠i)(hT:1<=T/\T<=1073741824):nT r (BF k i T)=some ([],r):=by unfold BF nT;rw[aax ⟨hid.symm,by rw[hid];exact hki,hk.1,by rw[hn];exact hk.2,hT.1,hT.2,by show(0:Int)<=0;omega,by show(0:Int)<=4096;omega,by show(0:Int)<=0;omega,by show(0:Int)<=T;omega,by show(0:Int)<=0;omega,by show(0:Int)<=4096;omega⟩ (.inr (.inl rfl))];unfold jl pG;simp only[bF,gI,aX,qY];rw[fA (by show¬T<T;omega)];unfold Ie XI;simp only[hro,show((2:Int)==1)=false from rfl,show((2:Int)==2)=true from rfl,aX,aY,show((3:Int) !=2)=true from rfl,gI,bF,En]
section
variable {k:Nat}{x:bn}{m:bJ}{t:List bJ}{c:List aP}
abbrev RF:=Nat->bn
def qf(R:RF)(n:List bJ)(c:List aP):bR:={aT:=[R 0,R 1,R 2],bg:=n,lY:=c}
def upd(R:RF)(k:Nat)(x:bn):RF:=λi=>if i=k then x else R i
theorem nN{R:RF}:upd R k x k=x:=bW rfl
theorem upd_ne{R:RF}{i:Nat}(h:i≠k):upd R k x i=R i:=dn h
theorem aMu(h:t.length<=1000000):HV (m::t) 0 1=some t:=by
 have e1:jM 0 t.length (m::t) t=t++(m::t).drop t.length:=by unfold jM;rw[abe,zq,sF,Lm,nM]
 have e2:(jM 0 t.length (m::t) t).length=t.length+1:=by rw[e1];simp
 have e3:∀ys:List bJ,ys.length=1->(jM t.length 1 (jM 0 t.length (m::t) t) ys).length=t.length+1/\(jM t.length 1 (jM 0 t.length (m::t) t) ys).take t.length=t:=by
  intro ys hy;have e4:jM t.length 1 (jM 0 t.length (m::t) t) ys=t++(ys.take 1++((m::t).drop t.length).drop 1):=by rw[jM,hy,e1,aiN,Lm,List.drop_append];simp
  rw[e4];exact⟨ay,by rw[aiN]⟩
 unfold HV;simp only[yQ,gL,show Int.toNat 0=0 from rfl,show Int.toNat 1=1 from rfl,nM,Nat.add_sub_cancel,List.drop_one,List.tail_cons,sF,show t.length+1-t.length=1 by omega,e2];obtain⟨e5,e6⟩:=e3 (List.replicate 1 aG) aj;rw[e5,e6];rw[gU (dT ⟨ah,ah,ah,ah⟩),show((0:Int)==1)=false from rfl,aX,gU (dT ⟨ah,ah⟩),gU (dT ⟨ah,ah,ah⟩),gU (dT ah),gU (dT ah),gU (dT ⟨ah,ah,ah⟩),gU (dT ah),gU (dT ah)]
theorem apl{R:RF}(h:t.length<=1000000:=by omega):Na (qf R (m::t) c) 0=some (qf R t c):=by unfold Na;show(HV (m::t) 0 (aQ (0+1))).bind _=_;rw[show aQ (0+1)=1 from rfl,aMu h];rfl
theorem air{R:RF}:∀{l bg:List bJ},bg.length+l.length<=256->rV (qf R bg c) l=some (qf R (bg++l) c):=by
 intro l bg h;unfold rV;have key:∀(f i:Nat) (bg:List bJ),l.length-i<f->i<=l.length->bg.length+(l.length-i)<=256->Kj l (l.length:Int) f (i:Int) (qf R bg c)=some (qf R (bg++l.drop i) c):=by intro f;induction f with
  |zero=>intro i bg h;omega
  |succ f ih=>
   intro i bg h hi hn;rw[Kj];by_cases q:i<l.length
   .rw[eFZ,dJZ];show(bif decide (256<=(bg.length:Int))then _ else RQ _ _ _ (qf R bg c))=_;rw[fAZ];unfold RQ;rw[gU (dT (rm (by show(bg.length+1)*88<=_;omega))),bIZ];show Kj l _ f ((i:Int)+1) (qf R (bg++ [l.getD (i:Int).toNat aG]) c)=_;rw[show((i:Int)+1)=((i+1:Nat):Int)by omega,ih (i+1) _ ah ah ay];rw[rH];congr 3;rw[D9 q];simp[fD,q]
   .rw[fAZ,Pt ah,nE]
 exact key fuel 0 bg aB ah ah
def fM(l:LG):List aP:=l.map cO.kL
structure CB(r:bn):Prop where
 lo:0<=r.fK
 hi:r.fK<=(r.aR.bT.length:Int)
 ln:r.aR.bT.length<=1000000
def ru(c:List aP)(r:bn):List aP:=if r.fK<=(c.length:Int)then c else fM (r.aR.bT.take r.fK.toNat)
def nt(c:List aP)(R:RF):List aP:=ru (ru (ru c (R 0)) (R 1)) (R 2)
theorem Vi(r:bn)(h:r.aR.bT.length<=1000000):rD r=some r.aR.bT:=by unfold rD;first
 |rw[ah8 r h (jh 0)];rfl
 |(rw[ah8 r h (jh 0)];simp)
theorem aLP{R:RF}{n:List bJ}{c:List aP}{a b:Int}{l:LG}(hl:l.length<=1000000):∀(f i:Nat) (x:List aP),l.length-i<f->x.length<=i->i<=l.length->M6 a b l (l.length:Int) (qf R n c) f x (i:Int)=Ar a b (qf R n (x++fM (l.drop i))):=by intro f;induction f with
 |zero=>intro i x h;omega
 |succ f ih=>
  intro i x h hx hi;rw[M6];by_cases q:i<l.length
  .rw[eFZ,dJZ,gU (dT (rm (by show(x.length+1)*72<=_;omega))),bIZ,show((i:Int)+1)=((i+1:Nat):Int)by omega,ih (i+1) _ ah ay ah,rH];congr 4;rw[D9 q,show l.getD (i:Int).toNat aG=l[i]by simp[fD,q]];rfl
  .rw[fAZ,Pt ah];show Ar a b (qf R n x)=Ar a b (qf R n (x++ []));rw[nE]
theorem aLQ{R:RF}{n:List bJ}{c:List aP}{a b:Int}{l:LG}(hl:l.length<=1000000):∀(f i:Nat) (x:List aP),l.length-i<f->x.length<=i->i<=l.length->Ni a b l (l.length:Int) (qf R n c) f x (i:Int)=FC a b (qf R n (x++fM (l.drop i))):=by intro f;induction f with
 |zero=>intro i x h;omega
 |succ f ih=>
  intro i x h hx hi;rw[Ni];by_cases q:i<l.length
  .rw[eFZ,dJZ,gU (dT (rm (by show(x.length+1)*72<=_;omega))),bIZ,show((i:Int)+1)=((i+1:Nat):Int)by omega,ih (i+1) _ ah ay ah,rH];congr 4;rw[D9 q,show l.getD (i:Int).toNat aG=l[i]by simp[fD,q]];rfl
  .rw[fAZ,Pt ah];show FC a b (qf R n x)=FC a b (qf R n (x++ []));rw[nE]
theorem aLR{R:RF}{n:List bJ}{c:List aP}{a b:Int}{l:LG}(hl:l.length<=1000000):∀(f i:Nat) (x:List aP),l.length-i<f->x.length<=i->i<=l.length->Nj a b l (l.length:Int) (qf R n c) f x (i:Int)=FD a b (qf R n (x++fM (l.drop i))):=by intro f;induction f with
 |zero=>intro i x h;omega
 |succ f ih=>
  intro i x h hx hi;rw[Nj];by_cases q:i<l.length
  .rw[eFZ,dJZ,gU (dT (rm (by show(x.length+1)*72<=_;omega))),bIZ,show((i:Int)+1)=((i+1:Nat):Int)by omega,ih (i+1) _ ah ay ah,rH];congr 4;rw[D9 q,show l.getD (i:Int).toNat aG=l[i]by simp[fD,q]];rfl
  .rw[fAZ,Pt ah];show FD a b (qf R n x)=FD a b (qf R n (x++ []));rw[nE]
theorem abW{β:Type}{r:bn}(h:r.fK<=0\/CB r)(k:List aP->Option β)
  (L:List cO->Option β) (hL:∀l:LG,l.length<=1000000->L l=k (fM l)):
  ((oM r).bind λx=>bif decide (x<=(c.length:Int))then k c else(oM r).bind λx1=>
   bq (decide ((0:Int)<=0/\(0:Int)<=x1/\(x1:Int)<=9223372036854775807/\(x1:Int)*72<=140737488355328)) ((rD r).bind λx2=>(oM r).bind λx3=>
    bq (decide (0<=x3/\x3<=(x2.length:Int))) (L (x2.take (Int.toNat x3)))))=k (ru c r):=by
 have hc:oM r=some r.fK:=rfl;rw[hc];simp only[bF];unfold ru;by_cases q:r.fK<=(c.length:Int)
 .rw[eF q,bW q]
 .have hb:CB r:=by
   rcases h with h|h
   .exact(q ah).elim
   .exact h
  obtain⟨h0,h1,h2⟩:=hb;rw[fA q,dn q,gU (dT ⟨ah,ah,ah,ah⟩),Vi r h2,bF,gU (dT ⟨ah,ah⟩),hL _ ay]
theorem aqR{R:RF}{n:List bJ}(h:∀i,i<3->(R i).fK<=0\/CB (R i)):Sj (qf R n c)=some (qf R n (nt c R)):=by
 have f1:aQ (0+1)=1:=rfl;have f2:aQ (1+1)=2:=rfl;have f3:decide ((1:Int)<3)=true:=rfl;have f4:decide ((2:Int)<3)=true:=rfl;have h2:∀c',FC 3 1 (qf R n c')=some (qf R n (ru c' (R 2))):=λc'=>by
  unfold FC;simp only[f2,f4,PK,aY]
  exact abW (h 2 ah) (λx=>some (qf R n x)) (λl=>M6 3 2 l (l.length:Int) (qf R n c') fuel (List.replicate (Int.toNat 0) aG) 0) (λl hl=>by
   have:=aLP (R:=R) (n:=n) (c:=c') (a:=3) (b:=2) hl fuel 0 [] aB aj ah
   exact this)
 have h1:∀c',FD 3 0 (qf R n c')=some (qf R n (ru (ru c' (R 1)) (R 2))):=λc'=>by
  unfold FD;simp only[f1,f3,PK,aY];rw[<-h2]
  exact abW (h 1 ah) (λx=>FC 3 1 (qf R n x)) (λl=>Ni 3 1 l (l.length:Int) (qf R n c') fuel (List.replicate (Int.toNat 0) aG) 0) (λl hl=>by
   have:=aLQ (R:=R) (n:=n) (c:=c') (a:=3) (b:=1) hl fuel 0 [] aB aj ah
   exact this)
 show Sj (qf R n c)=some (qf R n (ru (ru (ru c (R 0)) (R 1)) (R 2)));rw[<-h1]
 exact abW (h 0 ah) (λx=>FD 3 0 (qf R n x)) (λl=>Nj 3 0 l (l.length:Int) (qf R n c) fuel (List.replicate (Int.toNat 0) aG) 0) (λl hl=>by
   have:=aLR (R:=R) (n:=n) (c:=c) (a:=3) (b:=0) hl fuel 0 [] aB aj ah
   exact this)
theorem aKi{R:RF}(h:∀i,i<3->(R i).fK<=(c.length:Int)):nt c R=c:=by unfold nt ru;rw[bW (h 0 ah),bW (h 1 ah),bW (h 2 ah)]
theorem aMa{R:RF}{l:Nat}(hl:l<3)(h1:(R l).fK=((R l).aR.bT.length:Int))(h2:c.length<(R l).aR.bT.length)(h:∀i,i<3->i≠l->(R i).fK<=(c.length:Int)):nt c R=fM (R l).aR.bT:=by
 have hn:ru c (R l)=fM (R l).aR.bT:=by unfold ru;rw[dn ah,h1,gL,sF]
 have hs:∀i,i<3->i≠l->ru c (R i)=c:=λi hi hne=>by unfold ru;rw[bW (h i hi hne)]
 have hs2:∀i,i<3->i≠l->ru (fM (R l).aR.bT) (R i)=fM (R l).aR.bT:=λi hi hne=>by unfold ru;rw[bW (by have:=h i hi hne;simp[fM];omega)]
 unfold nt;have:l=0\/l=1\/l=2:=ah
 rcases this with rfl|rfl|rfl
 .rw[hn,hs2 1 ah ah,hs2 2 ah ah]
 .rw[hs 0 ah ah,hn,hs2 2 ah ah]
 .rw[hs 0 ah ah,hs 1 ah ah,hn]
end
structure UPS(u:Int)(al:Nat->Bool):Prop where
 f:∀i:Nat,i<3->(je .i64 (iJ .i64 u (IntKind.u64.wrap (i:Int))) 1==0)= !al i
 g:∀i:Nat,i<3->(je .i64 (iJ .i64 u (i:Int)) 1==1)=al i
def FL(u:Int)(R:RF)(bg:List bJ)(c:List aP)(k:Nat)(P:RF->List aP->Prop):Prop:=
 ∀(f n:Nat),k<f->n+k<5000->Ok (BN u f (n:Int) (qf R bg c)) (λo=>∃R' c',o.2=qf R' [] c'/\P R' c')
section
variable {u:Int} {al:Nat->Bool} {R:RF} {bg:List bJ} {c:List aP} {k:Nat} {P:RF->List aP->Prop} {m:bJ} {a j:Nat}
theorem FL.nil(h:P R c):FL u R [] c k P:=by intro f n hf hn;obtain⟨f,rfl⟩:∃g,f=g+1:=⟨f-1,ah⟩;rw[BN];exact Ok.some ⟨R,c,rfl,h⟩
theorem FL.up{k':Nat}(h:FL u R bg c k P)(hk:k<=k'):FL u R bg c k' P:=λf n hf hn=>h f n ah ah
theorem FL.drop(hU:UPS u al)(ha:a<3)(hj:j<3)(h1:m.From=(a:Int))(h2:m.To=(j:Int))(hd:al a=false\/al j=false)(hl:bg.length<=200)(h:FL u R bg c k P):FL u R (m::bg) c (k+1) P:=by
 intro f n hf hn;obtain⟨f,rfl⟩:∃g,f=g+1:=⟨f-1,ah⟩;rw[BN];have e1:(decide (0<(((qf R (m::bg) c).bg.length:Nat):Int))&&decide ((n:Int)<5000))=true:=by show(decide ((0:Int)<(((m::bg).length:Nat):Int))&&decide ((n:Int)<5000))=true;rw[dT (show(0:Int)<(((m::bg).length:Nat):Int)by simp),dT ah];rfl
 rw[e1,aY,dJ (jh 0) (by show(0:Int)<(((m::bg).length:Nat):Int);simp),apl,bF];simp only[show((qf R (m::bg) c).bg.getD (Int.toNat 0) aG)=m from rfl];rw[gU (dT (xZ _).1)];refine Ok.bq (by rw[dT (show(0:Int)<=IntKind.u64.wrap m.To from(xZ _).1)];simp) ?_;have e2:(je .i64 (iJ .i64 u (IntKind.u64.wrap m.From)) 1==0||je .i64 (iJ .i64 u (IntKind.u64.wrap m.To)) 1==0)=true:=by rw[h1,h2,hU.f a ha,hU.f j hj];rcases hd with h|h<;>rw[h]<;>simp
 rw[e2,aY];exact h f n ah ah
theorem FL.step{b:Nat}(hU:UPS u al)(ha:a<3)(hj:j<3)(h1:m.From=(a:Int))(h2:m.To=(j:Int))(ua:al a=true)(uj:al j=true)(hl:bg.length<=200)
  (h:Ok (nT (R j) m) (λo=>o.1.length<=50/\(∀i,i<3->(upd R j o.2 i).fK<=0\/CB (upd R j o.2 i))/\FL u (upd R j o.2) (bg++o.1) (nt c (upd R j o.2)) k P)):
  FL u R (m::bg) c (k+1) P:=by
 intro f n hf hn;obtain⟨f,rfl⟩:∃g,f=g+1:=⟨f-1,ah⟩;rw[BN];have e1:(decide (0<(((qf R (m::bg) c).bg.length:Nat):Int))&&decide ((n:Int)<5000))=true:=by show(decide ((0:Int)<(((m::bg).length:Nat):Int))&&decide ((n:Int)<5000))=true;rw[dT (show(0:Int)<(((m::bg).length:Nat):Int)by simp),dT ah];rfl
 rw[e1,aY,dJ (jh 0) (by show(0:Int)<(((m::bg).length:Nat):Int);simp),apl,bF];simp only[show((qf R (m::bg) c).bg.getD (Int.toNat 0) aG)=m from rfl];rw[gU (dT (xZ _).1)];refine Ok.bq (by rw[dT (show(0:Int)<=IntKind.u64.wrap m.To from(xZ _).1)];simp) ?_;have e2:(je .i64 (iJ .i64 u (IntKind.u64.wrap m.From)) 1==0||je .i64 (iJ .i64 u (IntKind.u64.wrap m.To)) 1==0)=false:=by rw[h1,h2,hU.f a ha,hU.f j hj,ua,uj];rfl
 rw[e2,aX];obtain⟨o,ho,hlen,hcb,hF⟩:=h;have hm:∀t:Int,m.To=t->({m with To:=t}:bJ)=m:=by intro t ht;subst ht;rfl
 have fin:Ok ((rV (qf (upd R j o.2) bg c) o.1).bind λx=>Kk (BN u f) (n:Int) (gT x)) (λo=>∃R' c',o.2=qf R' [] c'/\P R' c'):=by rw[air ah,bF];show Ok (Kk _ _ (qf (upd R j o.2) (bg++o.1) c)) _;unfold Kk;rw[aqR hcb,bF,bIZ];have:=hF f (n+1) ah ah;rw[show((n+1:Nat):Int)=(n:Int)+1 by omega]at this;exact this
 have:j=0\/j=1\/j=2:=ah
 rcases this with rfl|rfl|rfl
 .rw[h2];simp only[show(((0:Nat):Int)==2)=false from rfl,show(((0:Nat):Int)==1)=false from rfl,show(((0:Nat):Int)==0)=true from rfl,aY,aX];show Ok ((nT (R 0) {m with To:=0}).bind _) _;rw[hm 0 h2,ho,bF];exact fin
 .rw[h2];simp only[show(((1:Nat):Int)==2)=false from rfl,show(((1:Nat):Int)==1)=true from rfl,aY,aX];show Ok ((nT (R 1) {m with To:=1}).bind _) _;rw[hm 1 h2,ho,bF];exact fin
 .rw[h2];simp only[show(((2:Nat):Int)==2)=true from rfl,aY,aX];show Ok ((nT (R 2) {m with To:=2}).bind _) _;rw[hm 2 h2,ho,bF];exact fin
end
structure FO(r:bn)(i:Nat)(T:Int)(L:LG)(b:Nat)(m:Int):Prop where
 id:r.id=(i:Int)
 n:r.n=3
 ro:r.fO≠3
 tm:r.aR.gJ=T
 lg:r.aR.bT=L
 dk:oI r.aR.bX b
 c0:0<=r.fK
 c1:r.fK<=m
structure LE(r:bn)(i:Nat)(T:Int)(L:LG)(b:Nat)(cm:Int):Prop where
 id:r.id=(i:Int)
 n:r.n=3
 ro:r.fO=3
 tm:r.aR.gJ=T
 lg:r.aR.bT=L
 dk:oI r.aR.bX b
 co:r.fK=cm
 mt:∀k,k<3->gA r.gH k<=(L.length:Int)
 nx:∀k,k<3->0<=gA r.next k/\gA r.next k<=(L.length:Int)
structure LF(L:LG)(T:Int):Prop where
 t1:1<=T
 t2:T<=1000000
 pos:∀x∈L,1<=x.iA
 la:lastT L<=T
 l0:0<=lastT L
 ln:L.length<=2000
theorem ao2{L:LG}{x:cO}:lastT (L++ [x])=x.iA:=by unfold lastT;rw[show(((L++ [x]).length:Nat):Int)-1=(L.length:Int)by simp];exact aJE
theorem FO.up{r:bn}{i:Nat}{T:Int}{L:LG}{b b':Nat}{m m':Int}(h:FO r i T L b m)(hb:b<=b')(hm:m<=m'):FO r i T L b' m':=
 ⟨h.id,h.n,h.ro,h.tm,h.lg,h.dk.up hb,h.c0,wR h.c1 hm⟩
theorem LE.up{r:bn}{i:Nat}{T:Int}{L:LG}{b b':Nat}{cm:Int}(h:LE r i T L b cm)(hb:b<=b'):LE r i T L b' cm:=
 ⟨h.id,h.n,h.ro,h.tm,h.lg,h.dk.up hb,h.co,h.mt,h.nx⟩
theorem oF{r l:bn}{i x b bl:Nat}{T cm:Int}{L es:LG}(hix:i≠x)(hi:i<3)(hx:x<3)(hF:FO r x T L b (L.length:Int))(hL:LE l i T (L++es) bl cm)(hlf:LF L T)(hb:b<=1000000)
  (hnx:gA l.next x=(L.length:Int)) (hcm:0<=cm/\cm<=(L.length:Int)) (hes:es=[]∨∃e,es=[⟨T,e⟩]/\rY e=some true):
  Ok (nT r (wZ l x)) (λo=>o.1=[BD (x:Int) (i:Int) T ((L.length+es.length:Nat):Int)]/\FO o.2 x T (L++es) (b+170) (L.length:Int)):=by
 have e:wZ l x={aL:=3,From:=(i:Int),To:=(x:Int),iA:=T,gQ:=(L.length:Int),lZ:=lastT L,qO:=cm,OK:=false,nk:=es}:=by unfold wZ;rw[hL.id,hL.tm,hL.co,hnx,hL.lg,arb];simp[lastT]
 rw[e];have hln:=hlf.ln;have t1:=hlf.t1;have t2:=hlf.t2;have c0:=hF.c0;have c1:=hF.c1;refine(aLZ hF.id hF.n hF.ro hF.tm hF.lg hF.dk hb ⟨ah,ah,ah⟩ ⟨t1,ah⟩ ah ⟨hcm.1,ah⟩ c1 hlf.pos hlf.la hes).mono λo ho=> ?_;obtain⟨d,rfl,hd⟩:=ho;refine⟨rfl,hF.id,hF.n,by show(1:Int)≠3;omega,rfl,rfl,hd,?_,?_⟩
 .show 0<=jD _ _;unfold jD;split<;>omega
 .show jD _ _<=_;unfold jD ji;split<;>split<;>omega
theorem aMj{l:bn}{i x bl:Nat}{T cm kF:Int}{L:LG}(hix:i≠x)(hi:i<3)(hx:x<3)(hL:LE l i T L bl cm)(hlf:LF L T)(hcm:0<=cm)
  (hq:(kF=cm∧∀m:Int,cm<m->m<=(L.length:Int)->nA L (m-1)≠T)\/(kF=(L.length:Int)/\lastT L=T/\cm<(L.length:Int))):
  Ok (nT l (BD (x:Int) (i:Int) T (L.length:Int))) (λo=>o.1=[]/\LE o.2 i T L bl kF/\gA o.2.next x=(L.length:Int)∧∀k,k<3->k≠x->gA o.2.next k=gA l.next k):=by
 have hln:=hlf.ln;have t1:=hlf.t1;have t2:=hlf.t2;have hmx:jD (gA l.gH x) (L.length:Int)=(L.length:Int):=by have:=hL.mt x hx;unfold jD;split<;>omega
 rw[aL0 hL.id hL.n hL.ro hL.tm hx ah ⟨t1,ah⟩ ⟨ah,by rw[hL.lg];omega⟩ (by rw[hL.lg];omega),hmx];have key:∀r:bn,r={l with gH:=sA l.gH (L.length:Int) x,next:=sA l.next (L.length:Int) x}->Ok (zR r) (λr'=>r'={r with fK:=kF}):=by
  intro r hr;have hco:r.fK=cm:=by rw[hr];exact hL.co
  have wC:r.aR.bT=L:=by rw[hr];exact hL.lg
  have qY:r.aR.gJ=T:=by rw[hr];exact hL.tm
  have hn:r.n=3:=by rw[hr];exact hL.n
  rcases hq with⟨h1,h2⟩|⟨h1,h2,h3⟩
  .rw[asZ hn ah (by rw[wC];omega) (λm h3 h4 h5=>by
    rw[wC]at h4 h5;rw[qY]at h5
    exact(h2 m ah h4 h5).elim)]
   refine Ok.some ?_;rw[h1,<-hco]
  .rw[aMr hn ah (by rw[wC];omega) (by rw[hco,wC];exact h3) (by rw[wC,qY];exact h2) ?_]
   .exact Ok.some (by rw[wC,h1])
   .have hid:r.id=(i:Int):=(by rw[hr];exact hL.id);have hm:gA r.gH x=(L.length:Int):=(by rw[hr];show gA (sA _ _ _) _=_;rw[VA _ _ hx,bW rfl]);have:JO r x (L.length:Int)=true:=(by unfold JO;rw[hid,hm,dT (jh _),show(((x:Nat):Int) !=(i:Int))=true by simp;omega];rfl);rw[wC];unfold Qj;have hx3:x=0\/x=1\/x=2:=ah;rcases hx3 with rfl|rfl|rfl<;>rw[this]<;>simp
 refine Ok.bind (key _ rfl) λr' hr=>Ok.some ⟨rfl,?_,?_,?_⟩
 .rw[hr];refine⟨hL.id,hL.n,hL.ro,hL.tm,hL.lg,hL.dk,rfl,λk hk=> ?_,λk hk=> ?_⟩
  .show gA (sA _ _ _) _<=_;rw[VA _ _ hx];split
   .omega
   .exact hL.mt k hk
  .show 0<=gA (sA _ _ _) _/\gA (sA _ _ _) _<=_;rw[VA _ _ hx];split
   .omega
   .exact hL.nx k hk
 .rw[hr];show gA (sA _ _ _) _=_;rw[VA _ _ hx,bW rfl]
 .intro k hk hkx;rw[hr];show gA (sA _ _ _) _=_;rw[VA _ _ hx,dn hkx]
structure OT(i a b:Nat):Prop where
 hi:i<3
 ha:a<3
 hb:b<3
 ia:i≠a
 ib:i≠b
 ab:a≠b
 e:Fa i=[a,b]
theorem ot{i:Nat}(h:i<3):∃a b,OT i a b:=by
 have:i=0\/i=1\/i=2:=ah
 rcases this with rfl|rfl|rfl
 .exact⟨1,2,ah,ah,ah,ah,ah,ah,rfl⟩
 .exact⟨0,2,ah,ah,ah,ah,ah,ah,rfl⟩
 .exact⟨0,1,ah,ah,ah,ah,ah,ah,rfl⟩
theorem OT.all{i a b x:Nat}(o:OT i a b)(h:x<3):x=i\/x=a\/x=b:=by have:=o.hi;have:=o.ha;have:=o.hb;have:=o.ia;have:=o.ib;have:=o.ab;omega
def lF(R:RF)(c:List aP):Prop:=∀x,x<3->((R x).fK<=0\/CB (R x))/\(R x).fK<=(c.length:Int)
theorem lF.upd{R:RF}{c:List aP}{k:Nat}{r:bn}(h:lF R c)(h1:r.fK<=0\/CB r)(h2:r.fK<=(c.length:Int)):lF (upd R k r) c:=by
 intro x hx;by_cases q:x=k
 .subst q;rw[nN];exact⟨h1,h2⟩
 .rw[upd_ne q];exact h x hx
theorem lF.nt{R:RF}{c:List aP}(h:lF R c):nt c R=c:=aKi λi hi=>(h i hi).2
theorem FO.cb{r:bn}{i:Nat}{T:Int}{L:LG}{b:Nat}{m:Int}(h:FO r i T L b m)(hm:m<=(L.length:Int))(hl:L.length<=3000):r.fK<=0\/CB r:=
 .inr ⟨h.c0,by rw[h.lg];exact wR h.c1 hm,by rw[h.lg];omega⟩
theorem LE.cb{r:bn}{i:Nat}{T:Int}{L:LG}{b:Nat}{cm:Int}(h:LE r i T L b cm)(h0:0<=cm/\cm<=(L.length:Int))(hl:L.length<=3000):r.fK<=0\/CB r:=
 .inr ⟨by rw[h.co];exact h0.1,by rw[h.co,h.lg];exact h0.2,by rw[h.lg];omega⟩
section
variable {u:Int} {al:Nat->Bool} {R:RF} {bg:List bJ} {c:List aP} {k:Nat} {P:RF->List aP->Prop} {i x b bl:Nat} {T cm:Int} {L es:LG} {l:bn}
theorem flA(hU:UPS u al)(hix:i≠x)(hi:i<3)(hx:x<3)(ui:al i=true)(ux:al x=true)(hn:bg.length<=100)(hF:FO (R x) x T L b (L.length:Int))(hL:LE l i T (L++es) bl cm)(hlf:LF L T)(hb:b<=1000000)
  (hnx:gA l.next x=(L.length:Int)) (hcm:0<=cm/\cm<=(L.length:Int)) (hes:es=[]∨∃e,es=[⟨T,e⟩]/\rY e=some true) (hO:lF R c) (hc:L.length<=c.length)
  (h:∀r',FO r' x T (L++es) (b+170) (L.length:Int)->lF (upd R x r') c->FL u (upd R x r') (bg++ [BD (x:Int) (i:Int) T (((L++es).length:Nat):Int)]) c k P):FL u R (wZ l x::bg) c (k+1) P:=by
 have hln:=hlf.ln;refine FL.step (b:=0) hU hi hx hL.id rfl ui ux ah ((oF hix hi hx hF hL hlf hb hnx hcm hes).mono λo ho=> ?_);obtain⟨h1,h2⟩:=ho;have hO2:lF (upd R x o.2) c:=hO.upd (h2.cb ay (by rcases hes with q|⟨e,q,_⟩<;>rw[q]<;>simp<;>omega)) (wR h2.c1 ah);refine⟨by rw[h1];simp,λy hy=>(hO2 y hy).1,?_⟩;rw[h1,hO2.nt];have:=h o.2 h2 hO2;rw[qp]at this;exact this
theorem flB{kF:Int}{c':List aP}(hU:UPS u al)(hix:i≠x)(hi:i<3)(hx:x<3)(ui:al i=true)(ux:al x=true)(hn:bg.length<=100)(hL:LE (R i) i T L bl cm)(hlf:LF L T)(hcm:0<=cm/\cm<=(L.length:Int))(hO:lF R c)(hc:c.length<=L.length)
  (hq:(kF=cm/\c'=c∧∀m:Int,cm<m->m<=(L.length:Int)->nA L (m-1)≠T)\/(kF=(L.length:Int)/\c'=fM L/\lastT L=T/\cm<(L.length:Int)/\c.length<L.length))
  (h:∀r',LE r' i T L bl kF->gA r'.next x=(L.length:Int)->(∀y,y<3->y≠x->gA r'.next y=gA (R i).next y)->lF (upd R i r') c'->FL u (upd R i r') bg c' k P):FL u R (BD (x:Int) (i:Int) T (L.length:Int)::bg) c (k+1) P:=by
 have hln:=hlf.ln;have hq1:(kF=cm∧∀m:Int,cm<m->m<=(L.length:Int)->nA L (m-1)≠T)\/(kF=(L.length:Int)/\lastT L=T/\cm<(L.length:Int)):=by
  rcases hq with⟨q1,_,q2⟩|⟨q1,_,q2,q3,_⟩
  .exact .inl ⟨q1,q2⟩
  .exact .inr ⟨q1,q2,q3⟩
 refine FL.step (b:=0) hU hx hi rfl rfl ux ui ah ((aMj hix hi hx hL hlf hcm.1 hq1).mono λo ho=> ?_);obtain⟨h1,h2,h3,h4⟩:=ho;have hcm':0<=kF/\kF<=(L.length:Int):=by rcases hq1 with q|q<;>omega
 have hcb:=h2.cb hcm' ah;have atW:∀y,y<3->(upd R i o.2 y).fK<=0\/CB (upd R i o.2 y):=by
  intro y hy;by_cases q:y=i
  .subst q;rw[nN];exact hcb
  .rw[upd_ne q];exact(hO y hy).1
 have hnt:nt c (upd R i o.2)=c'/\lF (upd R i o.2) c':=by
  rcases hq with⟨q1,q2,_⟩|⟨q1,q2,_,q3,q4⟩
  .have hO2:lF (upd R i o.2) c:=hO.upd hcb (by rw[h2.co,q1,<-hL.co];exact(hO i hi).2);rw[q2];exact⟨hO2.nt,hO2⟩
  .have e:nt c (upd R i o.2)=fM (upd R i o.2 i).aR.bT:=aMa hi (by rw[nN,h2.co,h2.lg,q1]) (by rw[nN,h2.lg];exact q4) (λy hy hne=>by rw[upd_ne hne];exact(hO y hy).2);rw[nN,h2.lg]at e;refine⟨by rw[e,q2],λy hy=>⟨atW y hy,?_⟩⟩;rw[q2];by_cases q:y=i
   .subst q;rw[nN,h2.co,q1];simp[fM]
   .rw[upd_ne q];have:=(hO y hy).2;simp[fM];omega
 refine⟨by rw[h1];simp,atW,?_⟩;rw[h1,nE,hnt.1];exact h o.2 h2 h3 h4 hnt.2
end
theorem aud{u:Int}{al:Nat->Bool}{R:RF}{c c':List aP}{i a b bd:Nat}{T cm kF:Int}{L es:LG}(hU:UPS u al)(o:OT i a b)(ui:al i=true)(hab:al a=true\/al b=true)
  (hlf:LF L T) (Qs:LF (L++es) T) (hes:es=[]∨∃e,es=[⟨T,e⟩]/\rY e=some true) (hc:c.length=L.length) (hO:lF R c) (hl:LE (R i) i T (L++es) bd cm) (h0:0<=cm/\cm<=(L.length:Int)) (hbd:bd<=900000)
  (fo:∀x,x<3->x≠i->al x=true->FO (R x) x T L bd (L.length:Int)/\gA (R i).next x=(L.length:Int))
  (hq:(kF=cm/\c'=c∧∀m:Int,cm<m->m<=((L++es).length:Int)->nA (L++es) (m-1)≠T)\/(kF=((L++es).length:Int)/\c'=fM (L++es)/\lastT (L++es)=T/\cm<((L++es).length:Int)/\c.length<(L++es).length)):
  FL u R [wZ (R i) a,wZ (R i) b] c 4 (λR' c''=>c''=c'/\lF R' c'/\LE (R' i) i T (L++es) bd kF/\(∀x,x<3->x≠i->al x=true->FO (R' x) x T (L++es) (bd+170) (L.length:Int)/\gA (R' i).next x=((L++es).length:Int))∧∀x,x≠i->al x=false->R' x=R x):=by
 have hll:L.length<=(L++es).length:=aj
 have h0':0<=cm/\cm<=((L++es).length:Int):=ah
 have hq2:0<=kF/\kF<=((L++es).length:Int)/\(∀m:Int,kF<m->m<=((L++es).length:Int)->nA (L++es) (m-1)≠T)/\c'.length<=(L++es).length:=by
  rcases hq with⟨q1,q2,q3⟩|⟨q1,q2,q3,q4,q5⟩
  .rw[q1,q2];exact⟨h0'.1,h0'.2,q3,ah⟩
  .rw[q1,q2];exact⟨ah,ah,λm hm hm'=>ah,by simp[fM]⟩
 have hi:=o.hi;have ha:=o.ha;have hb:=o.hb;have ia:=o.ia;have ib:=o.ib;have ab:=o.ab;have nai:=ia.symm;have Xe:=ib.symm;have nba:=ab.symm;cases ua:al a with
 |true=>obtain⟨fa,na⟩:=fo a ha nai ua;cases ub:al b with
  |true=>
   obtain⟨fb,nb⟩:=fo b hb Xe ub;refine flA hU ia hi ha ui ua aj fa hl hlf ah na h0 hes hO ah λr1 g1 O1=> ?_;refine flA (bg:=[BD (a:Int) (i:Int) T (((L++es).length:Nat):Int)]) hU ib hi hb ui ub aj (by rw[upd_ne nba];exact fb) hl hlf ah nb h0 hes O1 ah λr2 g2 O2=> ?_;refine flB (kF:=kF) (c':=c') (bg:=[BD (b:Int) (i:Int) T (((L++es).length:Nat):Int)]) hU ia hi ha ui ua aj (by rw[upd_ne ib,upd_ne ia];exact hl) Qs h0' O2 ah hq λr3 g3 n3 m3 O3=> ?_;refine flB (kF:=kF) (c':=c') hU ib hi hb ui ub aj (by rw[nN];exact g3) Qs ⟨hq2.1,hq2.2.1⟩ O3 hq2.2.2.2 (.inl ⟨rfl,rfl,hq2.2.2.1⟩) λr4 g4 n4 m4 O4=> ?_;refine FL.nil ⟨rfl,O4,by rw[nN];exact g4,λx hx hxi hal=> ?_,λx hxi hal=> ?_⟩
   .rw[nN,upd_ne hxi,upd_ne hxi];rw[nN]at m4;rcases o.all hx with rfl|rfl|rfl
    .exact(hxi rfl).elim
    .rw[upd_ne ab,nN];exact⟨g1,by rw[m4 _ hx ab];exact n3⟩
    .rw[nN];exact⟨g2,n4⟩
   .have xa:x≠a:=(by rintro rfl;rw[ua]at hal;cases hal);have xb:x≠b:=(by rintro rfl;rw[ub]at hal;cases hal);rw[upd_ne hxi,upd_ne hxi,upd_ne xb,upd_ne xa]
  |false=>
   refine flA hU ia hi ha ui ua aj fa hl hlf ah na h0 hes hO ah λr1 g1 O1=> ?_;refine FL.drop hU hi hb hl.id rfl (.inr ub) aj ?_;refine flB (kF:=kF) (c':=c') (bg:=[]) (k:=1) hU ia hi ha ui ua aj (by rw[upd_ne ia];exact hl) Qs h0' O1 ah hq λr3 g3 n3 m3 O3=> ?_;refine FL.nil ⟨rfl,O3,by rw[nN];exact g3,λx hx hxi hal=> ?_,λx hxi hal=> ?_⟩
   .rw[nN,upd_ne hxi];rcases o.all hx with rfl|rfl|rfl
    .exact(hxi rfl).elim
    .rw[nN];exact⟨g1,n3⟩
    .rw[ub]at hal;cases hal
   .have xa:x≠a:=(by rintro rfl;rw[ua]at hal;cases hal);rw[upd_ne hxi,upd_ne xa]
 |false=>
  have ub:al b=true:=by
   rcases hab with h|h
   .rw[ua]at h;cases h
   .exact h
  obtain⟨fb,nb⟩:=fo b hb Xe ub;refine FL.drop hU hi ha hl.id rfl (.inr ua) aj ?_;refine flA hU ib hi hb ui ub aj fb hl hlf ah nb h0 hes hO ah λr1 g1 O1=> ?_;refine flB (kF:=kF) (c':=c') (bg:=[]) (k:=1) hU ib hi hb ui ub aj (by rw[upd_ne ib];exact hl) Qs h0' O1 ah hq λr3 g3 n3 m3 O3=> ?_;refine FL.nil ⟨rfl,O3,by rw[nN];exact g3,λx hx hxi hal=> ?_,λx hxi hal=> ?_⟩
  .rw[nN,upd_ne hxi];rcases o.all hx with rfl|rfl|rfl
   .exact(hxi rfl).elim
   .rw[ua]at hal;cases hal
   .rw[nN];exact⟨g1,n3⟩
  .have xb:x≠b:=(by rintro rfl;rw[ub]at hal;cases hal);rw[upd_ne hxi,upd_ne xb]
structure CA(r:bn)(i:Nat)(T:Int)(L:LG)(b:Nat)(m:Int):Prop where
 id:r.id=(i:Int)
 n:r.n=3
 ro:r.fO=2
 tm:r.aR.gJ=T
 lg:r.aR.bT=L
 dk:oI r.aR.bX b
 c0:0<=r.fK
 c1:r.fK<=m
 vo:r.nK=iL .i64 1 (IntKind.u64.wrap (i:Int))
theorem aJG{R:RF}{i:Nat}:upd R i (R i)=R:=by
 funext x;by_cases q:x=i
 .subst q;exact nN
 .exact upd_ne q
section
variable {u:Int} {al:Nat->Bool} {R:RF} {bg:List bJ} {c:List aP} {k:Nat} {P:RF->List aP->Prop} {i x a' b' b bl:Nat} {T T0 m:Int} {L:LG} {l:bn}
theorem flV(hU:UPS u al)(hix:i≠x)(hi:i<3)(hx:x<3)(ui:al i=true)(ux:al x=true)(hn:bg.length<=100)(hF:FO (R x) x T0 L b (L.length:Int))(hL:CA l i T L bl m)(hT:T0<T)(hlf:LF L T)(hb:b<=900000)(hO:lF R c)(hc:L.length<=c.length)
  (h:∀r',FO r' x T L (b+340) (L.length:Int)->lF (upd R x r') c->FL u (upd R x r') (bg++ [BF (x:Int) (i:Int) T]) c k P):FL u R (Dl l x::bg) c (k+1) P:=by
 have hln:=hlf.ln;have t1:=hlf.t1;have t2:=hlf.t2;have e:Dl l x={aL:=1,From:=(i:Int),To:=(x:Int),iA:=T,gQ:=(L.length:Int),lZ:=lastT L,qO:=0,OK:=false,nk:=[]}:=by unfold Dl;rw[hL.id,hL.tm,hL.lg]
 rw[e];refine FL.step (b:=0) hU hi hx rfl rfl ui ux ah ((aK8 (i:=(i:Int)) (j:=(x:Int)) hF.id hF.n (by rw[hF.tm];exact hT) hF.lg hF.dk hb ⟨ah,ah,ah⟩ ⟨t1,ah⟩ ah ⟨hlf.l0,hlf.la⟩).mono λo ho=> ?_);obtain⟨d,rfl,hd⟩:=ho;have g:FO {R x with aR:={bX:=d,gJ:=T,iR:=(i:Int),bT:=L},fO:=1} x T L (b+340) (L.length:Int):=⟨hF.id,hF.n,by show(1:Int)≠3;omega,rfl,rfl,hd,hF.c0,hF.c1⟩;have hO2:=lF.upd (k:=x) hO (g.cb (jh _) ah) (wR g.c1 ah);refine⟨aj,λy hy=>(hO2 y hy).1,?_⟩;rw[hO2.nt];exact h _ g hO2
theorem flW(hU:UPS u al)(o:OT i a' b')(hix:i≠x)(hx:x<3)(ui:al i=true)(ux:al x=true)(hn:bg.length<=100)(hL:CA (R i) i T L b (L.length:Int))(hlf:LF L T)(hO:lF R c)(hc:L.length<=c.length)
  (h:∀r',LE r' i T L b (R i).fK->(∀y,y<3->gA r'.next y=(L.length:Int))->lF (upd R i r') c->FL u (upd R i r') (bg++ [wZ r' a',wZ r' b']) c k P):FL u R (BF (x:Int) (i:Int) T::bg) c (k+1) P:=by
 have hln:=hlf.ln;have t1:=hlf.t1;have t2:=hlf.t2;refine FL.step (b:=0) hU hx o.hi rfl rfl ux ui ah (Ok.eq (aJ2 hL.id hL.n hL.ro hL.tm hL.vo hx o.hi hix ⟨t1,ah⟩ (by rw[hL.lg];omega)) ?_);have hg:∀y,y<3->gA (Hu (R i) (vB i x)).next y=(L.length:Int):=by
  intro y hy;have:y=0\/y=1\/y=2:=ah
  rcases this with rfl|rfl|rfl<;>(show((R i).aR.bT.length:Int)=_)<;>rw[hL.lg]
 have hm:∀y,y<3->gA (Hu (R i) (vB i x)).gH y=0:=by
  intro y hy;have:y=0\/y=1\/y=2:=ah
  rcases this with rfl|rfl|rfl<;>rfl
 have g:LE (Hu (R i) (vB i x)) i T L b (R i).fK:=⟨hL.id,hL.n,rfl,hL.tm,hL.lg,hL.dk,rfl,λy hy=>by rw[hm y hy];omega,λy hy=>by rw[hg y hy];omega⟩;have hO2:=lF.upd (k:=i) hO (g.cb ⟨hL.c0,hL.c1⟩ ah) (by show(R i).fK<=_;exact(hO i o.hi).2);refine⟨by rw[o.e];simp,λy hy=>(hO2 y hy).1,?_⟩;rw[hO2.nt,o.e];exact h _ g hg hO2
theorem flX(hU:UPS u al)(hix:i≠x)(hi:i<3)(hx:x<3)(ui:al i=true)(ux:al x=true)(hn:bg.length<=100){cm:Int}(hL:LE (R i) i T L b cm)(hlf:LF L T)(hO:lF R c)
  (h:FL u R bg c k P):FL u R (BF (x:Int) (i:Int) T::bg) c (k+1) P:=by
 have t1:=hlf.t1;have t2:=hlf.t2;refine FL.step (b:=0) hU hx hi rfl rfl ux ui ah (Ok.eq (aK7 hL.id hL.n hL.ro hL.tm ⟨ah,ah⟩ ah ⟨t1,ah⟩) ?_);rw[aJG];refine⟨aj,λy hy=>(hO y hy).1,?_⟩;rw[hO.nt,nE];exact h
end
theorem ajh{L:LG}{T:Int}(h:∀x∈L,x.iA<=T)(h0:0<=T)(m:Int):nA L m<=T:=by
 unfold nA;split
 .rename_i q;refine h _ ?_;rw[fD,jR ah];exact zo _
 .exact h0
theorem aLW{u:Int}{al:Nat->Bool}{R:RF}{c:List aP}{i a b bd:Nat}{T:Int}{L:LG}(hU:UPS u al)(o:OT i a b)(ui:al i=true)(hab:al a=true\/al b=true)
  (hlf:LF L (T+1)) (htl:∀x∈L,x.iA<=T) (hT:0<=T) (hc:c.length=L.length) (hO:lF R c) (hbd:bd<=800000) (hl:CA (R i) i (T+1) L bd (L.length:Int))
  (fo:∀x,x<3->x≠i->al x=true->FO (R x) x T L bd (L.length:Int)):
  FL u R [Dl (R i) a,Dl (R i) b] c 8 (λR' c''=>c''=c/\lF R' c/\LE (R' i) i (T+1) L (bd+340) (R i).fK/\(∀x,x<3->x≠i->al x=true->FO (R' x) x (T+1) L (bd+510) (L.length:Int)/\gA (R' i).next x=(L.length:Int))∧∀x,x≠i->al x=false->R' x=R x):=by
 have hi:=o.hi;have ha:=o.ha;have hb:=o.hb;have ia:=o.ia;have ib:=o.ib;have ab:=o.ab;have nai:=ia.symm;have Xe:=ib.symm;have nba:=ab.symm;have c0:=hl.c0;have c1:=hl.c1;have quiet:∀m:Int,(R i).fK<m->m<=((L++ []).length:Int)->nA (L++ []) (m-1)≠T+1:=λm _ _=>by rw[nE];have:=ajh htl hT (m-1);omega
 -- behind the aPW
 have fin:∀(R':RF) (l:bn),R' i=l->LE l i (T+1) L (bd+340) (R i).fK->(∀y,y<3->gA l.next y=(L.length:Int))->lF R' c->(∀x,x<3->x≠i->al x=true->FO (R' x) x (T+1) L (bd+340) (L.length:Int))->(∀x,x≠i->al x=false->R' x=R x)→
   FL u R' [wZ l a,wZ l b] c 4 (λR' c''=>c''=c/\lF R' c/\LE (R' i) i (T+1) L (bd+340) (R i).fK/\(∀x,x<3->x≠i->al x=true->FO (R' x) x (T+1) L (bd+510) (L.length:Int)/\gA (R' i).next x=(L.length:Int))∧∀x,x≠i->al x=false->R' x=R x):=by
  intro R' l e1 e2 e3 e4 e5 e6;subst e1;have:=aud (es:=[]) (cm:=(R i).fK) (kF:=(R i).fK) (c':=c) (R:=R') (bd:=bd+340) hU o ui hab hlf (by rw[nE];exact hlf) (.inl rfl) hc e4 (by rw[nE];exact e2) ⟨c0,c1⟩ ah (λx hx hxi hal=>⟨e5 x hx hxi hal,e3 x hx⟩) (.inl ⟨rfl,rfl,quiet⟩);intro f n hf hn;refine(this f n hf hn).mono λq hq=> ?_;obtain⟨R2,c2,q1,q2,q3,q4,q5,q6⟩:=hq;rw[nE]at q4 q5;exact⟨R2,c2,q1,q2,q3,q4,q5,λx hx hal=>by rw[q6 x hx hal];exact e6 x hx hal⟩
 cases ua:al a with
 |true=>have fa:=fo a ha nai ua;cases ub:al b with
  |true=>
   have fb:=fo b hb Xe ub;refine flV hU ia hi ha ui ua aj fa hl ah hlf ah hO ah λr1 g1 O1=> ?_;refine flV (bg:=[BF (a:Int) (i:Int) (T+1)]) hU ib hi hb ui ub aj (by rw[upd_ne nba];exact fb) hl ah hlf ah O1 ah λr2 g2 O2=> ?_;refine flW (bg:=[BF (b:Int) (i:Int) (T+1)]) hU o ia ha ui ua aj (b:=bd) (by rw[upd_ne ib,upd_ne ia];exact hl) hlf O2 ah λr3 g3 n3 O3=> ?_;rw[upd_ne ib,upd_ne ia]at g3;refine flX (cm:=(R i).fK) hU ib hi hb ui ub aj (by rw[nN];exact g3) hlf O3 ?_;refine fin _ r3 nN (g3.up ah) n3 O3 (λx hx hxi hal=> ?_) (λx hxi hal=> ?_)
   .rw[upd_ne hxi];rcases o.all hx with rfl|rfl|rfl
    .exact(hxi rfl).elim
    .rw[upd_ne ab,nN];exact g1
    .rw[nN];exact g2
   .have xa:x≠a:=(by rintro rfl;rw[ua]at hal;cases hal);have xb:x≠b:=(by rintro rfl;rw[ub]at hal;cases hal);rw[upd_ne hxi,upd_ne xb,upd_ne xa]
  |false=>
   refine flV (k:=7) hU ia hi ha ui ua aj fa hl ah hlf ah hO ah λr1 g1 O1=> ?_;refine FL.drop (k:=6) hU hi hb hl.id rfl (.inr ub) aj ?_;refine flW (k:=5) (bg:=[]) hU o ia ha ui ua aj (b:=bd) (by rw[upd_ne ia];exact hl) hlf O1 ah λr3 g3 n3 O3=> ?_;rw[upd_ne ia]at g3;refine(fin _ r3 nN (g3.up ah) n3 O3 (λx hx hxi hal=> ?_) (λx hxi hal=> ?_)).up ah
   .rw[upd_ne hxi];rcases o.all hx with rfl|rfl|rfl
    .exact(hxi rfl).elim
    .rw[nN];exact g1
    .rw[ub]at hal;cases hal
   .have xa:x≠a:=(by rintro rfl;rw[ua]at hal;cases hal);rw[upd_ne hxi,upd_ne xa]
 |false=>
  have ub:al b=true:=by
   rcases hab with h|h
   .rw[ua]at h;cases h
   .exact h
  have fb:=fo b hb Xe ub;refine FL.drop (k:=7) hU hi ha hl.id rfl (.inr ua) aj ?_;refine flV (k:=6) hU ib hi hb ui ub aj fb hl ah hlf ah hO ah λr1 g1 O1=> ?_;refine flW (k:=5) (bg:=[]) hU o ib hb ui ub aj (b:=bd) (by rw[upd_ne ib];exact hl) hlf O1 ah λr3 g3 n3 O3=> ?_;rw[upd_ne ib]at g3;refine(fin _ r3 nN (g3.up ah) n3 O3 (λx hx hxi hal=> ?_) (λx hxi hal=> ?_)).up ah
  .rw[upd_ne hxi];rcases o.all hx with rfl|rfl|rfl
   .exact(hxi rfl).elim
   .rw[ua]at hal;cases hal
   .rw[nN];exact g1
  .have xb:x≠b:=(by rintro rfl;rw[ub]at hal;cases hal);rw[upd_ne hxi,upd_ne xb]
section
variable {i:Nat}{e:aP}{R:RF}{c:List aP}{bg:List bJ}
theorem aHp{r:bn}{b:Nat}{T cm:Int}{L:LG}(hi:i<3)(hL:LE r i T L b cm)(h0:0<=cm/\cm<=(L.length:Int))(hlf:LF L T)(hs:rY e=some true)(hb:b<=900000)
  (hq:∀m:Int,cm<m->m<=(L.length:Int)->nA L (m-1)≠T):
  Ok (zi r e) (λo=>∃r',o=((Fa i).map (wZ r'),0,r')/\LE r' i T (L++ [⟨T,e⟩]) (b+170) cm/\r'.next=r.next):=by
 have hln:=hlf.ln;have t1:=hlf.t1;have t2:=hlf.t2;unfold zi jl pG;rw[hL.ro];simp only[show((3:Int) !=3)=false from rfl,aX,bF];refine Ok.bind (ag0 (j:=r.aR) hL.dk ah (t:=r.aR.gJ) (by rw[hL.tm];omega) hs (jh _) (by rw[hL.lg,hL.tm];exact hlf.la) (by rw[hL.lg];omega)) λx hx=> ?_;obtain⟨d,rfl,hd⟩:=hx;simp only[jT,aX];refine Ok.bind (aaY (j:={r.aR with bX:=d,bT:=r.aR.bT++ [⟨r.aR.gJ,e⟩]}) hd) λx hx=> ?_;obtain⟨d',rfl,hd'⟩:=hx;rw[hL.tm,hL.lg];have g:LE {r with aR:={bX:=d',gJ:=T,iR:=r.aR.iR,bT:=L++ [⟨T,e⟩]},fO:=3} i T (L++ [⟨T,e⟩]) (b+170) cm:=by
  refine⟨hL.id,hL.n,rfl,rfl,rfl,hd',hL.co,λk hk=> ?_,λk hk=> ?_⟩
  .have:=hL.mt k hk;show gA r.gH k<=_;simp;omega
  .have:=hL.nx k hk;show 0<=gA r.next k/\gA r.next k<=_;simp;omega
 show Ok ((zR {r with aR:={bX:=d',gJ:=T,iR:=r.aR.iR,bT:=L++ [⟨T,e⟩]},fO:=3}).bind _) _;have hnx:({r with aR:={bX:=d',gJ:=T,iR:=r.aR.iR,bT:=L++ [⟨T,e⟩]},fO:=3}:bn).next=r.next:=rfl
 have hmt:∀k,k<3->gA ({r with aR:={bX:=d',gJ:=T,iR:=r.aR.iR,bT:=L++ [⟨T,e⟩]},fO:=3}:bn).gH k<=(L.length:Int):=hL.mt;generalize ({r with aR:={bX:=d',gJ:=T,iR:=r.aR.iR,bT:=L++ [⟨T,e⟩]},fO:=3}:bn)=r2 at g hnx hmt;rw[asZ g.n (by rw[g.co];exact h0.1) (by rw[g.lg];simp;omega) ?_,bF,aqm hi g.id g.n (by rw[g.lg];simp;omega) (λk hk=>by have:=g.nx k hk;simp at this;omega),bF]
 .exact Ok.some ⟨r2,rfl,g,hnx⟩
 .intro m h1 h2 h3;rw[g.co]at h1;rw[g.lg]at h2 h3;rw[g.tm]at h3;simp at h2;by_cases q:m<=(L.length:Int)
  .rw[arb]at h3;exact(hq m h1 q h3).elim
  .have hm:∀k,k<3->JO r2 k m=false:=λk hk=>(by unfold JO;rw[dF (by have:=hmt k hk;omega),Em]);unfold Qj;rw[hm 0 ah,hm 1 ah,hm 2 ah];rfl
theorem aip(hi:i<3)(k:Int)(hk:k=1\/k=2\/k=7):Fj (qf R [] c) {aL:=k,nZ:=(i:Int),N:=0,kL:=e}=some true:=by
 have h:∀q,HZ {aL:=k,nZ:=(i:Int),N:=0,kL:=e} k true q=some true:=λq=>by unfold HZ xI;simp only[aY,bF];rw[dT (show(0:Int)<=(i:Int)by omega),dT (show(i:Int)<3 by omega)];rfl
 unfold Fj;rcases hk with rfl|rfl|rfl
 .exact h (qf R [] c)
 .exact h (qf R [] c)
 .exact h (qf R [] c)
theorem doK(h:lF R c):pV (qf R bg c)=some (0,qf R bg c):=by unfold pV;rw[aqR (λi hi=>(h i hi).1),bF,h.nt];rfl
theorem do1{R:RF}{c:List aP}{i:Nat}(hi:i<3){e:aP}{Q:List bJ->bn->Prop}(h:Ok (zh (R i)) (λo=>o.1.length<=50/\lF (upd R i o.2) c/\Q o.1 o.2)):
  Ok (Av (qf R [] c) {aL:=1,nZ:=(i:Int),N:=0,kL:=e}) (λo=>∃ms r,Q ms r/\lF (upd R i r) c/\o=(0,qf (upd R i r) ms c)):=by
 obtain⟨o,h1,h2,h3,h4⟩:=h;unfold Av;show Ok ((Fj (qf R [] c) _).bind _) _;rw[aip hi 1 (.inl rfl),bF];have fin:Ok ((rV (qf (upd R i o.2) [] c) o.1).bind λx=>pV (gT x)) (λo=>∃ms r,Q ms r/\lF (upd R i r) c/\o=(0,qf (upd R i r) ms c)):=by rw[air ay,bF];show Ok (pV (qf (upd R i o.2) ([]++o.1) c)) _;rw[doK h3];exact Ok.some ⟨o.1,o.2,h4,h3,rfl⟩
 have:i=0\/i=1\/i=2:=ah
 rcases this with rfl|rfl|rfl
 .show Ok ((zh (R 0)).bind _) _;rw[h1,bF];exact fin
 .show Ok ((zh (R 1)).bind _) _;rw[h1,bF];exact fin
 .show Ok ((zh (R 2)).bind _) _;rw[h1,bF];exact fin
theorem do2{R:RF}{c:List aP}{i:Nat}(hi:i<3){e:aP}{Q:List bJ->bn->Prop}(h:Ok (zi (R i) e) (λo=>o.1.length<=50/\o.2.1=0/\lF (upd R i o.2.2) c/\Q o.1 o.2.2)):
  Ok (Av (qf R [] c) {aL:=2,nZ:=(i:Int),N:=0,kL:=e}) (λo=>∃ms r,Q ms r/\lF (upd R i r) c/\o=(0,qf (upd R i r) ms c)):=by
 obtain⟨⟨o1,o2,o3⟩,h1,h2,h5,h3,h4⟩:=h;simp only at h2 h5 h3 h4;subst h5;unfold Av;show Ok ((Fj (qf R [] c) _).bind _) _;rw[aip hi 2 (.inr (.inl rfl)),bF];have fin:Ok (Nz o1 0 (qf (upd R i o3) [] c)) (λo=>∃ms r,Q ms r/\lF (upd R i r) c/\o=(0,qf (upd R i r) ms c)):=by unfold Nz;simp only[show((0:Int) !=0)=false from rfl,aX];rw[air ay,bF];show Ok (pV (qf (upd R i o3) ([]++o1) c)) _;rw[doK h3];exact Ok.some ⟨o1,o3,h4,h3,rfl⟩
 have:i=0\/i=1\/i=2:=ah
 rcases this with rfl|rfl|rfl
 .show Ok ((zi (R 0) e).bind _) _;rw[h1,bF];exact fin
 .show Ok ((zi (R 1) e).bind _) _;rw[h1,bF];exact fin
 .show Ok ((zi (R 2) e).bind _) _;rw[h1,bF];exact fin
theorem do7{R:RF}{c:List aP}{i:Nat}(hi:i<3){e:aP}{Q:bn->Prop}(h:Ok (BQ (R i) 0) (λr=>lF (upd R i r) c/\Q r)):
  Ok (Av (qf R [] c) {aL:=7,nZ:=(i:Int),N:=0,kL:=e}) (λo=>∃r,Q r/\lF (upd R i r) c/\o=(0,qf (upd R i r) [] c)):=by
 obtain⟨r,h1,h3,h4⟩:=h;unfold Av;show Ok ((Fj (qf R [] c) _).bind _) _;rw[aip hi 7 (.inr (.inr rfl)),bF];have fin:Ok (pV (qf (upd R i r) [] c)) (λo=>∃r,Q r/\lF (upd R i r) c/\o=(0,qf (upd R i r) [] c)):=by rw[doK h3];exact Ok.some ⟨r,h4,h3,rfl⟩
 have:i=0\/i=1\/i=2:=ah
 rcases this with rfl|rfl|rfl
 .show Ok ((BQ (R 0) 0).bind _) _;rw[h1,bF];exact fin
 .show Ok ((BQ (R 1) 0).bind _) _;rw[h1,bF];exact fin
 .show Ok ((BQ (R 2) 0).bind _) _;rw[h1,bF];exact fin
theorem aGx(h:∀i,i<3->(R i).fO≠3):Ik (qf R bg c)=some (-1,qf R bg c):=by
 have h0:((R 0).fO==3)=false:=by simpa using h 0 ah
 have h1:((R 1).fO==3)=false:=by simpa using h 1 ah
 have h2:((R 2).fO==3)=false:=by simpa using h 2 ah
 simp only[show aQ (0+1)=1 from rfl,show aQ (1+1)=2 from rfl,show aQ (2+1)=3 from rfl,show decide ((0:Int)<3)=true from rfl,show decide ((1:Int)<3)=true from rfl,show decide ((2:Int)<3)=true from rfl,show decide ((3:Int)<3)=false from rfl,show decide ((-1:Int)<0)=true from rfl,show decide ((0:Int)<0)=false from rfl,show decide ((1:Int)<0)=false from rfl,show decide ((2:Int)<0)=false from rfl,show((-1:Int)== -1)=true from rfl,show((0:Int)== -1)=false from rfl,show((1:Int)== -1)=false from rfl,show((2:Int)== -1)=false from rfl,show((0:Int)==2)=false from rfl,show((0:Int)==1)=false from rfl,show((0:Int)==0)=true from rfl,show((1:Int)==2)=false from rfl,show((1:Int)==1)=true from rfl,show((2:Int)==2)=true from rfl,show decide ((0:Int)<=0/\(0:Int)<((3:Nat):Int))=true from rfl,show decide ((0:Int)<=1/\(1:Int)<((3:Nat):Int))=true from rfl,show decide ((0:Int)<=2/\(2:Int)<((3:Nat):Int))=true from rfl,Ik,RP,Ki,RO,Kh,Rx,xG,qf,bF,aiD,arj,h0,h1,h2,nu,aX,aY,jQ,gI,En,VK,bq];rfl
theorem aGy(hi:i<3)(hl:(R i).fO=3)(h:∀x,x<3->x≠i->(R x).fO≠3):Ik (qf R bg c)=some ((i:Int),qf R bg c):=by
 have hx:∀x,x<3->((R x).fO==3)=decide (x=i):=λx hx=>by
  by_cases q:x=i
  .subst q;rw[hl];simp
  .have:=h x hx q;simp[q,this]
 have h0:=hx 0 ah;have h1:=hx 1 ah;have h2:=hx 2 ah;have:i=0\/i=1\/i=2:=ah
 rcases this with rfl|rfl|rfl<;>
 .simp only[show decide (0=0)=true from rfl,show decide (0=1)=false from rfl,show decide (0=2)=false from rfl,show decide (1=0)=false from rfl,show decide (1=1)=true from rfl,show decide (1=2)=false from rfl,show decide (2=0)=false from rfl,show decide (2=1)=false from rfl,show decide (2=2)=true from rfl]at h0 h1 h2;simp only[show aQ (0+1)=1 from rfl,show aQ (1+1)=2 from rfl,show aQ (2+1)=3 from rfl,show decide ((0:Int)<3)=true from rfl,show decide ((1:Int)<3)=true from rfl,show decide ((2:Int)<3)=true from rfl,show decide ((3:Int)<3)=false from rfl,show decide ((-1:Int)<0)=true from rfl,show decide ((0:Int)<0)=false from rfl,show decide ((1:Int)<0)=false from rfl,show decide ((2:Int)<0)=false from rfl,show((-1:Int)== -1)=true from rfl,show((0:Int)== -1)=false from rfl,show((1:Int)== -1)=false from rfl,show((2:Int)== -1)=false from rfl,show((0:Int)==2)=false from rfl,show((0:Int)==1)=false from rfl,show((0:Int)==0)=true from rfl,show((1:Int)==2)=false from rfl,show((1:Int)==1)=true from rfl,show((2:Int)==2)=true from rfl,show decide ((0:Int)<=0/\(0:Int)<((3:Nat):Int))=true from rfl,show decide ((0:Int)<=1/\(1:Int)<((3:Nat):Int))=true from rfl,show decide ((0:Int)<=2/\(2:Int)<((3:Nat):Int))=true from rfl,Ik,RP,Ki,RO,Kh,Rx,xG,jl,pG,qf,bF,aiD,arj,h0,h1,h2,nu,l6,aX,aY,jQ,gI,En,VK,bq];try rfl
end
structure Q3(R:RF)(al:Nat->Bool)(L:LG)(b:Nat)(T:Int):Prop where
 t0:0<=T
 tl:∀x∈L,1<=x.iA/\x.iA<=T
 ln:L.length<=400
 oc:lF R (fM L)
 JQ:∀i a k,OT i a k->al i=true->al a=true\/al k=true
 ex:∃i,i<3/\al i=true
 dead:∀x,x<3->al x=false->(R x).fO≠3
structure LD(R:RF)(al:Nat->Bool)(L:LG)(b:Nat)(T:Int)(i:Nat)(cm:Int):Prop where
 hi:i<3
 ui:al i=true
 le:LE (R i) i T L b cm
 c0:0<=cm/\cm<=(L.length:Int)
 qu:∀m:Int,cm<m->m<=(L.length:Int)->nA L (m-1)≠T
 t1:1<=T
 fo:∀x,x<3->x≠i->al x=true->FO (R x) x T L b (L.length:Int)/\gA (R i).next x=(L.length:Int)
def NL(R:RF)(al:Nat->Bool)(L:LG)(b:Nat)(T:Int):Prop:=∀x,x<3->al x=true->FO (R x) x T L b (L.length:Int)
theorem aat{L:LG}{T:Int}(h:∀x∈L,1<=x.iA/\x.iA<=T)(h0:0<=T):0<=lastT L/\lastT L<=T:=by
 refine⟨?_,ajh (λx hx=>(h x hx).2) h0 _⟩;unfold lastT nA;split
 .rename_i q
  have:=(h _ (show L.getD ((L.length:Int)-1).toNat aG∈L by
   rw[fD,jR ah]
   exact zo _)).1
  omega
 .omega
theorem ajJ{L:LG}{T T':Int}(h:∀x∈L,1<=x.iA/\x.iA<=T)(h0:0<=T)(h1:T<=T':=by omega)(h2:1<=T':=by omega)(h3:T'<=1000000:=by omega)(hl:L.length<=2000:=by omega):LF L T':=by have:=aat h h0;exact⟨h2,h3,λx hx=>(h x hx).1,ah,this.1,hl⟩
section
variable {c:aM} {u:Int} {s:aN} {al:Nat->Bool} {R:RF} {k:List aP} {L:LG} {b:Nat} {T:Int}
abbrev pl(c:aM)(R:RF)(k:List aP)(u:Int)(s:aN):bO:={dY:=c,bg:=qf R [] k,up:=u,state:=s}
theorem aib(hU:UPS u al)(h3:c.cZ.length=3){q:bR}{i:Nat}(hi:i<3):pI {dY:=c,bg:=q,up:=u,state:=s} (i:Int)=some (al i):=by unfold pI;simp only[h3];rw[dT (show(0:Int)<=(i:Int)by omega),dT (show(i:Int)<((3:Nat):Int)by omega),gU (by rfl),hU.g i hi];rfl
theorem aJd{q:bR}:pI {dY:=c,bg:=q,up:=u,state:=s} (-1)=some false:=by unfold pI;rw[dF (show¬(0:Int)≤-1 by omega)];rfl
theorem aKp{i:Nat}(hi:i<3)(h:(R i).aR.bT.length<=1000000){n:List bJ}:Kq (qf R n k) (i:Int)=some (R i).aR.bT:=by
 have hh:xI (qf R n k) (i:Int)=some true:=by unfold xI;rw[dT (show(0:Int)<=(i:Int)by omega),dT (show(i:Int)<3 by omega)];rfl
 unfold Kq;show(xI (qf R n k) (i:Int)).bind _=_;rw[hh,bF];have:i=0\/i=1\/i=2:=ah
 rcases this with rfl|rfl|rfl
 .show(rD (R 0)).bind _=_;rw[Vi _ h];rfl
 .show(rD (R 1)).bind _=_;rw[Vi _ h];rfl
 .show(rD (R 2)).bind _=_;rw[Vi _ h];rfl
theorem aHq{i:Nat}(hi:i<3){n:List bJ}:Ka (qf R n k) (i:Int)=some (R i).fK:=by
 have hh:xI (qf R n k) (i:Int)=some true:=by unfold xI;rw[dT (show(0:Int)<=(i:Int)by omega),dT (show(i:Int)<3 by omega)];rfl
 unfold Ka;show(xI (qf R n k) (i:Int)).bind _=_;rw[hh,bF];have:i=0\/i=1\/i=2:=ah
 rcases this with rfl|rfl|rfl<;>rfl
theorem aJP(hU:UPS u al)(h3:c.cZ.length=3)(hl:∀x,x<3->al x=true->(R x).aR.bT=L)(hn:L.length<=1000)(h0:0<=lastT L)(ex:∃i,i<3/\al i=true):
  Ok (Np (pl c R k u s)) (λj=>∃i,i<3/\al i=true/\j=(i:Int)):=by
 have step:∀(f j:Nat) (bs tm ln:Int),j<3->zQ ((3:Nat):Int) (pl c R k u s) (f+1) bs tm ln (j:Int)=
   bif al j&&(decide (tm<lastT L)||(lastT L==tm&&decide (ln<(L.length:Int))))then zQ ((3:Nat):Int) (pl c R k u s) f (j:Int) (lastT L) (L.length:Int) ((j+1:Nat):Int)
   else zQ ((3:Nat):Int) (pl c R k u s) f bs tm ln ((j+1:Nat):Int):=by
  intro f j bs tm ln hj;rw[zQ,eFZ,aib hU h3 hj,bF];unfold Fz;rw[bIZ,show((j:Int)+1)=((j+1:Nat):Int)by omega];rcases ha:al j with _|_;rfl;have e:=hl j hj ha;simp only[gI,aX,l6];rw[aKp hj (by rw[e];omega),bF,e];have k2:∀rc:Int->Int->Int->Int->Option Int,Dz rc bs tm ln (j:Int) L (lastT L) (j:Int)=bif(decide (tm<lastT L)||(lastT L==tm&&decide (ln<(L.length:Int))))then rc (j:Int) (lastT L) (L.length:Int) ((j+1:Nat):Int)else rc bs tm ln ((j+1:Nat):Int):=λrc=>by unfold Dz Fz;rw[bIZ,show((j:Int)+1)=((j+1:Nat):Int)by omega]
  by_cases q:0<(L.length:Int)
  .rw[eF q,bIZ,dJZ];have e2:(L.getD ((L.length:Int)-1).toNat aG).iA=lastT L:=(by unfold lastT nA;rw[bW ah]);rw[e2,k2]
  .rw[fA q];have e2:lastT L=0:=(by unfold lastT nA;rw[dn ah]);rw[<-e2,k2,e2]
 have fin:∀(f:Nat) (bs tm ln:Int),zQ ((3:Nat):Int) (pl c R k u s) (f+1) bs tm ln ((3:Nat):Int)=some bs:=by intro f bs tm ln;rw[zQ,fAZ]
 have c1:(decide ((-1:Int)<lastT L)||(lastT L== -1&&decide ((-1:Int)<(L.length:Int))))=true:=by rw[dT ah];rfl
 have c2:(decide (lastT L<lastT L)||(lastT L==lastT L&&decide ((L.length:Int)<(L.length:Int))))=false:=by rw[dF,dF];simp
 obtain⟨f,hf⟩:∃f,fuel=f+4:=⟨18446744073709551612,by rw[iP]⟩;unfold Np;show Ok (zQ ((c.cZ.length:Int)) (pl c R k u s) fuel (-1) (-1) (-1) ((0:Nat):Int)) _;rw[h3,hf,step _ 0 _ _ _ ah];cases a0:al 0 with
 |true=>rw[c1];simp only[Ad,aY];rw[step _ 1 _ _ _ ah,c2,Em,aX,step _ 2 _ _ _ ah,c2,Em,aX,fin];exact Ok.some ⟨0,ah,a0,rfl⟩
 |false=>simp only[nu,aX];rw[step _ 1 _ _ _ ah];cases a1:al 1 with
  |true=>rw[c1];simp only[Ad,aY];rw[step _ 2 _ _ _ ah,c2,Em,aX,fin];exact Ok.some ⟨1,ah,a1,rfl⟩
  |false=>simp only[nu,aX];rw[step _ 2 _ _ _ ah];cases a2:al 2 with
   |true=>rw[c1];simp only[Ad,aY];rw[fin];exact Ok.some ⟨2,ah,a2,rfl⟩
   |false=>
    obtain⟨i,hi,hai⟩:=ex;have:i=0\/i=1\/i=2:=ah;rcases this with rfl|rfl|rfl
    .rw[a0]at hai;cases hai
    .rw[a1]at hai;cases hai
    .rw[a2]at hai;cases hai
theorem Cc:(fM L).length=L.length:=by simp[fM]
theorem apN{P:RF->List aP->Prop}{bg:List bJ}{n:Nat}(hn:n<=100)(h:FL u R bg k n P):Ok (Ng (qf R bg k) u) (λo=>∃R' c',o.2=qf R' [] c'/\P R' c'):=by unfold Ng;exact h fuel 0 aB ah
theorem aqB{e:aP}{i:Nat}{cm:Int}(hU:UPS u al)(h3:c.cZ.length=3)(hQ:Q3 R al L b T)(hD:LD R al L b T i cm)(hs:rY e=some true)(hc:s.eP=(L.length:Int))(hL:L.length<=390)(hT:T<=900000)(hb:b<=800000:=by omega){x f:Nat}(hx:x<4:=by omega):
  Ok (Du e (f+1) (x:Int) (pl c R (fM L) u s)) (λo=>∃R' kF,o=(true,pl c R' (fM (L++ [⟨T,e⟩])) u s)/\lF R' (fM (L++ [⟨T,e⟩]))/\LD R' al (L++ [⟨T,e⟩]) (b+340) T i kF∧∀y,al y=false->R' y=R y):=by
 obtain⟨a,k,o⟩:=ot hD.hi;have hlf:LF L T:=ajJ hQ.tl hQ.t0 (jh _) hD.t1
 have Qs:LF (L++ [⟨T,e⟩]) T:=ajJ (T:=T) (λx hx=>by
  rcases oU.1 hx with h|h
  .exact hQ.tl x h
  .rw[oV.1 h];exact⟨hD.t1,jh _⟩) hQ.t0 (jh _) hD.t1 ah ay
 rw[Du,eFZ];show Ok ((Ik (qf R [] (fM L))).bind _) _
 rw[aGy hD.hi hD.le.ro (λy hy hne=>by
  cases ha:al y with
  |true=>exact(hD.fo y hy hne ha).1.ro
  |false=>exact hQ.dead y hy ha),bF]
 show Ok ((pI (pl c R (fM L) u s) (i:Int)).bind _) _;rw[aib hU h3 hD.hi,bF,hD.ui,aY];show Ok ((Av (qf R [] (fM L)) _).bind _) _;have hc0:=hD.c0;refine Ok.bind (do2 (Q:=λms r=>ms=(Fa i).map (wZ r)/\LE r i T (L++ [⟨T,e⟩]) (b+170) cm/\r.next=(R i).next) hD.hi ((aHp hD.hi hD.le hD.c0 hlf hs ah hD.qu).mono λq hq=> ?_)) λq hq=> ?_
 .obtain⟨r',rfl,g1,g2⟩:=hq;refine⟨by rw[o.e];simp,rfl,lF.upd (k:=i) hQ.oc (LE.cb g1 (show 0<=cm/\cm<=(((L++ [⟨T,e⟩]:LG).length:Nat):Int)from⟨hc0.1,ay⟩) ay) ?_,rfl,g1,g2⟩;show r'.fK<=_;rw[g1.co,Cc];exact hc0.2
 .obtain⟨ms,r,⟨g1,g2,g3⟩,g4,rfl⟩:=hq;rw[g1,o.e];show Ok (Kg _ _ (i:Int) true {dY:=c,bg:=qf (upd R i r) [wZ r a,wZ r k] (fM L),up:=u,state:=s}) _;unfold Kg;rw[aY];have hr:upd R i r i=r:=nN
  have:=aud (R:=upd R i r) (c:=fM L) (c':=fM (L++ [⟨T,e⟩])) (es:=[⟨T,e⟩]) (cm:=cm) (kF:=(((L++ [⟨T,e⟩]:LG).length:Nat):Int)) (bd:=b+170) hU o hD.ui (hQ.JQ i a k o hD.ui) hlf Qs (.inr ⟨e,rfl,hs⟩) Cc g4 (by rw[hr];exact g2) hc0 ah
   (λy hy hne hal=>by
    obtain⟨f1,f2⟩:=hD.fo y hy hne hal;rw[hr,upd_ne hne,g3]
    exact⟨f1.up ah (jh _),f2⟩)
   (.inr ⟨rfl,rfl,ao2,ay,by rw[Cc];simp⟩)
  rw[hr]at this;refine Ok.bind (apN ah this) λw hw=> ?_;obtain⟨R',c',q1,q2,q3,q4,q5,q6⟩:=hw;rw[q1,q2];show Ok ((Ka (qf R' [] (fM (L++ [⟨T,e⟩]))) (i:Int)).bind _) _;rw[aHq hD.hi,bF,q4.co];show Ok (some (decide (s.eP<_),pl c R' (fM (L++ [⟨T,e⟩])) u s)) _;rw[dT (by rw[hc];simp;omega)];refine Ok.some ⟨R',_,rfl,q3,⟨hD.hi,hD.ui,q4.up ah,⟨ay,jh _⟩,λm h1 h2=>ah,hD.t1,λy hy hne hal=> ?_⟩,λy hal=> ?_⟩
  .obtain⟨f1,f2⟩:=q5 y hy hne hal;exact⟨f1.up ah ay,f2⟩
  .have hne:y≠i:=(by rintro rfl;rw[hD.ui]at hal;cases hal);rw[q6 y hne hal,upd_ne hne]
end
section
variable {c:aM} {u:Int} {s:aN} {al:Nat->Bool} {R:RF} {k:List aP} {L:LG} {b:Nat} {T:Int} {e:aP}
theorem aJT(hU:UPS u al)(h3:c.cZ.length=3)(hQ:Q3 R al L b T)(hN:NL R al L b T)(hs:rY e=some true)(hc:s.eP=(L.length:Int))(hL:L.length<=390)(htb:T<=800000)(hbd:b<=700000){f:Nat}:
  Ok (Du e (f+2) 0 (pl c R (fM L) u s)) (λo=>∃R' kF i,o=(true,pl c R' (fM (L++ [⟨T+1,e⟩])) u s)/\lF R' (fM (L++ [⟨T+1,e⟩]))/\LD R' al (L++ [⟨T+1,e⟩]) (b+1020) (T+1) i kF∧∀y,al y=false->R' y=R y):=by
 have ht:=hQ.t0;have hlf:LF L (T+1):=ajJ hQ.tl hQ.t0;rw[Du,eFZ];show Ok ((Ik (qf R [] (fM L))).bind _) _
 rw[aGx (λy hy=>by
  cases ha:al y with
  |true=>exact(hN y hy ha).ro
  |false=>exact hQ.dead y hy ha),bF]
 show Ok ((pI (pl c R (fM L) u s) (-1)).bind _) _;rw[aJd,bF,aX];show Ok (Kg _ 0 (-1) false (pl c R (fM L) u s)) _;unfold Kg;rw[aX];refine Ok.bind (aJP hU h3 (λx hx ha=>(hN x hx ha).lg) ah (aat hQ.tl hQ.t0).1 hQ.ex) λj hj=> ?_;obtain⟨i,hi,ui,rfl⟩:=hj;obtain⟨a,q,o⟩:=ot hi;have hF:=hN i hi ui;have hab:=hQ.JQ i a q o ui;refine Ok.bind (do1 (R:=R) (c:=fM L) (Q:=λms r=>ms=(Fa i).map (Dl r)/\CA r i (T+1) L (b+170) (L.length:Int)) hi ((aGo hi hF.id hF.n hF.dk ah ⟨by rw[hF.tm];omega,by rw[hF.tm];omega⟩ (by rw[hF.lg];omega)).mono λw hw=> ?_)) λw hw=> ?_
 .obtain⟨d,rfl,hd⟩:=hw;have g:CA (LQ (R i) d i) i (T+1) L (b+170) (L.length:Int):=⟨hF.id,hF.n,rfl,by show(R i).aR.gJ+1=_;rw[hF.tm],hF.lg,hd,hF.c0,hF.c1,rfl⟩;refine⟨by rw[o.e];simp,hQ.oc.upd (k:=i) (.inr ⟨g.c0,by rw[g.lg];exact g.c1,by rw[g.lg];omega⟩) (by have:=g.c1;rw[Cc];exact this),rfl,g⟩
 .obtain⟨ms,r,⟨g1,g2⟩,g4,rfl⟩:=hw;rw[g1,o.e];have hr:upd R i r i=r:=nN
  have:=aLW (R:=upd R i r) (c:=fM L) (bd:=b+170) hU o ui hab hlf (λx hx=>(hQ.tl x hx).2) ht Cc g4 ah (by rw[hr];exact g2)
   (λy hy hne hal=>by rw[upd_ne hne];exact(hN y hy hal).up ah (jh _))
  rw[hr]at this;show Ok ((Ng (qf (upd R i r) [Dl r a,Dl r q] (fM L)) u).bind _) _;refine Ok.bind (apN ah this) λw hw=> ?_;obtain⟨R',c',q1,q2,q3,q4,q5,q6⟩:=hw;rw[q1,q2];show Ok (Du e (f+1) 1 (pl c R' (fM L) u s)) _;have yg:∀y,al y=false->R' y=R y:=λy hal=>by have hne:y≠i:=(by rintro rfl;rw[ui]at hal;cases hal);rw[q6 y hne hal,upd_ne hne]
  have hQ':Q3 R' al L (b+680) (T+1):=⟨ah,λx hx=>⟨(hQ.tl x hx).1,by have:=(hQ.tl x hx).2;omega⟩,hQ.ln,q3,hQ.JQ,hQ.ex,λx hx hal=>by rw[yg x hal];exact hQ.dead x hx hal⟩;have hD':LD R' al L (b+680) (T+1) i r.fK:=⟨hi,ui,q4.up ah,⟨g2.c0,g2.c1⟩,λm h1 h2=>by have:=ajh (λx hx=>(hQ.tl x hx).2) ht (m-1);omega,ah,λy hy hne hal=>⟨(q5 y hy hne hal).1.up ah (jh _),(q5 y hy hne hal).2⟩⟩;refine(aqB (x:=1) hU h3 hQ' hD' hs hc hL ah ah ah).mono λo ho=> ?_;obtain⟨R2,kF,o1,o2,o3,o4⟩:=ho;exact⟨R2,kF,i,o1,o2,⟨o3.hi,o3.ui,o3.le.up ah,o3.c0,o3.qu,o3.t1,λy hy hne hal=>⟨(o3.fo y hy hne hal).1.up ah (jh _),(o3.fo y hy hne hal).2⟩⟩,λy hal=>by rw[o4 y hal,yg y hal]⟩
end
def mk3(al:Nat->Bool):Int:=(bif al 0 then 1 else 0)+(bif al 1 then 2 else 0)+(bif al 2 then 4 else 0)
theorem ai9(al:Nat->Bool):UPS (mk3 al) al:=by
 constructor<;>
 .intro i hi;have:i=0\/i=1\/i=2:=ah
  unfold mk3;rcases this with rfl|rfl|rfl<;>cases al 0<;>cases al 1<;>cases al 2<;>decide
theorem aKe(al:Nat->Bool){i:Nat}(hi:i<3)(h:al i=true):Lh .i64 (mk3 al) (iL .i64 1 (i:Int))=mk3 λx=>al x&& !(x==i):=by
 have:i=0\/i=1\/i=2:=ah
 show Lh .i64 ((bif al 0 then 1 else 0)+(bif al 1 then 2 else 0)+(bif al 2 then 4 else 0)) (iL .i64 1 (i:Int))=(bif al 0&& !(0==i)then 1 else 0)+(bif al 1&& !(1==i)then 2 else 0)+(bif al 2&& !(2==i)then 4 else 0);rcases this with rfl|rfl|rfl<;>cases al 0<;>cases al 1<;>cases al 2<;>decide
structure H3(c:aM)(al:Nat->Bool)(p:bO)(l:List aP)(s:aN):Prop where
 ok:∃R L b T,p=pl c R (fM L) (mk3 al) s/\fM L=l/\Q3 R al L b T/\T<=(L.length:Int)/\b<=1100*(L.length+1)/\s.eP=(L.length:Int)/\c.cZ.length=3/\(NL R al L b T∨∃i cm,LD R al L b T i cm)
section
variable {c:aM} {al:Nat->Bool} {p:bO} {l:List aP} {s s':aN} {e:aP}
theorem H3.norm(h:H3 c al p l s):((kX p):bO)=p:=by obtain⟨R,L,b,T,rfl,_⟩:=h.ok;rfl
theorem H3.cfg(h:H3 c al p l s):p.dY=c:=by obtain⟨R,L,b,T,rfl,_⟩:=h.ok;rfl
theorem H3.sta(h:H3 c al p l s):p.state=s:=by obtain⟨R,L,b,T,rfl,_⟩:=h.ok;rfl
theorem aLp(al:Nat->Bool)(hm:∀i a k,OT i a k->al i=true->al a=true\/al k=true)(ex:∃i,i<3/\al i=true):∃n,Sn (IntKind.u64.wrap (mk3 al))=some n/\2<=n/\n<=3:=by
 have h0:=hm 0 1 2 ⟨ah,ah,ah,ah,ah,ah,rfl⟩;have h1:=hm 1 0 2 ⟨ah,ah,ah,ah,ah,ah,rfl⟩;have h2:=hm 2 0 1 ⟨ah,ah,ah,ah,ah,ah,rfl⟩;have hx:al 0=true\/al 1=true\/al 2=true:=by
  obtain⟨i,hi,ha⟩:=ex;have:i=0\/i=1\/i=2:=ah
  rcases this with rfl|rfl|rfl
  .exact .inl ha
  .exact .inr (.inl ha)
  .exact .inr (.inr ha)
 unfold mk3;revert h0 h1 h2 hx;cases al 0<;>cases al 1<;>cases al 2<;>intro h0 h1 h2 hx<;>simp at h0 h1 h2 hx
 .exact⟨2,rfl,ah,ah⟩
 .exact⟨2,rfl,ah,ah⟩
 .exact⟨2,rfl,ah,ah⟩
 .exact⟨3,rfl,ah,ah⟩
theorem H3.propose(h:H3 c al p l s)(hA:Cb c s e=some (s',0))(hs:rY e=some true)(hc:s'.eP=s.eP+1)(hl:l.length<=390):
  Ok (Km p e) (λo=>o.2.1=0/\H3 c al o.2.2 (l++ [e]) s'):=by
 obtain⟨R,L,b,T,rfl,rfl,hQ,hT,hb,hcn,h3,hD⟩:=h.ok;rw[Cc]at hl;obtain⟨n,r1,r2,r3⟩:=aLp al hQ.JQ hQ.ex;unfold Km;show Ok ((zk (pl c R (fM L) (mk3 al) s)).bind _) _;have hr:zk (pl c R (fM L) (mk3 al) s)=some true:=by unfold zk;simp only;rw[r1,bF,h3,bIZ,dT ah]
 rw[hr,bF];simp only[gI,aX];rw[hA,bF];simp only[jT,aX];show Ok ((Sg (pl c R (fM L) (mk3 al) s) e).bind _) _;have key:Ok (Sg (pl c R (fM L) (mk3 al) s) e) (λo=>∃R' L' b' T' kF i,o=(true,pl c R' (fM L') (mk3 al) s)/\fM L'=fM L++ [e]/\Q3 R' al L' b' T'/\T'<=(L'.length:Int)/\b'<=1100*(L'.length+1)/\LD R' al L' b' T' i kF):=by
  unfold Sg;show Ok (Du e fuel 0 (pl c R (fM L) (mk3 al) s)) _;obtain⟨f,hf⟩:∃f,fuel=f+2:=⟨18446744073709551614,by rw[iP]⟩;rw[hf];have ht0:=hQ.t0;rcases hD with hN|⟨i,cm,hD⟩
  .refine(aJT (ai9 al) h3 hQ hN hs hcn hl ah ah).mono λo ho=> ?_;obtain⟨R',kF,i,rfl,o2,o3,o4⟩:=ho;refine⟨R',L++ [⟨T+1,e⟩],b+1020,T+1,kF,i,rfl,by simp[fM],⟨ah,λx hx=> ?_,ay,o2,hQ.JQ,hQ.ex,λx hx hal=>by rw[o4 x hal];exact hQ.dead x hx hal⟩,ay,ay,o3⟩;rcases oU.1 hx with h|h
   .have:=hQ.tl x h;omega
   .rw[oV.1 h];show 1<=T+1/\T+1<=T+1;omega
  .refine(aqB (x:=0) (f:=f+1) (ai9 al) h3 hQ hD hs hcn hl ah ah ah).mono λo ho=> ?_;obtain⟨R',kF,rfl,o2,o3,o4⟩:=ho;have ht1:=hD.t1;refine⟨R',L++ [⟨T,e⟩],b+340,T,kF,i,rfl,by simp[fM],⟨hQ.t0,λx hx=> ?_,ay,o2,hQ.JQ,hQ.ex,λx hx hal=>by rw[o4 x hal];exact hQ.dead x hx hal⟩,ay,ay,o3⟩;rcases oU.1 hx with h|h
   .exact hQ.tl x h
   .rw[oV.1 h];show 1<=T/\T<=T;omega
 refine Ok.bind key λo ho=> ?_;obtain⟨R',L',b',T',kF,i,rfl,o1,o2,o3,o4,o5⟩:=ho;simp only[gI,aX];have hlen:L'.length=L.length+1:=by rw[<-Cc,o1];simp[fM]
 exact Ok.some ⟨rfl,⟨R',L',b',T',rfl,o1,o2,o3,o4,by rw[hc,hcn];omega,h3,.inr ⟨i,kF,o5⟩⟩⟩
end
section
variable {p:List Int}{j:fT}{b:Nat}
theorem agX(hp:p.length<=10000000:=by omega):Ok (OC p) (λr=>r.2.2≠0\/(1<=r.2.1/\r.2.1<=(p.length:Int))):=by
 unfold OC;refine jX (L:=λm x k=>N9 p m x k) 10 ah (λk _=>k<=p.length) (zu _) (λm k x hk hI hn=> ?_) (λm x hI=> ?_)
 .rw[N9,eFZ];refine Ok.cond (λ_=>Ok.some (.inl ak)) (λh=> ?_);have hne:(k:Int)≠(p.length:Int):=aD h
  rw[dJZ,gU (dT (xZ _).1),bI (x:=(k:Int)+1) ah ah];refine Ok.cond (λ_=>hn _ ah) (λ_=>Ok.cond (λ_=>Ok.some (.inl ak)) (λ_=> ?_));unfold agD;refine Ok.bind (P:=λ_=>True) (Ok.cond (λ_=>Ok.some trivial) (λ_=>Ok.some trivial)) λ_ _=>Ok.some (.inr (by simp only;omega))
 .rw[N9,fAZ];exact Ok.some (.inl ak)
theorem apo(e:aP):Ok (rY e) (λ_=>True):=by obtain⟨s,s1,_⟩:=Oh (e:=e) {wM:=32,cells:=16,regions:=4,zW:=30} (by simp only;omega);unfold rY;rw[s1,bF];exact Ok.some trivial
theorem aKs{p:List Int}(hp:p.length<=10000000):Ok (ZR p) (λ_=>True):=by
 unfold ZR;refine jX (L:=λm (x:uY×Int) k=>wF p m x.1 x.2 k) (x:=(_,0)) 9 ah (λk x=>0<=x.2/\x.2<=(p.length:Int)) ⟨jh 0,by show(0:Int)<=_;omega⟩ (λm k x hk hI hn=> ?_) (λm x hI=> ?_)
 .show Ok (wF p (m+1) x.1 x.2 (k:Int)) _;rw[wF,eFZ,gU (dT ⟨hI.1,hI.2,jh _⟩)];refine Ok.bind (agX ay) λy hy=>Ok.cond (λ_=>Ok.some trivial) (λh=> ?_);have hy2:1<=y.2.1/\y.2.1<=((p.drop x.2.toNat).length:Int):=by
   rcases hy with q|q
   .exact(q (aD h)).elim
   .exact q
  have hl:((p.drop x.2.toNat).length:Int)=(p.length:Int)-x.2:=ay
  have hk1:∀a,Ok (AA (wF p m) x.2 (k:Int) a y.2.1) (λ_=>True):=λa=>by unfold AA;rw[bIZ,bI (x:=(k:Int)+1) ah ah];exact hn (a,x.2+y.2.1) ⟨by simp only;omega,by simp only;omega⟩
  refine Ok.cond (λ_=>hk1 _) λh8=>Ok.cond (λ_=>hk1 _) λh7=>Ok.cond (λ_=>hk1 _) λh6=>Ok.cond (λ_=>hk1 _) λh5=>Ok.cond (λ_=>hk1 _) λh4=>Ok.cond (λ_=>hk1 _) λh3=>Ok.cond (λ_=>hk1 _) λh2=>Ok.cond (λ_=>hk1 _) λh1=>Ok.cond (λ_=>hk1 _) λh0=> ?_;simp at h8 h7 h6 h5 h4 h3 h2 h1 h0;omega
 .show Ok (wF p (m+1) x.1 x.2 _) _;rw[wF,fAZ];refine Ok.bind (apo _) λ_ _=>Ok.cond (λ_=>Ok.some trivial) (λ_=>Ok.some trivial)
theorem aKJ(hp:p.length<=900000):Ok (ZT p 8) (λr=>r.2.2≠0\/(1<=r.2.1/\r.2.1<=(p.length:Int)/\r.1.length<=p.length)):=by
 unfold ZT;refine Ok.bind (agX) λx hx=>Ok.cond (λh=>Ok.some (.inl (aD h))) (λh=> ?_);have hx2:1<=x.2.1/\x.2.1<=(p.length:Int):=by
  rcases hx with q|q
  .exact(q (aD h)).elim
  .exact q
 refine Ok.cond (λ_=>Ok.some (.inl ak)) (λh1=>Ok.cond (λ_=>Ok.some (.inl ak)) (λh2=>Ok.cond (λ_=>Ok.some (.inl ak)) (λh3=> ?_)));have h1:=wO h1;have h2:=wO h2;have h3:=wO h3;rw[bIZ,bIZ]at h3;refine jX (L:=λm y k=>Oj p 8 x.1 x.2.1 m y k) 8 ah (λk _=>True) trivial (λm k y hk hI hn=> ?_) (λm y hI=> ?_)
 .rw[Oj,eFZ,bIZ,dJZ,gU (dT (xZ _).1),bI (x:=(k:Int)+1) ah ah];exact hn _ trivial
 .rw[Oj,fAZ,bI (x:=x.2.1+8) ah ah,bI (x:=x.2.1+8+x.1) ah ah,gU (dT ⟨ah,ah,ah⟩),gU (dT (rm ay))];refine Ok.bind (aoT ay _) λz _=>Ok.cond (λ_=>Ok.some (.inl ak)) (λ_=>Ok.some (.inr ⟨by simp only;omega,by simp only;omega,ay⟩))
theorem ahD{p:List Int}(hp:p.length<=900000):Ok (Ox p) (λr=>r.2.1.length<=p.length):=by
 unfold Ox;refine Ok.bind (agX) λx hx=>Ok.cond (λ_=>Ok.some aj) (λh=> ?_);have hx2:1<=x.2.1/\x.2.1<=(p.length:Int):=by
  rcases hx with q|q
  .exact(q (aD h)).elim
  .exact q
 rw[gU (dT ⟨ah,hx2.2,jh _⟩)];exact Ok.some aj
theorem aIu(hp:p.length<=900000):Ok (XV j p) (λ_=>True):=by
 unfold XV;refine Ok.bind (ahD hp) λx hx=>Ok.cond (λ_=>Ok.some trivial) λ_=>Ok.bind (ahD (p:=x.2.1) ah) λy hy=>Ok.cond (λ_=>Ok.some trivial) λ_=>Ok.cond (λ_=> ?_) λ_=>Ok.cond (λ_=> ?_) λ_=>Ok.cond (λ_=> ?_) λ_=>Ok.some trivial
 .refine Ok.bind (ahD (p:=y.2.1) ah) λz hz=>Ok.bind (P:=λ_=>True) (Ok.cond (λ_=> ?_) λ_=>Ok.some trivial) λ_ _=>Ok.some trivial;unfold RN;exact Ok.cond (λ_=>Ok.some trivial) λ_=>Ok.cond (λ_=>Ok.some trivial) λ_=>Ok.some trivial
 .refine Ok.bind (aKs (p:=y.2.1) ah) λz _=>Ok.cond (λ_=> ?_) λ_=>Ok.some trivial;refine Ok.bind (P:=λ_=>True) ?_ λ_ _=>Ok.some trivial;unfold Sm;refine Ok.bind (P:=λ_=>True) (Ok.cond (λ_=>apo _) λ_=>Ok.some trivial) λ_ _=>Ok.cond (λ_=>Ok.some trivial) λ_=>Ok.bind (P:=λ_=>True) (Ok.cond (λ_=>Ok.eq (Eo _ _) trivial) λ_=>Ok.some trivial) λ_ _=>Ok.cond (λ_=>Ok.some trivial) λ_=>Ok.cond (λ_=>Ok.some trivial) λh=> ?_;have h:=wO h;rw[gU (dT (rm ay))];exact Ok.some trivial
 .refine Ok.cond (λ_=>Ok.bind (P:=λ_=>True) ?_ λ_ _=>Ok.some trivial) λ_=>Ok.some trivial;unfold Ym;refine Ok.cond (λ_=>Ok.some trivial) λh=> ?_;rw[nW]at h;have h1:=wO h.1;have h2:=wO h.2;rw[gU (dT ⟨ah,ah⟩),gU (dT ah)];exact Ok.some trivial
theorem aIf(h:oI j.bX b)(hb:b<=800000):Ok (X7 j 0) (λ_=>True):=by
 have h1:=h.lo;have h2:=h.hi;have h3:=h.ln;unfold X7 afS;have e:aQ (j.bX.qL+jD 0 (ji 0 (aQ ((j.bX.data.length:Int)-j.bX.qL))))=j.bX.qL:=by
  rw[bI (x:=(j.bX.data.length:Int)-j.bX.qL) ah ah];have:jD 0 (ji 0 ((j.bX.data.length:Int)-j.bX.qL))=0:=by unfold jD ji;split<;>split<;>omega
  rw[this,Int.add_zero,bIZ]
 rw[e,gU (dT ⟨h1,h2⟩),gU (dT ah),bF];unfold Sz;rw[gU (dT (rm ay)),bF];simp only;generalize hx:j.bX.data.take j.bX.qL.toNat=x;have hxl:x.length<=800000:=by rw[<-hx];simp;omega
 have k1:∀(i:Int) (q:fT),Ok (RB i q) (λ_=>True):=λi q=>by unfold RB afe;refine Ok.bind (P:=λ_=>True) (Ok.cond (λ_=>Ok.some trivial) λh=> ?_) λ_ _=>Ok.some trivial;rw[nW]at h;have h1:=wO h.1;have h2:=wO h.2;rw[gU (dT ⟨ah,ah⟩),gU (dT ah)];exact Ok.some trivial
 refine aL6 (L:=λm (y:Int×fT)=>J9 x m y.1 y.2) (x:=(0,_)) (λy=>x.length-y.1.toNat) (λy=>0<=y.1/\y.1<=(x.length:Int)) ⟨jh 0,by show(0:Int)<=_;omega⟩ (by simp only;omega) (λm y hI hn=> ?_);show Ok (J9 x (m+1) y.1 y.2) _;rw[J9];refine Ok.cond (λhlt=> ?_) λ_=>k1 _ _;have hlt:=iX hlt;rw[gU (dT ⟨hI.1,hI.2,jh _⟩)];have hdl:(x.drop y.1.toNat).length=x.length-y.1.toNat:=aj
 refine Ok.bind (aKJ ah) λz hz=>Ok.cond (λ_=> ?_) λh=> ?_
 .unfold RD;exact k1 _ _
 .have hz2:1<=z.2.1/\z.2.1<=((x.drop y.1.toNat).length:Int)/\z.1.length<=(x.drop y.1.toNat).length:=by
   rcases hz with q|q
   .exact(q (aD h)).elim
   .exact q
  refine Ok.bind (aIu ah) λw _=> ?_;unfold RD;refine Ok.cond (λ_=>k1 _ _) λ_=> ?_;rw[bIZ];exact hn (y.1+z.2.1,w.2) ⟨by simp only;omega,by simp only;omega⟩ (by simp only;omega)
theorem aI0{r:bn}(h:oI r.aR.bX b)(hb:b<=800000):Ok (BQ r 0) (λr'=>r'.id=r.id/\r'.n=r.n/\r'.fO=1/\r'.fK=0):=by unfold BQ;exact Ok.bind (aIf h hb) λx _=>Ok.some ⟨rfl,rfl,rfl,rfl⟩
end
section
variable {c:aM} {s:aN}
structure SpI(c:aM)(n:Nat)(sp:List iK):Prop where
 len:sp.length<=n
 idx:sp.Pairwise (λa b=>a.gQ<b.gQ)
 rng:∀x∈sp,(0<=x.gQ/\x.gQ<(n:Int))/\(0<=x.aI/\x.aI<(c.aH.length:Int))/\x.dV.From<=x.dV.bY/\0<=x.dV.From/\x.dV.bY<=1073741824
end
section
variable {c:aM}
theorem xP{a lo hi:Int}(h:lo<=a/\a<=hi):mZ a lo hi=some true:=by unfold mZ;rw[eY h.1,eY h.2];rfl
theorem OW{a lo hi:Int}(h:lo<=a/\a<=hi):BZ a lo hi=some true:=by unfold BZ;rw[eY h.1,eY h.2];rfl
theorem aEH(h:VC c):Zp c=some true:=by have a1:mZ c.gK 1 4=some true:=xP (by have:=h.reg;omega);have a2:mZ (c.iM.length:Int) 1 8=some true:=xP (by have:=h.zl;omega);have a3:mZ (c.aK.length:Int) 1 16=some true:=xP (by have:=h.cl;omega);have a4:mZ (c.fG.length:Int) 1 30=some true:=xP (by have:=h.vl;omega);have a5:mZ (c.cZ.length:Int) 1 5=some true:=xP (by have:=h.rl;omega);have a6:mZ (c.jW.length:Int) 1 9=some true:=xP (by have:=h.ol;omega);unfold Zp;simp only[a1,a2,a3,a4,a5,a6,bE,aY,Ad,l6];rw[eY (by have:=h.tl;omega)]
theorem LH{β:Type}{L:Nat->Int->Option β}{r:β}(n:Nat)(hn:n<18446744073709551616)(step:∀(m k:Nat),k<n->L (m+1) (k:Int)=L m ((k:Int)+1))(done:∀m,L (m+1) (n:Int)=some r):L fuel 0=some r:=by
 have key:∀(m k:Nat),k<=n->n-k<m->L m (k:Int)=some r:=by intro m;induction m with
  |zero=>intro k _ h;omega
  |succ m ih=>
   intro k hk hm;by_cases h:k<n
   .rw[step m k h];have:=ih (k+1) ah ah;simpa using this
   .have:k=n:=ah;subst this;exact done m
 exact key fuel 0 (zu _) aB
theorem K8{α:Type} [Inhabited α]{xs:List α}{k:Nat}(h:k<xs.length):xs.getD k aG∈xs:=by rw[fD,jR h];exact zo h
theorem aFy(h:VC c):ZL c=some true:=by
 have hz:=h.zl;have hcl:=h.cl;have hrl:=h.rl;have hol:=h.ol;have ql:=h.reg;unfold ZL;refine LH c.iM.length ah (λm k hk=> ?_) (λm=> ?_)
 .have hx:=h.z _ (K8 hk);rw[TK,eFZ,dJZ,bIZ,bIZ];have e:mZ (c.iM.getD (k:Int).toNat aG).Region 0 (c.gK-1)=some true:=xP (by simp only[gL];omega);rw[e];rfl
 .rw[TK,fAZ,bIZ];refine LH c.aK.length ah (λm k hk=> ?_) (λm=> ?_)
  .have hx:=h.oK _ (K8 hk);rw[TJ,eFZ,dJZ,bIZ];have e:mZ (c.aK.getD (k:Int).toNat aG).uJ 0 ((c.iM.length:Int)-1)=some true:=xP (by simp only[gL];omega);rw[e];rfl
  .rw[TJ,fAZ];refine LH c.cZ.length ah (λm k hk=> ?_) (λm=> ?_)
   .have hx:=h.r _ (K8 hk);rw[TI,eFZ,dJZ,bIZ];have e:mZ (c.cZ.getD (k:Int).toNat aG) 0 ((c.iM.length:Int)-1)=some true:=xP (by simp only[gL];omega);rw[e];rfl
   .rw[TI,fAZ];refine LH c.jW.length ah (λm k hk=> ?_) (λm=> ?_)
    .have hx:=h.o _ (K8 hk);rw[TH,eFZ,dJZ,bIZ];have e:mZ (c.jW.getD (k:Int).toNat aG) 0 ((c.iM.length:Int)-1)=some true:=xP (by simp only[gL];omega);rw[e];rfl
    .rw[TH,fAZ]
theorem aFz(h:VC c):ZM c=some true:=by
 have hcl:=h.cl;have hvl:=h.vl;unfold ZM;refine LH c.aK.length ah (λm k hk=> ?_) (λm=> ?_)
 .have hx:=h.oK _ (K8 hk);rw[TM,eFZ,dJZ,bIZ];have e:mZ (c.aK.getD (k:Int).toNat aG).mg 1 4194304=some true:=xP (by simp only[gL];omega);rw[e];rfl
 .rw[TM,fAZ];refine LH c.fG.length ah (λm k hk=> ?_) (λm=> ?_)
  .have hx:=h.v _ (K8 hk);rw[TL,eFZ,dJZ,bIZ];simp only[gL];rw[fV ah,fV ah,fV ah];have e:((((k:Int)==0)&&((c.fG.getD k aG).gP !=0)))=false:=by
    by_cases hk0:k=0
    .subst hk0;rw[h.v0];rfl
    .have:((k:Int)==0)=false:=ay;rw[this];rfl
   rw[e];rfl
  .rw[TL,fAZ,xP (by have:=h.blast;omega),xP (by have:=h.yt;omega),xP (by have:=h.bake;omega)];rfl
theorem aGk(h:VC c):Z7 c=some 0:=by
 have e:(Int.tmod (c.cZ.length:Int) 2==0)=false:=by
  have h1:=h.ro;have:Int.tmod (c.cZ.length:Int) 2=1:=by rw[asv ah];omega
  rw[this];rfl
 unfold Z7;rw[aEH h,e];simp only[bE,gI,jQ,aX,aY,aFy h,aFz h,kW,nO]
theorem aGB{r:Int}(hr:1<=r/\r<=3){x:iG}(h:VT r x):YC x r=some true:=by obtain⟨s1,s2⟩:=aq6 hr;unfold YC;rw[OW h.load,OW h.shadow,OW h.prio,OW h.lag,s2,OW (a:=x.Ce) (by have:=h.allowed;omega),OW h.group];simp only[bE,aY,Ad,aqx s1]
theorem af5(h:VC c):Ui c=some 0:=by
 unfold Ui;rw[aGk h];show N8 c c.aH (c.aH.length:Int) fuel 0=some 0;have ht:=h.tl;refine LH c.aH.length ah (λm k hk=> ?_) (λm=> ?_)
 .rw[N8,eFZ,dJZ,bIZ,aGB h.reg (h.t _ (by simp only[gL];exact K8 hk))];rfl
 .rw[N8,fAZ]
end
section
variable {c:aM} {al:Nat->Bool} {p:bO} {l:List aP} {s:aN}
theorem H3.fail{i:Nat}(h:H3 c al p l s)(hi:i<3)(ha:al i=true)(hl:l.length<=390)(hm:∀x a k,OT x a k->(al x&& !(x==i))=true->(al a&& !(a==i))=true\/(al k&& !(k==i))=true)(hx:∃x,x<3/\(al x&& !(x==i))=true):
  Ok (NA p (i:Int)) (λo=>o.1=0/\H3 c (λx=>al x&& !(x==i)) o.2 l s):=by
 obtain⟨R,L,b,T,rfl,rfl,hQ,hT,hb,hcn,h3,hD⟩:=h.ok;rw[Cc]at hl;have hdk:oI (R i).aR.bX b:=by
  rcases hD with hN|⟨j,cm,hD⟩
  .exact(hN i hi ha).dk
  .by_cases q:i=j
   .subst q;exact hD.le.dk
   .exact(hD.fo i hi q ha).1.dk
 unfold NA;simp only[h3];rw[dF (show¬(i:Int)<0 by omega),dF (show¬((3:Nat):Int)<=(i:Int)by omega)];simp only[qc,aX];show Ok ((pI (pl c R (fM L) (mk3 al) s) (i:Int)).bind _) _;rw[aib (ai9 al) h3 hi,bF,ha];simp only[gI,aX];rw[gU (dT ah)];show Ok ((Av (qf R [] (fM L)) _).bind _) _;refine Ok.bind (do7 (Q:=λr=>r.fO=1/\r.fK=0) hi ((aI0 hdk ah).mono λr hr=>⟨hQ.oc.upd (.inl (by rw[hr.2.2.2];omega)) (by rw[hr.2.2.2];omega),hr.2.2.1,hr.2.2.2⟩)) λo ho=> ?_;obtain⟨r,⟨r1,r2⟩,r3,rfl⟩:=ho;refine Ok.some ⟨rfl,⟨upd R i r,L,b,T,?_,rfl,⟨hQ.t0,hQ.tl,hQ.ln,r3,hm,hx,λx hx3 hal=> ?_⟩,hT,hb,hcn,h3,?_⟩⟩
 .show(_:bO)=_;simp only;rw[aKe al hi ha];rfl
 .by_cases q:x=i
  .subst q;rw[nN,r1];omega
  .rw[upd_ne q];refine hQ.dead x hx3 ?_;simpa[q]using hal
 .have hne:∀x,(al x&& !(x==i))=true->x≠i/\al x=true:=λx hal=>by rw[dQ]at hal;exact⟨aD hal.2,hal.1⟩
  rcases hD with hN|⟨j,cm,hD⟩
  .exact .inl λx hx3 hal=>by obtain⟨q1,q2⟩:=hne x hal;rw[upd_ne q1];exact hN x hx3 q2
  .by_cases q:i=j
   .subst q;exact .inl λx hx3 hal=>by obtain⟨q1,q2⟩:=hne x hal;rw[upd_ne q1];exact(hD.fo x hx3 q1 q2).1
   .have q':j≠i:=λw=>q w.symm;refine .inr ⟨j,cm,hD.hi,by rw[hD.ui];simpa using q',by rw[upd_ne q'];exact hD.le,hD.c0,hD.qu,hD.t1,λx hx3 hxj hal=> ?_⟩;obtain⟨q1,q2⟩:=hne x hal;rw[upd_ne q1,upd_ne q'];exact hD.fo x hx3 hxj q2
def GZ(c:aM)(z:Int):Int:=(c.iM.getD z.toNat aG).Region
def rO(c:aM)(j:Nat):Int:=GZ c (c.cZ.getD j aG)
theorem aiz(hc:VC c){j:Nat}(hj:j<c.cZ.length):0<=c.cZ.getD j aG/\c.cZ.getD j aG<(c.iM.length:Int):=by refine hc.r _ ?_;rw[fD,jR hj];exact zo _
theorem OP(hc:VC c)(h:H3 c al p l s){r:Int}{f j:Nat}{n:Int}(hj:j<3){Q:Int×bO->Prop}
  (h0:rO c j≠r->Ok (BO r c.cZ (c.cZ.length:Int) f n ((j+1:Nat):Int) p) Q)
  (h1:rO c j=r->Ok (NA p (j:Int)) (λo=>o.1=0/\(∃al',H3 c al' o.2 l s)/\Ok (BO r c.cZ (c.cZ.length:Int) f (aQ (n+1)) ((j+1:Nat):Int) o.2) Q)):
  Ok (BO r c.cZ (c.cZ.length:Int) (f+1) n (j:Int) p) Q:=by
 obtain⟨R,L,b,T,_,_,_,_,_,_,h3,_⟩:=h.ok;obtain⟨z0,z1⟩:=aiz hc (show j<c.cZ.length by omega);rw[BO,eFZ,dJZ,h.cfg];simp only[gL];rw[dJ z0 z1];unfold Io Nw;rw[bI (x:=(j:Int)+1) ah ah,show((j:Int)+1)=((j+1:Nat):Int)by omega];show Ok (bif rO c j==r then _ else _) _;by_cases q:rO c j=r
 .rw[show(rO c j==r)=true by simpa using q,aY];refine Ok.bind (h1 q) λo ho=> ?_;obtain⟨o1,⟨al',o2⟩,o3⟩:=ho;rw[o1,o2.norm];simp only[PK,aY];exact o3
 .rw[show(rO c j==r)=false by simpa using q,aX];simp only[aX];exact h0 q
theorem H3.lose(hc:VC c)(h:H3 c (λ_=>true) p l s)(hl:l.length<=390){r:Int}(hM:∀i j,i<3->j<3->i≠j->rO c i=r->rO c j≠r):
  Ok (Sr p r) (λo=>∃al',H3 c al' o.2 l s):=by
 unfold Sr;rw[h.norm,h.cfg];obtain⟨f,hf⟩:∃f,fuel=f+4:=⟨18446744073709551612,by rw[iP]⟩;rw[hf];have h3:c.cZ.length=3:=by obtain⟨R,L,b,T,_,_,_,_,_,_,h3,_⟩:=h.ok;exact h3
 have fin:∀(f:Nat) (n:Int) (p':bO) (al':Nat->Bool),H3 c al' p' l s->Ok (BO r c.cZ (c.cZ.length:Int) (f+1) n ((3:Nat):Int) p') (λo=>∃al',H3 c al' o.2 l s):=λf n p' al' h'=>by rw[BO,fAZ];exact Ok.some ⟨al',h'⟩
 have JQ:∀i,i<3→∀x a k,OT x a k->(true&& !(x==i))=true->(true&& !(a==i))=true\/(true&& !(k==i))=true:=λi hi x a k o _=>by
  have:=o.ab;by_cases q:a=i
  .exact .inr ay
  .exact .inl ay
 have mex:∀i,i<3→∃x,x<3/\(true&& !(x==i))=true:=λi hi=>by
  by_cases q:i=0
  .exact⟨1,ah,ay⟩
  .exact⟨0,ah,ay⟩
 have fl:∀i:Nat,i<3->Ok (NA p (i:Int)) (λo=>o.1=0/\H3 c (λx=>true&& !(x==i)) o.2 l s):=λi hi=>h.fail hi rfl hl (JQ i hi) (mex i hi);show Ok (BO r c.cZ (c.cZ.length:Int) (f+3+1) 0 ((0:Nat):Int) p) _;refine OP hc h ah (λn0=> ?_) λy0=>(fl 0 ah).mono λo ho=>⟨ho.1,⟨_,ho.2⟩,?_⟩
 .refine OP hc h ah (λn1=> ?_) λy1=>(fl 1 ah).mono λo ho=>⟨ho.1,⟨_,ho.2⟩,?_⟩
  .refine OP hc h ah (λn2=>fin _ _ _ _ h) λy2=>(fl 2 ah).mono λo ho=>⟨ho.1,⟨_,ho.2⟩,fin _ _ _ _ ho.2⟩
  .exact OP hc ho.2 ah (λ_=>fin _ _ _ _ ho.2) λy2=>(hM 1 2 ah ah ah y1 y2).elim
 .refine OP hc ho.2 ah (λ_=> ?_) λy1=>(hM 0 1 ah ah ah y0 y1).elim;exact OP hc ho.2 ah (λ_=>fin _ _ _ _ ho.2) λy2=>(hM 0 2 ah ah ah y0 y2).elim
theorem aJf:∀a b:Fin 3,(je .i64 (iJ .i64 (iL .i64 1 (IntKind.u64.wrap (a.1:Int))) (IntKind.u64.wrap (b.1:Int))) 1==1)=decide (b=a):=ak
theorem aJ9(hc:VC c){r g:Int}(hr:0<=r/\r<c.gK)(hg:0<=g/\g<c.gK):ZK c (iL .i64 1 (IntKind.u64.wrap r)) g=some (g==r):=by
 have h1:=hc.reg;unfold ZK;rw[xP (by rw[bIZ];omega),bF];simp only[gI,kW,l6];rw[gU (dT (xZ _).1)];have:=aJf ⟨r.toNat,ah⟩ ⟨g.toNat,ah⟩;simp only[show((r.toNat:Nat):Int)=r by omega,show((g.toNat:Nat):Int)=g by omega]at this;rw[this];congr 1;by_cases q:g=r
 .subst q;simp
 .rw[show(g==r)=false by simpa using q];simp only[Fin.mk.injEq,zx];omega
theorem aJy(hc:VC c){z:Int}(hz:0<=z/\z<(c.iM.length:Int)):NN c z=some (GZ c z)/\0<=GZ c z/\GZ c z<c.gK:=by
 have h1:=hc.zl;refine⟨?_,?_⟩
 .unfold NN;rw[xP (by rw[bIZ];omega),bF];simp only[gI,aX];rw[dJ hz.1 hz.2];rfl
 .refine hc.z _ ?_;rw[fD,jR ah];exact zo _
def lK(c:aM)(r:Int)(k:Nat):Nat:=(c.cZ.take k).countP λz=>GZ c z !=r
theorem ahc{r:Int}{k:Nat}(hk:k<c.cZ.length):lK c r (k+1)=lK c r k+if rO c k≠r then 1 else 0:=by unfold lK rO;rw[Vo,jR hk,List.countP_append];simp only[Option.toList_some,List.countP_cons,List.countP_nil,nM];rw[show c.cZ.getD k aG=c.cZ[k]by simp[fD,hk]];by_cases q:GZ c c.cZ[k]=r<;>simp[q]
theorem aaw(hc:VC c){r:Int}(hr:0<=r/\r<c.gK):KN c (iL .i64 1 (IntKind.u64.wrap r))=some (decide ((c.cZ.length:Int)<2*(lK c r c.cZ.length:Nat))):=by
 have hrl:=hc.rl;unfold KN;refine o8 ?_;refine jX (L:=λm x k=>KA c (iL .i64 1 (IntKind.u64.wrap r)) c.cZ (c.cZ.length:Int) m x k) c.cZ.length ah (λk x=>x=((lK c r k:Nat):Int)/\lK c r k<=k) ⟨by simp[lK],by simp[lK]⟩ (λm k x hk hI hn=> ?_) (λm x hI=> ?_)
 .obtain⟨rfl,hI2⟩:=hI;obtain⟨z0,z1⟩:=aiz hc hk;obtain⟨e1,e2⟩:=aJy hc ⟨z0,z1⟩;rw[KA,eFZ,dJZ];simp only[gL];rw[e1,bF,aJ9 hc hr e2,bF];unfold YE;rw[bI (x:=(k:Int)+1) ah ah,bIZ];have hs:=ahc (r:=r) hk;by_cases q:GZ c (c.cZ.getD k aG)=r
  .rw[show(GZ c (c.cZ.getD k aG)==r)=true by simpa using q];simp only[gI,aX];rw[dn (by unfold rO;simpa using q)]at hs;exact hn _ ⟨by rw[hs];rfl,ah⟩
  .rw[show(GZ c (c.cZ.getD k aG)==r)=false by simpa using q];simp only[jQ,aY];rw[bW (by unfold rO;simpa using q)]at hs;exact hn _ ⟨by rw[hs];omega,ah⟩
 .obtain⟨rfl,hI2⟩:=hI;rw[KA,fAZ,bIZ];exact Ok.some rfl
theorem aLe(h3:c.cZ.length=3){r:Int}(h:(c.cZ.length:Int)<2*(lK c r c.cZ.length:Nat)):∀i j,i<3->j<3->i≠j->rO c i=r->rO c j≠r:=by
 have e0:lK c r 0=0:=by simp[lK]
 have b:∀k,k<3->lK c r (k+1)<=lK c r k+1/\(rO c k=r->lK c r (k+1)=lK c r k):=λk hk=>by
  rw[ahc ah];split
  .rename_i q;exact⟨gy _,λw=>(q w).elim⟩
  .exact⟨ah,λ_=>rfl⟩
 have b0:lK c r 1<=lK c r 0+1/\(rO c 0=r->lK c r 1=lK c r 0):=b 0 ah;have b1:lK c r 2<=lK c r 1+1/\(rO c 1=r->lK c r 2=lK c r 1):=b 1 ah;have b2:lK c r 3<=lK c r 2+1/\(rO c 2=r->lK c r 3=lK c r 2):=b 2 ah;rw[h3]at h;intro i j hi hj hij h1 h2;have hi3:i=0\/i=1\/i=2:=ah
 have hj3:j=0\/j=1\/j=2:=ah
 rcases hi3 with rfl|rfl|rfl<;>rcases hj3 with rfl|rfl|rfl<;>omega
def r0(i:Int):bn:={aR:={bX:={data:=[],qL:=0},gJ:=0,iR:= -1,bT:=[]},id:=i,n:=3,fO:=1,fK:=0,nK:=0,next:={e0:=0,e1:=0,e2:=0,e3:=0,e4:=0},gH:={e0:=0,e1:=0,e2:=0,e3:=0,e4:=0}}
theorem aKr:agl ((3:Nat):Int)=some (qf (λi=>r0 (i:Int)) [] [],0):=by rfl
theorem aoP(hc:VC c):Ub c=some c:=by have h1:=hc.zl;have h2:=hc.cl;have h3:=hc.tl;have h4:=hc.vl;have h5:=hc.rl;have h6:=hc.ol;unfold Ub adT adS adK adH Yg;rw[gU (dT (rm ay)),bF,gU (dT (rm ay)),bF,gU (dT (rm ay)),bF,gU (dT (rm ay)),bF,gU (dT (rm ay)),bF,gU (dT (rm ay)),bF];rfl
theorem H3.new(hc:VC c)(h3:c.cZ.length=3):Ok (Ur c) (λo=>o.2=0/\H3 c (λ_=>true) o.1 [] (newS c)):=by unfold Ur;rw[af5 hc,bF];simp only[jT,aX];rw[h3,aKr,bF];simp only[jT,aX];rw[aoP hc,bF,gU (dT ah),aps hc,bF,h3];refine Ok.some ⟨rfl,⟨λi=>r0 (i:Int),[],0,0,?_,rfl,⟨jh _,λx hx=>(by cases hx),aj,λx hx=>⟨.inl (jh _),jh _⟩,λi a k _ _=> .inl rfl,⟨0,ah,rfl⟩,λx _ hal=>(by cases hal)⟩,jh _,aj,rfl,h3,.inl λx hx _=>⟨rfl,rfl,by show(1:Int)≠3;omega,rfl,rfl,⟨jh _,jh _,gy _⟩,jh _,jh _⟩⟩⟩;rfl
end
section
variable {L:LG}{b:Nat}
def q1(r:bn)(n:List bJ)(c:List aP):bR:={aT:=[r],bg:=n,lY:=c}
abbrev uT(c:aM)(r:bn)(k:List aP)(s:aN):bO:={dY:=c,bg:=q1 r [] k,up:=1,state:=s}
theorem aMt{r:bn}{n:List bJ}{c:List aP}{a b:Int}{l:LG}(hl:l.length<=1000000):∀(f i:Nat) (x:List aP),l.length-i<f->x.length<=i->i<=l.length->Nh a b l (l.length:Int) (q1 r n c) f x (i:Int)=Ar a b (q1 r n (x++fM (l.drop i))):=by intro f;induction f with
 |zero=>intro i x h;omega
 |succ f ih=>
  intro i x h hx hi;rw[Nh];by_cases q:i<l.length
  .rw[eFZ,dJZ,gU (dT (rm (by show(x.length+1)*72<=_;omega))),bIZ,show((i:Int)+1)=((i+1:Nat):Int)by omega,ih (i+1) _ ah ay ah,rH];congr 4;rw[D9 q,show l.getD (i:Int).toNat aG=l[i]by simp[fD,q]];rfl
  .rw[fAZ,Pt ah];show Ar a b (q1 r n x)=Ar a b (q1 r n (x++ []));rw[nE]
theorem arZ{r:bn}{n:List bJ}{c:List aP}(h:r.fK<=0\/CB r):Yp (q1 r n c)=some (q1 r n (ru c r)):=
 abW h (λx=>some (q1 r n x)) (λl=>Nh 1 0 l (l.length:Int) (q1 r n c) fuel (List.replicate (Int.toNat 0) aG) 0) (λl hl=>by
  have:=aMt (r:=r) (n:=n) (c:=c) (a:=1) (b:=0) hl fuel 0 [] aB aj ah
  exact this)
structure Q1(r:bn)(L:LG)(b:Nat)(T:Int):Prop where
 id:r.id=0
 n:r.n=1
 tm:r.aR.gJ=T
 lg:r.aR.bT=L
 dk:oI r.aR.bX b
 co:r.fK=(L.length:Int)
 t0:0<=T
 tl:∀x∈L,1<=x.iA/\x.iA<=T
theorem Q1.cb{r:bn}{T:Int}(h:Q1 r L b T)(hl:L.length<=1000):r.fK<=0\/CB r:=
 .inr ⟨by rw[h.co];omega,by rw[h.co,h.lg];exact jh _,by rw[h.lg];omega⟩
theorem aMS{r:bn}(hid:r.id=0)(hn:r.n=1):BK r=some []:=by unfold BK;rw[hn];obtain⟨f,hf⟩:∃f,fuel=f+2:=⟨18446744073709551614,by rw[iP]⟩;rw[hf,HY,hid];unfold MJ;rw[show aQ (0+1)=1 from rfl,HY];rfl
theorem aMb{r:bn}{T:Int}{e:aP}(h:Q1 r L b T)(hr:r.fO=3)(ht:1<=T/\T<=900000)(hL:L.length<=900)(hb:b<=900000)(hs:rY e=some true):
  Ok (zi r e) (λo=>∃r',o=([],0,r')/\Q1 r' (L++ [⟨T,e⟩]) (b+170) T/\r'.fO=3):=by
 have hla:=aat h.tl h.t0;unfold zi jl pG;rw[hr];simp only[show((3:Int) !=3)=false from rfl,aX,bF];refine Ok.bind (ag0 (j:=r.aR) h.dk ah (t:=r.aR.gJ) (by rw[h.tm];omega) hs (jh _) (by rw[h.lg,h.tm];exact hla.2) (by rw[h.lg];omega)) λx hx=> ?_;obtain⟨d,rfl,hd⟩:=hx;simp only[jT,aX];refine Ok.bind (aaY (j:={r.aR with bX:=d,bT:=r.aR.bT++ [⟨r.aR.gJ,e⟩]}) hd) λx hx=> ?_;obtain⟨d',rfl,hd'⟩:=hx;rw[h.tm,h.lg];show Ok ((zR {r with aR:={bX:=d',gJ:=T,iR:=r.aR.iR,bT:=L++ [⟨T,e⟩]},fO:=3}).bind _) _;have g:zR {r with aR:={bX:=d',gJ:=T,iR:=r.aR.iR,bT:=L++ [⟨T,e⟩]},fO:=3}=some {r with aR:={bX:=d',gJ:=T,iR:=r.aR.iR,bT:=L++ [⟨T,e⟩]},fO:=3,fK:=(((L++ [⟨T,e⟩]:LG).length:Nat):Int)}:=by
  unfold zR nC xH;simp only[bF];obtain⟨f,hf⟩:∃f,fuel=f+2:=⟨18446744073709551614,by rw[iP]⟩;rw[hf,Ib];have hc:r.fK<(((L++ [⟨T,e⟩]:LG).length:Nat):Int):=by rw[h.co];simp;omega
  rw[eF hc,bI ah ay,Eo];unfold jl pG;simp only[bF];rw[show nA (L++ [⟨T,e⟩]) ((((L++ [⟨T,e⟩]:LG).length:Nat):Int)-1)=T from ao2,jT,aX,h.n,hf,BL,h.id];unfold Ia Rq;rw[show aQ (0+1)=1 from rfl,BL];simp only[show((0:Int) !=0)=false from rfl,nu,aX];rfl
 rw[g,bF,aMS (r:={r with aR:={bX:=d',gJ:=T,iR:=r.aR.iR,bT:=L++ [⟨T,e⟩]},fO:=3,fK:=(((L++ [⟨T,e⟩]:LG).length:Nat):Int)}) h.id h.n,bF];refine Ok.some ⟨_,rfl,⟨h.id,h.n,rfl,rfl,hd',rfl,h.t0,λx hx=> ?_⟩,rfl⟩;rcases oU.1 hx with w|w
 .exact h.tl x w
 .rw[oV.1 w];show 1<=T/\T<=T;omega
theorem aLM{r:bn}{T:Int}(h:Q1 r L b T)(ht:T<=900000)(hb:b<=900000):
  Ok (zh r) (λo=>∃r',o=([],r')/\Q1 r' L (b+170) (T+1)/\r'.fO=3):=by
 have t0:=h.t0;unfold zh jl pG;simp only[bF];rw[fA (by rw[h.tm];omega),bI (by rw[h.tm];omega) (by rw[h.tm];omega)];refine Ok.bind (ZH (r:=r) (t:=r.aR.gJ+1) (v:=r.id) h.dk ah (by rw[h.tm];omega) (by rw[h.id];omega) (.inl ah)) λx hx=> ?_;obtain⟨d,rfl,hd'⟩:=hx;refine Ok.bq (dT (xZ _).1) ?_;simp only[h.n,show((1:Int)==1)=true from rfl,aY];unfold Nt;obtain⟨f,hf⟩:∃f,fuel=f+2:=⟨18446744073709551614,by rw[iP]⟩;simp only[hf,Fv,Ih,nC,xH,bF,eF (show(0:Int)<1 by omega),show aQ (0+1)=1 from rfl,fA (show¬(1:Int)<1 by omega),show((0:Int)==4)=false from rfl,show((0:Int)==3)=false from rfl,show((0:Int)==2)=false from rfl,show((0:Int)==1)=false from rfl,show((0:Int)==0)=true from rfl,aY,aX];refine Ok.some ⟨_,rfl,⟨h.id,rfl,by show r.aR.gJ+1=_;rw[h.tm],h.lg,hd',h.co,ah,λx hx=> ?_⟩,rfl⟩;have:=h.tl x hx;omega
section
variable {c:aM} {p:bO} {l:List aP} {s s':aN} {e:aP}
structure H1(c:aM)(p:bO)(l:List aP)(s:aN):Prop where
 ok:∃r L b T,p=uT c r (fM L) s/\fM L=l/\Q1 r L b T/\T<=(L.length:Int)/\b<=1100*(L.length+1)/\s.eP=(L.length:Int)/\c.cZ.length=1/\(r.fO≠3\/1<=T)
theorem H1.norm(h:H1 c p l s):((iU p):bO)=p:=by obtain⟨R,L,b,T,rfl,_⟩:=h.ok;rfl
theorem H1.cfg(h:H1 c p l s):p.dY=c:=by obtain⟨R,L,b,T,rfl,_⟩:=h.ok;rfl
theorem H1.sta(h:H1 c p l s):p.state=s:=by obtain⟨R,L,b,T,rfl,_⟩:=h.ok;rfl
theorem asP{r:bn}{k:List aP}(x:Int)(hk:x=1\/x=2):J8 (q1 r [] k) {aL:=x,nZ:=0,N:=0,kL:=e}=some true:=by rcases hk with rfl|rfl<;>rfl
theorem asM{r:bn}{k:List aP}:Nq (q1 r [] k)=some ((bif r.fO==3 then 0 else -1),q1 r [] k):=by unfold Nq xG;simp only[q1,aiD,bF];cases (r.fO==3)<;>rfl
theorem arJ{r:bn}{k:List aP}{u:Int}:Ku (q1 r [] k) u=some (0,q1 r [] k):=by unfold Ku;obtain⟨f,hf⟩:∃f,fuel=f+1:=⟨18446744073709551615,by rw[iP]⟩;rw[hf,R5];rfl
theorem asR{r:bn}{k:List aP}:BS (q1 r [] k) []=some (q1 r [] k):=by unfold BS;obtain⟨f,hf⟩:∃f,fuel=f+1:=⟨18446744073709551615,by rw[iP]⟩;rw[hf,R9];rfl
theorem ajG(h:c.cZ.length=1){q:bR}:pI {dY:=c,bg:=q,up:=1,state:=s} 0=some true/\pI {dY:=c,bg:=q,up:=1,state:=s} (-1)=some false:=by unfold pI;simp only[h];exact⟨rfl,rfl⟩
theorem aLK(h:c.cZ.length=1){r:bn}{k:List aP}{T:Int}(hq:Q1 r L b T)(hl:L.length<=900):NC (uT c r k s)=some 0:=by
 have hla:=aat hq.tl hq.t0;unfold NC;obtain⟨f,hf⟩:∃f,fuel=f+2:=⟨18446744073709551614,by rw[iP]⟩;show BP (c.cZ.length:Int) (uT c r k s) fuel (-1) (-1) (-1) 0=some 0;rw[h,hf,BP,eFZ,(ajG h).1,bF];simp only[gI,aX];have e1:Kv (q1 r [] k) 0=some L:=by unfold Kv;show(rD r).bind _=_;rw[Vi r (by rw[hq.lg];omega),hq.lg];rfl
 rw[e1,bF];have fin:∀(x y:Int),BP ((1:Nat):Int) (uT c r k s) (f+1) 0 x y 1=some 0:=λx y=>by rw[BP,fAZ]
 have k2:∀t:Int,0<=t->Dz (BP ((1:Nat):Int) (uT c r k s) (f+1)) (-1) (-1) (-1) 0 L t 0=some 0:=λt ht=>by unfold Dz Fz;rw[dT (show(-1:Int)<t by omega),En,aY];exact fin _ _
 by_cases q:0<(L.length:Int)
 .rw[eF q,bIZ,dJZ];refine k2 _ ?_;have:L.getD ((L.length:Int)-1).toNat aG∈L:=by rw[fD,jR ah];exact zo _
  have:=(hq.tl _ this).1;omega
 .rw[fA q];exact k2 0 (jh _)
theorem H1.propose(h:H1 c p l s)(hA:Cb c s e=some (s',0))(hs:rY e=some true)(hc:s'.eP=s.eP+1)(hl:l.length<=390):
  Ok (Ip p e) (λo=>o.2.1=0/\H1 c o.2.2 (l++ [e]) s'):=by
 obtain⟨r,L,b,T,rfl,rfl,hQ,hT,hb,hcn,h3,hD⟩:=h.ok;rw[Cc]at hl;unfold Ip;have hr:zk (uT c r (fM L) s)=some true:=by unfold zk;simp only[h3];rfl
 show Ok ((zk (uT c r (fM L) s)).bind _) _;rw[hr,bF];simp only[gI,aX];rw[hA,bF];simp only[jT,aX];show Ok ((Sv (uT c r (fM L) s) e).bind _) _
 -- a leader commits
 have main:∀(r:bn) (b:Nat) (T:Int) (f x:Nat),Q1 r L b T->r.fO=3->1<=T->T<=(L.length:Int)+1->b<=1100*(L.length+1)+170->x<4->Ok (FB e (f+1) (x:Int) (uT c r (fM L) s)) (λo=>∃r',o=(true,uT c r' (fM (L++ [⟨T,e⟩])) s)/\Q1 r' (L++ [⟨T,e⟩]) (b+170) T):=by
  intro r b T f x hQ hro h1 hT hb hx;rw[FB,eFZ];show Ok ((Nq (q1 r [] (fM L))).bind _) _;rw[asM,hro,bF];show Ok ((pI (uT c r (fM L) s) 0).bind _) _;rw[(ajG h3).1,bF,aY];have hdo:Ok (IB (q1 r [] (fM L)) {aL:=2,nZ:=0,N:=0,kL:=e}) (λo=>∃r',o=(0,q1 r' [] (fM (L++ [⟨T,e⟩])))/\Q1 r' (L++ [⟨T,e⟩]) (b+170) T):=by unfold IB;show Ok ((J8 (q1 r [] (fM L)) _).bind _) _;rw[asP 2 (.inr rfl),bF];show Ok ((zi r e).bind _) _;refine Ok.bind (aMb hQ hro ⟨h1,ah⟩ ah ah hs) λo ho=> ?_;obtain⟨r',rfl,g1,g2⟩:=ho;simp only[jT,aX];show Ok ((BS (q1 r' [] (fM L)) []).bind _) _;rw[asR,bF];show Ok (zU (q1 r' [] (fM L))) _;unfold zU;rw[arZ (g1.cb ay),bF];have:ru (fM L) r'=fM (L++ [⟨T,e⟩]):=(by unfold ru;rw[dn (by rw[g1.co,Cc];simp;omega),g1.co,g1.lg,gL,sF]);rw[this];exact Ok.some ⟨r',rfl,g1⟩
  refine Ok.bind hdo λo ho=> ?_;obtain⟨r',rfl,g1⟩:=ho;show Ok (Ko _ _ 0 true (uT c r' (fM (L++ [⟨T,e⟩])) s)) _;unfold Ko;rw[aY];show Ok ((Ku (q1 r' [] (fM (L++ [⟨T,e⟩]))) 1).bind _) _;rw[arJ,bF];show Ok ((some r'.fK).bind _) _;rw[bF];show Ok (some (decide (s.eP<r'.fK),uT c r' (fM (L++ [⟨T,e⟩])) s)) _;rw[dT (by rw[hcn,g1.co];simp;omega)];exact Ok.some ⟨r',rfl,g1⟩
 have key:Ok (Sv (uT c r (fM L) s) e) (λo=>∃r' b' T',o=(true,uT c r' (fM (L++ [⟨T',e⟩])) s)/\Q1 r' (L++ [⟨T',e⟩]) b' T'/\1<=T'/\T'<=(L.length:Int)+1/\b'<=1100*(L.length+2)):=by
  have t0:=hQ.t0;unfold Sv;show Ok (FB e fuel 0 (uT c r (fM L) s)) _;obtain⟨f,hf⟩:∃f,fuel=f+2:=⟨18446744073709551614,by rw[iP]⟩;rw[hf];by_cases q:r.fO=3
  .have h1:1<=T:=by
    rcases hD with w|w
    .exact(w q).elim
    .exact w
   refine(main r b T (f+1) 0 hQ q h1 ah ah ah).mono λo ho=> ?_;obtain⟨r',rfl,g⟩:=ho;exact⟨r',_,T,rfl,g,h1,ah,ah⟩
  .rw[FB,eFZ];show Ok ((Nq (q1 r [] (fM L))).bind _) _;rw[asM,show(r.fO==3)=false by simpa using q,bF];show Ok ((pI (uT c r (fM L) s) (-1)).bind _) _;rw[(ajG h3).2,bF,aX];show Ok (Ko _ 0 (-1) false (uT c r (fM L) s)) _;unfold Ko;rw[aX,aLK h3 hQ ah,bF];have hdo:Ok (IB (q1 r [] (fM L)) {aL:=1,nZ:=0,N:=0,kL:={aL:=0,aZ:=0,aI:=0,aJ:=0,dh:=0,bP:=0,From:=0,bY:=0,N:=0}}) (λo=>∃r',o=(0,q1 r' [] (fM L))/\Q1 r' L (b+170) (T+1)/\r'.fO=3):=(by unfold IB;show Ok ((J8 (q1 r [] (fM L)) _).bind _) _;rw[asP 1 (.inl rfl),bF];show Ok ((zh r).bind _) _;refine Ok.bind (aLM hQ ah ah) λo ho=> ?_;obtain⟨r',rfl,g1,g2⟩:=ho;show Ok ((BS (q1 r' [] (fM L)) []).bind _) _;rw[asR,bF];show Ok (zU (q1 r' [] (fM L))) _;unfold zU;rw[arZ (g1.cb ah),bF];have:ru (fM L) r'=fM L:=(by unfold ru;rw[bW (by rw[g1.co,Cc];exact jh _)]);rw[this];exact Ok.some ⟨r',rfl,g1,g2⟩);refine Ok.bind hdo λo ho=> ?_;obtain⟨r',rfl,g1,g2⟩:=ho;show Ok ((Ku (q1 r' [] (fM L)) 1).bind _) _;rw[arJ,bF];show Ok (FB e (f+1) ((1:Nat):Int) (uT c r' (fM L) s)) _;refine(main r' _ _ f 1 g1 g2 ah ah ah ah).mono λo ho=> ?_;obtain⟨r2,rfl,g⟩:=ho;exact⟨r2,_,T+1,rfl,g,ah,ah,ah⟩
 refine Ok.bind key λo ho=> ?_;obtain⟨r',b',T',rfl,g,g1,g2,g3⟩:=ho;simp only[gI,aX];exact Ok.some ⟨rfl,⟨r',L++ [⟨T',e⟩],b',T',rfl,by simp[fM],g,ay,ay,by rw[hc,hcn];simp,h3,.inr g1⟩⟩
theorem aKq:agS ((1:Nat):Int)=some (q1 {r0 0 with n:=1} [] [],0):=by rfl
theorem H1.new(hc:VC c)(h3:c.cZ.length=1):Ok (K9 c) (λo=>o.2=0/\H1 c o.1 [] (newS c)):=by unfold K9;rw[af5 hc,bF];simp only[jT,aX];rw[h3,aKq,bF];simp only[jT,aX];rw[aoP hc,bF,gU (dT ah),aps hc,bF,h3];refine Ok.some ⟨rfl,⟨{r0 0 with n:=1},[],0,0,?_,rfl,⟨rfl,rfl,rfl,rfl,⟨jh _,jh _,gy _⟩,rfl,jh _,λx hx=>(by cases hx)⟩,jh _,aj,rfl,h3,.inl (by show(1:Int)≠3;omega)⟩⟩;rfl
theorem H1.lose(hc:VC c)(h:H1 c p l s){r:Int}(hM:rO c 0≠r):SH p r=some (0,p):=by obtain⟨R,L,b,T,_,_,_,_,_,_,h3,_⟩:=h.ok;obtain⟨z0,z1⟩:=aiz hc (show 0<c.cZ.length by omega);unfold SH;rw[h.norm,h.cfg,h3];obtain⟨f,hf⟩:∃f,fuel=f+2:=⟨18446744073709551614,by rw[iP]⟩;rw[hf,Ny,eFZ,dJZ,h.cfg,show(0:Int).toNat=0 from rfl,dJ z0 z1];unfold Io Nw;show(bif rO c 0==r then _ else _)=_;rw[show(rO c 0==r)=false by simpa using hM,aX,aX,show aQ (0+1)=1 from rfl,Ny];rfl
theorem aLd(h3:c.cZ.length=1){r:Int}(h:(c.cZ.length:Int)<2*(lK c r c.cZ.length:Nat)):rO c 0≠r:=by
 have e0:lK c r 0=0:=by simp[lK]
 have e1:=ahc (c:=c) (r:=r) (k:=0) ah;rw[h3]at h;intro q;rw[dn (aD q)]at e1;have e1:lK c r 1=lK c r 0+0:=e1;omega
end
end
theorem agH{l:List Int}(hl:l.length<=1000000)(k:Int):M8 l k=some (decide (k∈l)):=by
 have key:Ok (Yi l k) (λi=>decide (0<=i)=decide (k∈l)):=by
  unfold Yi;refine jX (L:=λm (_:Unit) i=>Ij l k (l.length:Int) m i) (x:=()) l.length ah (λn _=>∀j,j<n->l.getD j aG≠k) (λj hj=>absurd hj (kJ _)) ?_ ?_
  .rintro m n _ hn hJ ih;show Ok (Ij l k _ (m+1) n) _;rw[Ij,eFZ,dJZ,gL,bIZ];by_cases q:k=l.getD n aG
   .have e:(k==l.getD n aG)=true:=(by rw[Cn];exact q);rw[e,aY];refine Ok.some ?_;rw[eY (show(0:Int)<=(n:Int)by omega),eY (by rw[q];exact jw hn)]
   .have e:(k==l.getD n aG)=false:=(by rw[sG];exact q);rw[e,aX]
    exact ih () (λj hj=>by
     by_cases e:j=n
     .subst e;exact λh=>q h.symm
     .exact hJ j ah)
  .rintro m _ hJ;show Ok (Ij l k _ (m+1) _) _;rw[Ij,fAZ];refine Ok.some ?_;rw[fV ah,fV];intro hk;obtain⟨j,hj,e⟩:=xV hk;exact hJ j hj (by rw[fD,jR hj];exact e)
 unfold M8;obtain⟨i,h1,h2⟩:=key;rw[h1,bE,h2]
def nin(mv:List Int)(x:Int):Bool:= !decide (x∈mv)
theorem aLU{sp mv:List Int}(hl:sp.length<=1000)(hmv:mv.length<=1000000):XP sp mv=some (sp.filter (nin mv),mv):=by
 unfold XP
 -- the first that goes
 have hix:Ok (MU sp mv) (λi=>(i= -1∧∀j,j<sp.length->(nin mv) (sp.getD j aG)=true)∨∃k:Nat,i=(k:Int)/\k<sp.length/\(nin mv) (sp.getD k aG)=false∧∀j,j<k->(nin mv) (sp.getD j aG)=true):=by
  unfold MU;refine jX (L:=λm (_:Unit) i=>Fg sp mv (sp.length:Int) m i) (x:=()) sp.length ah (λk _=>∀j,j<k->(nin mv) (sp.getD j aG)=true) (λj hj=>absurd hj (kJ _)) ?_ ?_
  .rintro m k _ hk hI ih;show Ok (Fg sp mv _ (m+1) k) _;rw[Fg,eFZ,dJZ,gL];unfold Im;rw[agH hmv,bE,bE,bIZ];cases hq:decide (sp.getD k aG∈mv)with
   |true=>exact Ok.some (.inr ⟨k,rfl,hk,by unfold nin;rw[hq];rfl,hI⟩)
   |false=>
    refine ih () (λj hj=> ?_);by_cases e:j=k
    .subst e;unfold nin;rw[hq];rfl
    .exact hI j ah
  .rintro m _ hI;show Ok (Fg sp mv _ (m+1) _) _;rw[Fg,fAZ];exact Ok.some (.inl ⟨rfl,hI⟩)
 have hall:∀k,k<=sp.length->(∀j,j<k->(nin mv) (sp.getD j aG)=true)->(sp.take k).filter (nin mv)=sp.take k:=by intro k hk h;rw[aa2];intro x hx;obtain⟨j,hj,rfl⟩:=xV hx;rw[sD]at hj;have:=h j ah;rw[fD,jR ah]at this;rw[aiF];exact this
 apply o8;refine Ok.bind hix (λi hi=> ?_);rcases hi with⟨rfl,h⟩|⟨k,rfl,hk,hk0,h⟩
 .refine Ok.some ?_;have:=hall sp.length (gy _) h;rw[sF]at this;rw[this]
 .have e:((k:Int)== -1)=false:=by rw[sG];omega
  rw[e,aX,bIZ]
  -- the loop
  have key:∀(m j:Nat) (x:List Int) (i:Nat),i<=j->j<=sp.length->sp.length - j<m->x.length=sp.length->x.take i=(sp.take j).filter (nin mv)->x.drop j=sp.drop j->i=((sp.take j).filter (nin mv)).length→
    Ok (MQ mv m x (i:Int) (j:Int)) (λr=>r=(sp.filter (nin mv),mv)):=by
   intro m;induction m with
   |zero=>intro j x i _ _ h;exact absurd h (kJ _)
   | succ m ih=>
    intro j x i h1 h2 h3 h4 h5 h6 h7;rw[MQ];by_cases hj:j<sp.length
    .have hxj:x.getD j aG=sp.getD j aG:=(by have:(x.drop j)[0]? =(sp.drop j)[0]? :=(by rw[h6]);rw[yP,yP,vk]at this;rw[fD,fD,this]);have hts:(sp.take (j+1)).filter (nin mv)=(sp.take j).filter (nin mv)++(if(nin mv) (sp.getD j aG)then [sp.getD j aG]else []):=(by rw[Vo,Ci];congr 1;rw[jR hj,fD,jR hj];simp[Pw]);rw[eFZ,dJZ,gL,hxj];unfold Im XG;rw[agH hmv,bE,bE,bI (x:=(j:Int)+1) ah ah];have hdr:x.drop (j+1)=sp.drop (j+1):=(by have:=congrArg (List.drop 1) h6;rw[List.drop_drop,List.drop_drop]at this;exact this);cases hq:decide (sp.getD j aG∈mv)with
     |false=>
      have hf:(nin mv) (sp.getD j aG)=true:=(by unfold nin;rw[hq];rfl);rw[hf,bW rfl]at hts;rw[jQ,aY,dJZ,gL,bI (x:=(i:Int)+1) ah ah];unfold bG
      have:=ih (j+1) (x.set i (sp.getD j aG)) (i+1) ah ah ah (by rw[oQ];exact h4) (by
       rw[hts,<-h5];have hi:i<x.length:=ah
       rw[Vo,List.take_set_of_le (gy _),uq hi];rfl) (by
       rw[List.drop_set_of_lt ah];exact hdr) (by rw[hts,qp,<-h7];rfl)
      simpa using this
     |true=>have hf:(nin mv) (sp.getD j aG)=false:=(by unfold nin;rw[hq];rfl);rw[hf]at hts;simp only[nH,mJ,nE]at hts;rw[gI,aX];have:=ih (j+1) x i ah ah ah h4 (by rw[hts];exact h5) hdr (by rw[hts];exact h7);simpa using this
    .have:j=sp.length:=ah;subst this;rw[sF]at h5;have hi:i<=x.length:=ah;have e1:((x.length:Int)).toNat=x.length:=ah;have hcl:(jM (0+i) (x.length-i) x (List.replicate (x.length-i) (aG:Int))).length=x.length:=(by unfold jM;simp;omega);rw[fAZ];simp only[gL,e1];rw[mV,mV,hcl,mV,mV];refine Ok.some ?_;rw[<-h5];unfold jM;rw[nM,Vq ay,aiO,Lm]
  have at6:(sp.take (k+1)).filter (nin mv)=sp.take k:=by rw[Vo,Ci,hall k ah h,jR hk];rw[fD,jR hk]at hk0;have hk0':(nin mv) sp[k]=false:=hk0;simp[Pw,hk0']
  have:=key fuel (k+1) sp k ah ah aB rfl (by rw[at6]) rfl (by rw[at6,sD];omega);simpa using this
theorem P6{p:jm}{b i n:Int}(h:WS p.dM b)(hb:b<=1000000000)(hn: -65536<=n/\n<=65536:=by omega):FE p i n=some {p with dM:=qg p.dM i n}:=by
 unfold FE qg;by_cases hi:0<=i/\i<(p.dM.length:Int)
 .rw[eY hi.1,eY hi.2,bW hi];have:=h _ (jw (xs:=p.dM) (i:=i.toNat) ah);simp only[Ad,aY,dJ hi.1 hi.2,bG];rw[bIZ];rfl
 .rw[dn hi];have:(decide (0<=i)&&decide (i<(p.dM.length:Int)))=false:=by
   by_cases h1:0<=i
   .rw[fV (show¬i<(p.dM.length:Int)by omega)];simp
   .rw[fV h1];rfl
  rw[this];rfl
def nJ(t:bM):mF:={nG:=t.dZ&& !t.fC,lU:=t.bL,jB:=t.bB,next:=t.Next,xY:=t.dN}
def jH(c:aM)(s:aN)(ts:List bM):jm:={dY:=c,state:=s,dL:=ts.map nJ,dM:=jf c s ts}
section
variable {c:aM} {s:aN} {ts:List bM}
theorem aiv(hc:VC c)(hv:VS c s):NU c s=some (jH c s s.aH):=by
 have hct:=hc.tl;have hcl:=hc.cl;have htl:=hv.tl;unfold NU;have hm:(ji (c.aH.length:Int) (s.aH.length:Int))=(s.aH.length:Int):=by unfold ji;rw[htl];simp
 apply o8;refine jX (L:=λm x i=>Iy c s m x i) s.aH.length ah (λk x=>x={dY:=c,state:=s,dL:=(s.aH.take k).map nJ,dM:=[]}) aj ?_ ?_
 .rintro m k x hk rfl ih;show Ok (Iy c s (m+1) _ k) _;rw[Iy,hm,eFZ,dJZ,gL,mV (by simp only[qM,kQ,sD];unfold room;omega),bIZ];refine ih _ ?_;simp only[um hk,Pz,mH,yR];rfl
 .rintro m x rfl;show Ok (Iy c s (m+1) _ _) _;rw[Iy,hm,fAZ,mV,Zy hc hv.tl,bE,mV];refine Ok.some ?_;have hb:=OI c s;have e:jM 0 ((List.replicate (Int.toNat (c.aK.length:Int)) (aG:Int)).length) (List.replicate (Int.toNat (c.aK.length:Int)) (aG:Int)) (rZ c s)=rZ c s:=by unfold jM;simp[hb];rw[Ll ah]
  rw[e,sF];rfl
theorem aJQ(hc:VC c)(hv:VS c s)(r:Int):Yb c s r=some (oZ c s r):=by
 obtain⟨e1,ho⟩:=VI hc;have hct:=hc.tl;have hol:=ho.len;have htl:=hv.tl;unfold Yb;rw[e1,bE];apply o8;refine jX (L:=λm x i=>Dt c s r (mK c) (((mK c).length:Nat):Int) m x i) (mK c).length ah (λk x=>x=((mK c).take k).filter (vK c s r)) rfl ?_ ?_
 .rintro m k x hk rfl ih;show Ok (Dt c s r _ _ (m+1) _ k) _;have hy:=(ho.mem _).1 (jw hk);rw[Dt,eFZ,dJZ,gL];rw[fV ah,fV (show¬(s.aH.length:Int)<=(mK c).getD k aG by omega),qc,aX,dJ hy.1 ah];unfold RH;have hfl:=zY (vK c s r) ((mK c).take k);rw[sD]at hfl;have nx:=ih (((mK c).take (k+1)).filter (vK c s r)) rfl;rw[um hk,Ci,Pw,aiC]at nx;have eq:vK c s r ((mK c).getD k aG)=(((s.aH.getD ((mK c).getD k aG).toNat aG).dZ&& !(s.aH.getD ((mK c).getD k aG).toNat aG).fC)&&(jG c (s.aH.getD ((mK c).getD k aG).toNat aG).bL==r)):=rfl;rw[eq]at nx;cases hq:((s.aH.getD ((mK c).getD k aG).toNat aG).dZ&& !(s.aH.getD ((mK c).getD k aG).toNat aG).fC)with|false=>rw[hq]at nx;simp only[nu,nH,mJ,nE]at nx;simp only[aX,bE,nu];rw[bIZ];exact nx|true=>rw[hq]at nx;simp only[aY,I4 hc,bE,l6]at nx⊢;rw[bIZ];cases hq2:(jG c (s.aH.getD ((mK c).getD k aG).toNat aG).bL==r)with|true=>rw[hq2]at nx;rw[aY,mV (by simp only[qM];unfold room;omega)];exact nx|false=>rw[hq2]at nx;simp only[nH,mJ,nE]at nx;exact nx
 .rintro m x rfl;show Ok (Dt c s r _ _ (m+1) _ _) _;rw[Dt,fAZ,sF];exact Ok.some rfl
theorem asc(hc:VC c)(hv:VS c s)(hg:GS c ts){x:eu}(hp:nX c s ts x=true)(hu:x.aL=2->kY (aO s x.aI)=true/\(aO s x.aI).bB=x.aJ):R7 (jH c s ts) x=some (true,jH c s (nS ts x)):=by
 have hgl:=hg.len;obtain⟨h1,h2,ha,hk⟩:=xO hp;have hi:x.aI.toNat<ts.length:=ah
 have hd:=yM hc (k:=x.aI.toNat) ah;have hsl:(jH c s ts).dL.length=ts.length:=by simp[jH]
 have hbl:(jH c s ts).dM.length=c.aK.length:=uI _ _ _;have yh:(jH c s ts).dL.getD x.aI.toNat aG=nJ (ts.getD x.aI.toNat aG):=by show(ts.map nJ).getD _ _=_;rw[fD,mW,jR hi,fD,jR hi];rfl
 have b0:=as1 (s:=s) hc hg;have b1:=Pb (i:=(ts.getD x.aI.toNat aG).bL) (n:=0-(c.aH.getD x.aI.toNat aG).eD) b0 ah ah;have b2:=Pb (i:=(ts.getD x.aI.toNat aG).dN) (n:=0-(c.aH.getD x.aI.toNat aG).eD) b1 ah ah;have b3:=Pb (i:=(ts.getD x.aI.toNat aG).Next) (n:=0-(c.aH.getD x.aI.toNat aG).kK) b2 ah ah;have ha':(nJ (ts.getD x.aI.toNat aG)).nG=true:=ha;have hho:(nJ (ts.getD x.aI.toNat aG)).lU=(ts.getD x.aI.toNat aG).bL:=rfl;have hst:(nJ (ts.getD x.aI.toNat aG)).jB=(ts.getD x.aI.toNat aG).bB:=rfl;have htg:(nJ (ts.getD x.aI.toNat aG)).xY=(ts.getD x.aI.toNat aG).dN:=rfl;have hnx:(nJ (ts.getD x.aI.toNat aG)).next=(ts.getD x.aI.toNat aG).Next:=rfl
 unfold R7;rw[hsl,hbl];rw[fV (show¬x.aI<0 by omega),fV (show¬(ts.length:Int)<=x.aI by omega),fV (show¬x.aJ<0 by omega),fV (show¬(c.aK.length:Int)<=x.aJ by omega)];simp only[nO,aX];rw[dJ h1.1 (by show x.aI<(c.aH.length:Int);omega),dJ h1.1 (by rw[hsl];exact h1.2),yh];show(bif x.aL==1 then _ else _)=_;simp only[show(jH c s ts).dY=c from rfl,show(jH c s ts).state=s from rfl];rw[abV ⟨hd.1,hd.2.1⟩,abV ⟨hd.2.2.1,hd.2.2.2⟩];simp only[ha',hho,hst,htg,hnx,gI,kW];have es:∀(q:jm) (y:mF),q.dL=ts.map nJ->(q.dL.set x.aI.toNat y).getD x.aI.toNat aG=y:=λq y hq=>pY (by rw[hq,kQ];exact hi);rcases hk with⟨k1,hh⟩|⟨k2,hh,QW⟩
 .rw[show(x.aL==1)=true by simpa using k1,aY,show((ts.getD x.aI.toNat aG).bL !=x.aJ)=false by rw[hh];simp,aX];rw[P6 (p:=jH c s ts) (b:=8388608) b0 ah ah,bE,P6 (b:=8388608+65536) b1 ah ah,bE];simp only;rw[dJ h1.1 (by rw[hsl];exact h1.2),yh];simp only[bG];rw[dJ h1.1 (by rw[oQ,hsl];exact h1.2),es (jH c s ts) _ rfl,tu];unfold Rz;congr 2;unfold jH nS pU;rw[show(x.aL==1)=true by simpa using k1,aY,aa7];have hs2:nJ {ts.getD x.aI.toNat aG with fC:=true,dN:= -1}={nJ (ts.getD x.aI.toNat aG)with nG:=false,xY:= -1}:=by unfold nJ;simp
  rw[hs2];have:=aqw (s:=s) hg hi ha;rw[<-this]
 .obtain⟨hu1,hu2⟩:=hu k2;have hsv:=hv.tl;have aML:NV c s x.aI=some true:=by rw[ase hc hv,eY h1.1,eY (show x.aI<(s.aH.length:Int)by omega),hu1,hu2,QW];rfl
  rw[show(x.aL==1)=false by rw[k2];rfl,aX,show(x.aL==2)=true by simpa using k2,aY,show((ts.getD x.aI.toNat aG).bB !=x.aJ)=false by rw[hh];simp];simp only[jQ,aY,aML,bE,gI,kW,aX];rw[P6 (p:=jH c s ts) (b:=8388608) b0 ah ah,bE,P6 (b:=8388608+65536) b1 ah ah,bE,P6 (b:=8388608+65536+65536) b2 ah ah,bE,bIZ,P6 (b:=8388608+65536+65536+65536) b3 ah ah,bE];simp only;rw[dJ h1.1 (by rw[hsl];exact h1.2)];unfold bG Rz;congr 2;have hbm:=aqv (s:=s) hg hi ha;unfold jH nS pU;rw[show(x.aL==1)=false by rw[k2];rfl,aX,aa7];have he:({ts.getD x.aI.toNat aG with bL:=(ts.getD x.aI.toNat aG).bB,bB:= -1,Next:= -1,dN:= -1}:bM)={ts.getD x.aI.toNat aG with bL:=x.aJ,bB:= -1,Next:= -1,dN:= -1}:=by rw[hh]
  rw[he,hh]at hbm;have ai5:nJ {ts.getD x.aI.toNat aG with bL:=x.aJ,bB:= -1,Next:= -1,dN:= -1}={nG:=true,lU:=x.aJ,jB:= -1,next:= -1,xY:= -1:mF}:=by unfold nJ;unfold kY at ha;simp only[ha]
  rw[ai5,<-hbm]
theorem aLm(hc:VC c)(hg:GS c ts)(hcap:Cw c s ts):M4 (jH c s ts)=some false:=by
 have hbl:(jH c s ts).dM.length=c.aK.length:=uI _ _ _;have hcl:=hc.cl;unfold M4;rw[hbl];apply o8;refine jX (L:=λm (_:Unit) i=>Fp (jH c s ts) (c.aK.length:Int) m i) (x:=()) c.aK.length ah (λ_ _=>True) trivial ?_ ?_
 .rintro m k _ hk _ ih;show Ok (Fp (jH c s ts) _ (m+1) k) _;rw[Fp,eFZ,dJ ah (by rw[hbl];omega),gL,bIZ];show Ok (bC c.aK (k:Int) _) _;rw[dJZ,gL];have:=hcap k hk;rw[fA (by show¬(c.aK.getD k aG).mg<(jf c s ts).getD k aG;have e:(jf c s ts).getD k aG=(jf c s ts).getD k 0:=rfl;rw[e];omega)];exact ih () trivial
 .rintro m _ _;show Ok (Fp (jH c s ts) _ (m+1) _) _;rw[Fp,fAZ];exact Ok.some rfl
end
section
variable {c:aM} {s:aN} {ts:List bM}
structure RJ(c:aM)(s:aN)(r:Int)(q:xw)(todo:List Int)(mv:List Int):Prop where
 run:Run c s s.aH q.2.1 mv q.1
 nd:(mv++(q.2.2++todo)).Nodup
 mem:∀y∈mv++(q.2.2++todo),(0<=y/\y<(c.aH.length:Int))/\vK c s r y=true
theorem aHi(l:List Int)(hl:l.length<=1000000):Yh l l=some true:=by
 apply o8;unfold Yh;have e:((l.length:Int) !=(l.length:Int))=false:=aj
 rw[e,aX];refine jX (L:=λm (_:Unit) i=>Ii l l (l.length:Int) m i) (x:=()) l.length ah (λ_ _=>True) trivial ?_ ?_
 .intro m k _ hk _ ih;show Ok (Ii l l _ (m+1) k) _;rw[Ii];simp (disch:=omega) only[eF,dJ,bI];simp only[jT,aX];exact ih () trivial
 .intro m _ _;show Ok (Ii l l _ (m+1) _) _;rw[Ii];simp (disch:=omega) only[fA];exact Ok.some rfl
end
section
variable {c:aM} {s:aN}
theorem aaX:∀(l:List eu) {ts:List bM} (j:Nat),j<ts.length->(((fq c s ts l).getD j aG).bB= -1\/((fq c s ts l).getD j aG).bB=(ts.getD j aG).bB)/\(kY ((fq c s ts l).getD j aG)=true->kY (ts.getD j aG)=true)
 | [],ts,j,hj=>⟨.inr rfl,λh=>h⟩
 |x ::r,ts,j,hj=>by
  rw[fq];rcases hp:nX c s ts x with _|_;exact aaX r j hj;simp only[aY];obtain⟨h1,h2⟩:=aaX r (ts:=nS ts x) j (by rw[abJ];exact hj);by_cases q:x.aI.toNat=j
  .have hx:=(xO hp).2.2.1;subst q;rw[UY hj]at h1 h2;refine⟨?_,λ_=>hx⟩;have e:(pU (ts.getD x.aI.toNat aG) x).bB= -1\/(pU (ts.getD x.aI.toNat aG) x).bB=(ts.getD x.aI.toNat aG).bB:=by
    unfold pU;cases (x.aL==1)
    .exact .inl rfl
    .exact .inr rfl
   rcases h1 with h1|h1
   .exact .inl h1
   .rw[h1];exact e
  .rw[Ja q]at h1 h2;exact⟨h1,h2⟩
structure arw(c:aM)(s:aN)(e:fH):Prop where
 wD:lV c s s.aH e.bH
 cap:∀n,n<=e.bH.length->Cw c s (fq c s s.aH (e.bH.take n))
 mem:∀x∈e.bH,x.aL=2->x.aI∈oZ c s e.Region
 nd:∀k:Nat,k<e.bH.length->(e.bH.getD k aG).aL=1->SB c s e (k:Int)=some true
 ln:e.bH.length<=40000
theorem El{st:List eu}(h:lV c s s.aH st){k:Nat}(hk:k<st.length):nX c s (fq c s s.aH (st.take k)) (st.getD k aG)=true/\fq c s s.aH (st.take (k+1))=nS (fq c s s.aH (st.take k)) (st.getD k aG):=by
 have h1:lV c s s.aH (st.take k++ [st.getD k aG]):=by rw[<-um hk];exact ahQ h _
 have h2:=((Jd _ _ _).1 h1).2.1;refine⟨h2,?_⟩;rw[um hk,Gw,Lu h2];rfl
theorem ao8{st:List eu}{k:Nat}{x:eu}(hv:VS c s)(hp:nX c s (fq c s s.aH (st.take k)) x=true)(h2:x.aL=2):kY (aO s x.aI)=true/\(aO s x.aI).bB=x.aJ:=by
 obtain⟨a1,a2,a3,a4⟩:=xO hp;have hl:=Jm (c:=c) (s:=s) (st.take k) s.aH;have hj:x.aI.toNat<s.aH.length:=ah
 obtain⟨b1,b2⟩:=aaX (c:=c) (s:=s) (st.take k) x.aI.toNat hj;refine⟨b2 a3,?_⟩;rcases a4 with⟨q,_⟩|⟨_,q,_⟩
 .omega
 .rcases b1 with b1|b1
  .omega
  .show(s.aH.getD x.aI.toNat aG).bB=_;rw[<-b1,q]
theorem aMe(hc:VC c)(hv:VS c s){e:fH}(P:arw c s e):Yc (jH c s s.aH) e.bH e (oZ c s e.Region) 0 c s=some (((e.bH.length:Nat):Int),jH c s (fq c s s.aH e.bH),e,oZ c s e.Region,0,c,s):=by
 have hln:=P.ln;have hcl:=OX (s:=s) hc (r:=e.Region);unfold Yc;apply o8;have key:∀(m k:Nat),k<=e.bH.length->e.bH.length - k<m->Ok (RI e.bH e.bH ((e.bH.length:Nat):Int) m (jH c s (fq c s s.aH (e.bH.take k))) e (oZ c s e.Region) 0 c s (k:Int)) (λr=>r=(((e.bH.length:Nat):Int),jH c s (fq c s s.aH e.bH),e,oZ c s e.Region,0,c,s)):=by intro m;induction m with
  |zero=>intro k _ h;exact absurd h (kJ _)
  |succ m ih=>
   intro k hk hm;rw[RI];by_cases q:k<e.bH.length
   .obtain⟨p1,p2⟩:=El P.wD q;have hg:=yV (s:=s) (e.bH.take k) hv.gs;have hg':=yV (s:=s) (e.bH.take (k+1)) hv.gs;rw[eFZ,dJZ,gL,asc hc hv hg p1 (ao8 hv p1),bE];simp only[gI,jQ,aY];have hx:e.bH.getD k aG∈e.bH:=jw q;have hcb:Yq (k:Int) e (oZ c s e.Region) 0 (jH c s (nS (fq c s s.aH (e.bH.take k)) (e.bH.getD k aG))) c s=some (true,e,oZ c s e.Region,0,jH c s (nS (fq c s s.aH (e.bH.take k)) (e.bH.getD k aG)),c,s):=by
     unfold Yq;rw[dJZ,gL,<-p2,aLm hc hg' (P.cap (k+1) ah)];have fin:Nk e (oZ c s e.Region) (jH c s (fq c s s.aH (e.bH.take (k+1)))) c s 0=some (true,e,oZ c s e.Region,0,jH c s (fq c s s.aH (e.bH.take (k+1))),c,s):=rfl;obtain⟨_,_,_,kd⟩:=xO p1;rcases kd with⟨k1,_⟩|⟨k2,_⟩
     .rw[show((e.bH.getD k aG).aL==2)=false by rw[k1];rfl,show((e.bH.getD k aG).aL==1)=true by rw[k1];rfl];simp only[aX,aY,bE,nu,P.nd k q k1,gI,Em];exact fin
     .rw[show((e.bH.getD k aG).aL==2)=true by rw[k2];rfl,show((e.bH.getD k aG).aL==1)=false by rw[k2];rfl];simp only[aY,agH (show(oZ c s e.Region).length<=1000000 by omega),eY (P.mem _ hx k2),bE,gI,Em,aX,nu];exact fin
    rw[hcb,bE,bIZ];simp only[gI,nO,aX];rw[<-p2];have:=ih (k+1) ah ah;rw[show((k+1:Nat):Int)=(k:Int)+1 by omega]at this;exact this
   .have:k=e.bH.length:=ah;subst this;rw[fAZ,sF];exact Ok.some rfl
 exact key fuel 0 (zu _) aB
def PU(e:fH):List Int:=(e.bH.filter (λx=>x.aL==2)).map (·.aI)
theorem aik{e:fH}(hl:e.bH.length<=40000):Oa e=some (PU e):=by unfold Oa;rw[aqQ ah,bE];rfl
theorem aq5{e:fH}(hl:e.bH.length<=40000):Oi e=some ((e.bH.filter (λx=>x.aL==1)).map (·.aI)):=by unfold Oi;rw[aqQ ah,bE]
theorem aIV(hc:VC c)(hv:VS c s){e:fH}(hr:0<=e.Region/\e.Region<c.gK)(P:arw c s e)(hl:e.jv=(oZ c s e.Region).filter (nin (PU e)))(hf:∀x∈e.jv,Ti c s e x=some false):
  KC c s e=some ((e.bH.length:Int),0):=by
 have hln:=P.ln;have hcl:=OX (s:=s) hc (r:=e.Region);have hml:(PU e).length<=40000:=by unfold PU;rw[kQ];exact vv (zY _ _) hln
 have hll:e.jv.length<=32:=by rw[hl];exact vv (zY _ _) hcl
 unfold KC;rw[fV (show¬e.Region<0 by omega),fV (show¬c.gK<=e.Region by omega)];simp only[nO,aX];rw[aJQ hc hv,bE,aiv hc hv,bE,aMe hc hv P,bE];simp only[jT,aX];rw[fAZ,aik hln,bE,aLU ah ah,bE];simp only;rw[<-hl,aHi _ ah,bE];simp only[gI,aX];apply o8;refine jX (L:=λm (_:Unit) i=>Iw c s e (e.bH.length:Int) e.jv (e.jv.length:Int) m i) (x:=()) e.jv.length ah (λ_ _=>True) trivial ?_ ?_
 .rintro m k _ hk _ ih;show Ok (Iw c s e _ e.jv _ (m+1) k) _;rw[Iw,eFZ,dJZ,gL,hf _ (jw hk),bE,aX,bIZ];exact ih () trivial
 .rintro m _ _;show Ok (Iw c s e _ e.jv _ (m+1) _) _;rw[Iw,fAZ];exact Ok.some rfl
end
theorem apQ{n:Int}{u:Bool}:∀{es:List (Value×Value)},tN es=true->tN (vW es n u)=true
 | [],_=>rfl
 | (a,b)::r,h=>by
  unfold tN at h⊢;rw[wS,dQ]at h;obtain⟨h1,h2⟩:=h;have ih:=apQ (n:=n) (u:=u) (es:=r) h2;unfold tN at ih;unfold Qt at h1;split at h1
  .rename_i x y q;obtain⟨rfl,rfl⟩:a=_/\b=_:=(aD q);rw[vW];cases decide (x=n)with|true=>simp only[aY,wS,h2,Gx];rfl|false=>simp only[aX,wS,ih,Gx];rfl
  .cases h1
theorem uW{n m:Int}{u:Bool}:∀{es:List (Value×Value)},tN es=true->wU (vW es n u) m=if n=m then u else wU es m
 | [],_=>by
  simp only[vW,wU];by_cases q:n=m
  .rw[eY q,bW q];rfl
  .rw[fV q,dn q];rfl
 | (a,b)::r,h=>by
  unfold tN at h;rw[wS,dQ]at h;obtain⟨h1,h2⟩:=h;have ih:=uW (n:=n) (m:=m) (u:=u) (es:=r) h2;unfold Qt at h1;split at h1
  .rename_i x y q;obtain⟨rfl,rfl⟩:a=_/\b=_:=(aD q);rw[vW];by_cases w:x=n
   .subst w;rw[eY rfl,aY];simp only[wU];by_cases q2:x=m
    .rw[eY q2,bW q2];rfl
    .rw[fV q2,dn q2];rfl
   .rw[fV w,aX];simp only[wU];by_cases q2:x=m
    .subst q2;rw[eY rfl,dn (λe=>w e.symm)];rfl
    .rw[fV q2];exact ih
  .cases h1
section
variable {c:aM} {s:aN} {e:fH}
def GU(st:List eu)(n:Nat)(t:Int):Bool:=(st.take n).any λx=>x.aL==2&&x.aI==t
theorem ao9{st:List eu}{n:Nat}(hn:n<st.length)(t:Int):GU st (n+1) t=(GU st n t||((st.getD n aG).aL==2&&(st.getD n aG).aI==t)):=by unfold GU;rw[um hn,List.any_append];simp
def LU(s:aN)(x:eu)(Xd:Bool):Bool:=
 bif decide (x.aI<0)||decide ((s.aH.length:Int)<=x.aI)then true
 else bif x.aL==1 then(aO s x.aI).fC||(!Xd&&((aO s x.aI).bL !=x.aJ))else bif x.aL==2 then(aO s x.aI).bL==x.aJ else true
theorem aLO(s:aN)(x:eu)(m:Bool):Sl s x m=some (LU s x m):=by unfold Sl LU;cases h:(decide (x.aI<0)||decide ((s.aH.length:Int)<=x.aI))with|true=>rfl|false=>rw[nW]at h;have h1:=wO h.1;have h2:=wO h.2;simp only[aX];rw[dJZ];cases (x.aL==1)<;>cases (x.aL==2)<;>rfl
def yU(s:aN)(st:List eu):Nat->List Int
 |0=> []
 |n+1=>yU s st n++(bif LU s (st.getD n aG) (GU st n (st.getD n aG).aI)then []else [(n:Int)])
theorem ao3(s:aN)(st:List eu):∀n,(yU s st n).length<=n
 |0=>gy _
 |n+1=>by have:=ao3 s st n;rw[yU,qp];cases LU s (st.getD n aG) (GU st n (st.getD n aG).aI)<;>simp<;>omega
theorem arR(hl:e.bH.length<=40000):Y2 s e=some (yU s e.bH e.bH.length):=by
 unfold Y2;apply o8;refine jX (L:=λm (x:List Int×List (Value×Value)) i=>DC s e.bH (e.bH.length:Int) m x.1 x.2 i) (x:=([],[])) e.bH.length ah (λn x=>x.1=yU s e.bH n/\tN x.2=true∧∀t,wU x.2 t=GU e.bH n t) ⟨rfl,rfl,λt=>rfl⟩ ?_ ?_
 .rintro m n ⟨l,mp⟩ hn ⟨h1,h2,h3⟩ ih;simp only at h1 h2 h3;show Ok (DC s e.bH _ (m+1) l mp n) _;have hlen:=ao3 s e.bH n;rw[DC,eFZ,dJZ,gL,h2];show Ok ((Sl s _ _).bind _) _;rw[aLO,bE,h3];have k2:∀l':List Int,l'=yU s e.bH (n+1)->Ok (SF (DC s e.bH (e.bH.length:Int) m) mp (n:Int) (e.bH.getD n aG) l') (λr=>r=yU s e.bH e.bH.length):=by intro l' hl';unfold SF Yz;rw[bIZ];cases hk:((e.bH.getD n aG).aL==2)with
   |true=>
    rw[aY,h2];refine ih (l',vW mp (e.bH.getD n aG).aI true) ⟨hl',apQ h2,λt=> ?_⟩;rw[uW h2,h3,ao9 hn,hk,l6];by_cases q:(e.bH.getD n aG).aI=t
    .rw[bW q,show((e.bH.getD n aG).aI==t)=true by simpa using q];simp
    .rw[dn q,show((e.bH.getD n aG).aI==t)=false by simpa using q];simp
   |false=>rw[aX];refine ih (l',mp) ⟨hl',h2,λt=> ?_⟩;rw[h3,ao9 hn,hk];simp
  cases hc:LU s (e.bH.getD n aG) (GU e.bH n (e.bH.getD n aG).aI)with|true=>simp only[gI,aX];exact k2 l (by rw[yU,hc,aY,nE];exact h1)|false=>simp only[jQ,aY];rw[h1,gU (dT (by unfold room;simp;omega))];exact k2 _ (by rw[yU,hc,aX])
 .rintro m ⟨l,mp⟩ ⟨h1,h2,h3⟩;show Ok (DC s e.bH _ (m+1) l mp _) _;rw[DC,fAZ];exact Ok.some h1
theorem aiZ{r:Int}(hv:VS c s)(hr:0<=r/\r<3:=by omega):Yk s r=some (hasB s.eH r):=by
 have hev:=hv.mM;unfold Yk;rw[dT hr.1,gU (by rw[dT (xZ r).1];rfl),l6];have:∀(a:Fin 8) (q:Fin 3),(je .i64 (iJ .i64 (a.1:Int) (IntKind.u64.wrap (q.1:Int))) 1==1)=hasB (a.1:Int) (q.1:Int):=by decide+kernel
 have:=this ⟨s.eH.toNat,ah⟩ ⟨r.toNat,ah⟩;simp only[show((s.eH.toNat:Nat):Int)=s.eH by omega,show((r.toNat:Nat):Int)=r by omega]at this;rw[this]
theorem aos(hc:VC c)(hI:Inv c s)(hl:e.bH.length<=40000){bS:Int}(ht:0<=bS/\bS<=1073741824)(hr:0<=e.Region/\e.Region<c.gK)(hev:hasB s.eH e.Region=true){i:Nat}{rest:List Int}(hi:i<e.bH.length)(hlf:yU s e.bH e.bH.length=(i:Int)::rest)
  {y:aP} (hy:NP c s (e.bH.getD i aG) bS=some (y,true)):FZ c s e bS=some (y,0):=by
 have ql:=hc.reg;unfold FZ;rw[dF (show¬e.Region<0 by omega),dF (show¬c.gK<=e.Region by omega),dF (show¬bS<0 by omega),dF (show¬1073741824<bS by omega)];simp only[nO,aX];rw[aiZ hI.vs,bE,hev];simp only[gI,aX];rw[arR hl,bE,hlf];have e0:((((((i:Int)::rest).length:Nat):Int))==0)=false:=by rw[sG];simp;omega
 rw[e0,aX];obtain⟨f,hf⟩:∃f,fuel=f+1:=⟨18446744073709551615,by rw[iP]⟩;rw[hf,SG,eF aj,dJ (jh _) aj];simp only[show(((i:Int)::rest).getD (0:Int).toNat aG)=(i:Int)from rfl];rw[dJZ,gL];simp only[show tN []=true from rfl,show∀t,wU [] t=false from λ_=>rfl,aX,bq,aY,hy,bE]
theorem apc(hc:VC c)(hI:Inv c s)(hl:e.bH.length<=40000){bS:Int}(ht:0<=bS/\bS<=1073741824)(hr:0<=e.Region/\e.Region<c.gK)(hev:hasB s.eH e.Region=true)(hlf:yU s e.bH e.bH.length=[]):FZ c s e bS=some (zE,34):=by have ql:=hc.reg;unfold FZ;rw[dF (show¬e.Region<0 by omega),dF (show¬c.gK<=e.Region by omega),dF (show¬bS<0 by omega),dF (show¬1073741824<bS by omega)];simp only[nO,aX];rw[aiZ hI.vs,bE,hev];simp only[gI,aX];rw[arR hl,bE,hlf];rfl
theorem apb(hc:VC c)(hI:Inv c s){bS:Int}(ht:0<=bS/\bS<=1073741824)(hr:0<=e.Region/\e.Region<c.gK)(hev:hasB s.eH e.Region=false):FZ c s e bS=some (tZ bS e.Region,0):=by have ql:=hc.reg;unfold FZ;rw[dF (show¬e.Region<0 by omega),dF (show¬c.gK<=e.Region by omega),dF (show¬bS<0 by omega),dF (show¬1073741824<bS by omega)];simp only[nO,aX];rw[aiZ hI.vs,bE,hev];rfl
end
def pst(s:aN)(mv:List Int):List eu:=mv.map λi=>kE (aO s i).bB i
section
variable {c:aM} {s:aN}
structure RX(c:aM)(s:aN)(t:Int)(done:List Int)(now:aN):Prop where
 zP:∃st ts,Run c s s.aH st done ts/\aMp c s done ts now t
 Xd:∀i∈done,aO now i=fo1 c s i t
 evc:now.eH=s.eH
structure Cnd(c:aM)(s:aN)(r t:Int)(mv:List Int):Prop where
 nd:mv.Nodup
 mem:∀j∈mv,(0<=j/\j<(c.aH.length:Int))/\vK c s r j=true
 ln:mv.length<=32
 wu:∀j∈mv,(aO s j).dV.bY<=t
end
def K1(c:aM)(al:Nat->Bool)(p:bO)(l:List aP)(s:aN):Prop:=H1 c p l s
def K3(c:aM)(al:Nat->Bool)(p:bO)(l:List aP)(s:aN):Prop:=H3 c al p l s
section
variable {c:aM} {al:Nat->Bool} {p:bO} {l:List aP} {s:aN} {e:aP}
theorem aq8(hc:VC c)(hv:VS c s)(h:p.state=s):rW p=some s:=by have h1:=hv.tl;have h2:=hv.cl;have h3:=hc.tl;have h4:=hc.cl;unfold rW;rw[h,aaJ,bE,aaI,bE]
theorem K1.norm(h:K1 c al p l s):((iU p):bO)=p:=H1.norm h
theorem K3.norm(h:K3 c al p l s):((kX p):bO)=p:=H3.norm h
theorem K1.state(hc:VC c)(hv:VS c s)(h:K1 c al p l s):rW p=some s:=aq8 hc hv (H1.sta h)
theorem K3.state(hc:VC c)(hv:VS c s)(h:K3 c al p l s):rW p=some s:=aq8 hc hv (H3.sta h)
theorem aqf(hc:VC c)(hz:(iB c s e).2=0):rY e=some true:=by
 have hv:=Um (e:=e) hc;have:Bb c e=true:=by unfold iB at hz;cases h:Bb c e with|true=>rfl|false=>rw[h]at hz;cases hz
 rw[this]at hv;unfold Ul at hv;obtain⟨x,h1,h2⟩:=DT hv;obtain⟨y,h3,h4⟩:=DT h2;have:(x&&y)=true:=aD h4
 rw[dQ]at this;rw[h1,this.1]
theorem aqu(hc:VC c)(hI:Inv c s)(hz:(iB c s e).2=0):Cb c s e=some ((iB c s e).1,0):=by rw[an7 hc hI,<-hz]
theorem K1.prop(hc:VC c)(hI:Inv c s)(h:K1 c al p l s)(hz:(iB c s e).2=0)(hl:l.length<=390):Ok (Ip p e) (λo=>o.2.1=0/\K1 c al o.2.2 (l++ [e]) (iB c s e).1):=
 H1.propose h (aqu hc hI hz) (aqf hc hz) (UC hc hz).2 hl
theorem K3.prop(hc:VC c)(hI:Inv c s)(h:K3 c al p l s)(hz:(iB c s e).2=0)(hl:l.length<=390):Ok (Km p e) (λo=>o.2.1=0/\K3 c al o.2.2 (l++ [e]) (iB c s e).1):=
 H3.propose h (aqu hc hI hz) (aqf hc hz) (UC hc hz).2 hl
theorem K1.new(hc:VC c)(h3:c.cZ.length=1):Ok (K9 c) (λo=>o.2=0/\K1 c (λ_=>true) o.1 [] (newS c)):=H1.new hc h3
theorem K3.new(hc:VC c)(h3:c.cZ.length=3):Ok (Ur c) (λo=>o.2=0/\K3 c (λ_=>true) o.1 [] (newS c)):=H3.new hc h3
theorem K1.lose(hc:VC c)(h:K1 c (λ_=>true) p l s)(hl:l.length<=390){r:Int}(hM:(c.cZ.length:Int)<2*(lK c r c.cZ.length:Nat)):Ok (SH p r) (λo=>∃al',K1 c al' o.2 l s):=by
 have h3:c.cZ.length=1:=by obtain⟨R,L,b,T,_,_,_,_,_,_,h3,_⟩:=H1.ok h;exact h3
 exact Ok.eq (H1.lose hc h (aLd h3 hM)) ⟨λ_=>true,h⟩
theorem K3.lose(hc:VC c)(h:K3 c (λ_=>true) p l s)(hl:l.length<=390){r:Int}(hM:(c.cZ.length:Int)<2*(lK c r c.cZ.length:Nat)):Ok (Sr p r) (λo=>∃al',K3 c al' o.2 l s):=by
 have h3:c.cZ.length=3:=by obtain⟨R,L,b,T,_,_,_,_,_,_,h3,_⟩:=H3.ok h;exact h3
 exact H3.lose hc h hl (aLe h3 hM)
theorem aaU:∀(a b:List aP) (s:aN),yJ c s (a++b)->yJ c s a/\yJ c (yD c s a) b
 | [],b,s,h=>⟨trivial,h⟩
 |x::a,b,s,h=>⟨⟨h.1,(aaU a b _ h.2).1⟩,(aaU a b _ h.2).2⟩
theorem ahG{n:Nat}(h:yJ c s l):yJ c s (l.take n):=(aaU (l.take n) (l.drop n) s (by rw[Vp];exact h)).1
theorem ar1(h:yJ c s l){n:Nat}(hn:n<l.length):(iB c (yD c s (l.take n)) (l.getD n aG)).2=0/\yD c s (l.take (n+1))=(iB c (yD c s (l.take n)) (l.getD n aG)).1:=by
 have h1:yJ c s (l.take n++ [l.getD n aG]):=by rw[<-um hn];exact ahG h
 exact⟨(aaU _ _ s h1).2.1,by rw[um hn,aay]⟩
theorem apx(hc:VC c)(hI:Inv c s):UJ c s=some true:=by
 have hbl:(rZ c s).length=c.aK.length:=OI c s;have hcl:=hc.cl;unfold UJ;rw[Zy hc hI.vs.tl,bE,hbl];simp only[jT,aX];apply o8;refine jX (L:=λm (_:Unit) i=>IQ c (rZ c s) m i) (x:=()) c.aK.length ah (λ_ _=>True) trivial ?_ ?_
 .rintro m k _ hk _ ih;show Ok (IQ c (rZ c s) (m+1) k) _;rw[IQ,hbl,eFZ,dJ ah (by rw[hbl];omega),gL,dJZ,gL,bIZ];have h1:=O8.1 hI.ov k hk;have h2:(rZ c s).getD k aG=qW c s.aH k s.aH.length:=agF hk;rw[fA (by rw[h2];omega)];exact ih () trivial
 .rintro m _ _;show Ok (IQ c (rZ c s) (m+1) _) _;rw[IQ,hbl,fAZ];exact Ok.some rfl
structure InR(c:aM)(r:Int)(L:List Int):Prop where
 nd:L.Nodup
 mem:∀k∈L,(0<=k/\k<(c.aK.length:Int))/\jG c k=r
 ln:L.length<=16
theorem arO(hc:VC c)(r:Int):Ok (T9 c r) (InR c r):=by
 have hcl:=hc.cl;unfold T9;refine jX (L:=λm x i=>FT c r (c.aK.length:Int) m x i) c.aK.length ah (λn x=>x.Nodup/\(∀k∈x,(0<=k/\k<(n:Int))/\jG c k=r)/\x.length<=n) ⟨aiM,λk hk=>absurd hk nU,gy _⟩ ?_ ?_
 .rintro m n x hn ⟨h1,h2,h3⟩ ih;show Ok (FT c r _ (m+1) x n) _;rw[FT,eFZ,I4 hc,bE];unfold YD;rw[bIZ];cases hq:(jG c (n:Int)==r)with
  |true=>
   rw[aY,gU (dT (rm ay))];refine ih _ ⟨Jh.2 ⟨h1,aj,λa ha b hb=> ?_⟩,λk hk=> ?_,ay⟩
   .rw[oV]at hb;have:=(h2 a ha).1;omega
   .rcases oU.1 hk with w|w
    .have:=h2 k w;exact⟨ah,this.2⟩
    .rw[oV]at w;subst w;exact⟨ah,aD hq⟩
  |false=>rw[aX];exact ih _ ⟨h1,λk hk=>by have:=h2 k hk;exact⟨ah,this.2⟩,ah⟩
 .rintro m x ⟨h1,h2,h3⟩;show Ok (FT c r _ (m+1) x _) _;rw[FT,fAZ];exact Ok.some ⟨h1,h2,ah⟩
structure LM(c:aM)(r:Int)(s0 s:aN)(out:List aP)(n:Nat):Prop where
 rl:RL c s out (40+n)
 tn:s.aH=s0.aH
 tk:s.aZ=s0.aZ
 ev:s.eH=s0.eH
 cl:∀k,0<=k->k<(c.aK.length:Int)->jG c k≠r->dw s k=dw s0 k
theorem LM.md(hc:VC c){r:Int}{s0 s:aN}{out:List aP}{n:Nat}(h:LM c r s0 s out n)(ho:n<=60){j:Int}(hj:0<=j/\j<(c.aK.length:Int))(hr:jG c j=r)(hm:(dw s j).ig≠3):
  (iB c s (yI s0.aZ j)).2=0/\LM c r s0 (iB c s (yI s0.aZ j)).1 (out++ [yI s0.aZ j]) (n+1)∧∀k,0<=k->k≠j->dw (iB c s (yI s0.aZ j)).1 k=dw s k:=by
 have hI:=h.rl.inv hc;have htk:=hI.vs.bS;have h1:=h.rl.ct;have h2:=h.rl.len;have ha:=aIQ (s:=s) (bS:=s0.aZ) hc hj (by rw[<-h.tk];omega) ah hm;have hz:(iB c s (yI s0.aZ j)).2=0:=by rw[ha]
 have hcl:∀k,0<=k->k≠j->dw (iB c s (yI s0.aZ j)).1 k=dw s k:=λk hk hne=>by rw[ha];show(s.aK.set j.toNat _).getD k.toNat aG=s.aK.getD k.toNat aG;simp only[fD,xU];rw[dn ah]
 refine⟨hz,⟨(h.rl.snoc hc hz (by show s0.aZ<=s.aZ+20000;rw[h.tk];omega)).up ah,by rw[ha];exact h.tn,by rw[ha];rfl,by rw[ha];exact h.ev,λk hk hk2 hkr=> ?_⟩,hcl⟩;have:k≠j:=λq=>hkr (by rw[q];exact hr);rw[hcl k hk this];exact h.cl k hk hk2 hkr
end
end Go.CP
namespace Go.CP
open Go Go.RowKit
theorem TG [F:Fuel]:OU=some true:=by obtain⟨n,e,d⟩:=F;subst e;kernel_rfl
end Go.CP
namespace Go.CP
open Go
variable [Fuel]
section
variable {c:aM} {al:Nat->Bool} {p:bO} {s:aN}
theorem aK5(hc:VC c)(hN:c.cZ.length=1){l:List Int}(hl:JK l):Ok (OV c l 40) (λp=>∃out s,K1 c (λ_=>true) p out s/\RL c s out 40):=by
 unfold OV;refine Ok.bind (K1.new hc hN) λo ho=> ?_;obtain⟨h1,h2⟩:=ho;rw[h1,h2.norm];simp only[jT,nO,aX];refine Ok.bind (aqN hc hl (n:=40) ah) λx hx=> ?_;obtain⟨s',R⟩:=hx;have hxl:=R.len;refine jX (L:=λm q i=>IY c x m i q) x.length ah (λn q=>K1 c (λ_=>true) q (x.take n) (yD c (newS c) (x.take n))) h2 ?_ ?_
 .rintro m n q hn hq ih;show Ok (IY c x (m+1) (n:Int) q) _;obtain⟨a1,a2⟩:=ar1 R.ok hn;rw[IY,eFZ,dJZ,gL];refine Ok.bind (K1.prop hc (aiq hc _ _ (Vd hc) (ahG R.ok)) hq a1 (by rw[sD];omega)) λo ho=> ?_;obtain⟨b1,b2⟩:=ho;rw[b1,b2.norm,bIZ];simp only[jT,aX];refine ih _ ?_;rw[um hn,aay];exact b2
 .rintro m q hq;show Ok (IY c x (m+1) _ q) _;rw[sF,R.run]at hq;have hv:=(R.inv hc).vs;have e1:=hv.tl;have e2:=hv.cl;rw[IY,fAZ,K1.state hc hv hq,bE,e1,e2];simp only[jT,nO,aX];exact Ok.some ⟨x,s',hq,R⟩
theorem aL7(hc:VC c){r:Int}(hM:(c.cZ.length:Int)<2*(lK c r c.cZ.length:Nat)){out:List aP}(h:K1 c (λ_=>true) p out s)(R:RL c s out 40):
  Ok (aaF c p r) (λo=>o.1=true∧∃al' out' s',K1 c al' o.2 out' s'/\LM c r s s' out' 16):=by
 have hol:=R.len;have hI:=R.inv hc;unfold aaF;rw[h.norm];refine Ok.bind (K1.lose hc h ah hM) λo ho=> ?_;obtain⟨al',h1⟩:=ho;rw[h1.norm,K1.state hc hI.vs h1,bE];refine Ok.bind (arO hc r) λL hL=> ?_;have hLl:=hL.ln;have hcl:=hI.vs.cl;refine jX (L:=λm q i=>F9 s L m i q) L.length ah (λn q=>∃out' s',K1 c al' q out' s'/\LM c r s s' out' n∧∀k,0<=k->k ∉ L.take n->dw s' k=dw s k) ⟨out,s,h1,⟨R.up ah,rfl,rfl,rfl,λ_ _ _ _=>rfl⟩,λ_ _ _=>rfl⟩ ?_ ?_
 .rintro m n q hn ⟨out',s',q1,q2,q3⟩ ih;show Ok (F9 s L (m+1) (n:Int) q) _;have hm:=hL.mem _ (jw hn);generalize hj:L.getD n aG=j at hm;have hx:∀k:Int->Option (Bool×bO),bC L (n:Int) k=k (L.getD (n:Int).toNat aG):=λk=>dJZ;rw[F9,eFZ,hx,xQ ah ah];simp only[gL,hj];rw[dF (show¬j<0 by omega),dF (show¬(s.aK.length:Int)<=j by omega)];simp only[nO,aX];unfold U9 IZ;rw[bE,hx,hx];simp only[gL,hj];rw[dJ hm.1.1 ah,bIZ];have hjn:j ∉ L.take n:=λw=>by obtain⟨i,hi,e⟩:=xV w;rw[sD]at hi;have e2:L[i]=j:=(by rw[<-e];simp);have e3:L[n]=j:=(by rw[<-hj];simp[fD,hn]);have:=(List.getElem_inj hL.nd (i:=i) (j:=n) (h₀:=by omega) (h₁:=by omega)).1 (by rw[e2,e3]);omega
  have hsub:∀k,k ∉ L.take (n+1)->k ∉ L.take n/\k≠j:=λk hk=>by rw[um hn,hj,oU,oV,not_or]at hk;exact hk
  have aMJ:=q2.rl.len;have hcj:dw s' j=s.aK.getD j.toNat aG:=q3 j hm.1.1 hjn;cases hmo:((s.aK.getD j.toNat aG).ig !=3)with
  |true=>obtain⟨z1,z2,z3⟩:=q2.md hc ah hm.1 hm.2 (by rw[hcj];simpa using hmo);simp only[aY];refine Ok.bind (K1.prop (e:=yI s.aZ j) hc (q2.rl.inv hc) q1 z1 ah) λo ho=> ?_;obtain⟨b1,b2⟩:=ho;rw[b1,b2.norm];simp only[jT,aX];refine ih _ ⟨_,_,b2,z2,λk hk hkn=> ?_⟩;obtain⟨w1,w2⟩:=hsub k hkn;rw[z3 k hk w2];exact q3 k hk w1
  |false=>simp only[aX];exact ih _ ⟨out',s',q1,⟨q2.rl.up ah,q2.tn,q2.tk,q2.ev,q2.cl⟩,λk hk hkn=>q3 k hk (hsub k hkn).1⟩
 .rintro m q ⟨out',s',q1,q2,q3⟩;show Ok (F9 s L (m+1) _ q) _;rw[F9,fAZ];exact Ok.some ⟨rfl,al',out',s',q1,⟨q2.rl.up ah,q2.tn,q2.tk,q2.ev,q2.cl⟩⟩
theorem aK6(hc:VC c)(hN:c.cZ.length=3){l:List Int}(hl:JK l):Ok (ZJ c l 40) (λp=>∃out s,K3 c (λ_=>true) p out s/\RL c s out 40):=by
 unfold ZJ;refine Ok.bind (K3.new hc hN) λo ho=> ?_;obtain⟨h1,h2⟩:=ho;rw[h1,h2.norm];simp only[jT,nO,aX];refine Ok.bind (aqN hc hl (n:=40) ah) λx hx=> ?_;obtain⟨s',R⟩:=hx;have hxl:=R.len;refine jX (L:=λm q i=>IL c x m i q) x.length ah (λn q=>K3 c (λ_=>true) q (x.take n) (yD c (newS c) (x.take n))) h2 ?_ ?_
 .rintro m n q hn hq ih;show Ok (IL c x (m+1) (n:Int) q) _;obtain⟨a1,a2⟩:=ar1 R.ok hn;rw[IL,eFZ,dJZ,gL];refine Ok.bind (K3.prop hc (aiq hc _ _ (Vd hc) (ahG R.ok)) hq a1 (by rw[sD];omega)) λo ho=> ?_;obtain⟨b1,b2⟩:=ho;rw[b1,b2.norm,bIZ];simp only[jT,aX];refine ih _ ?_;rw[um hn,aay];exact b2
 .rintro m q hq;show Ok (IL c x (m+1) _ q) _;rw[sF,R.run]at hq;have hv:=(R.inv hc).vs;have e1:=hv.tl;have e2:=hv.cl;rw[IL,fAZ,K3.state hc hv hq,bE,e1,e2];simp only[jT,nO,aX];exact Ok.some ⟨x,s',hq,R⟩
theorem aL8(hc:VC c){r:Int}(hM:(c.cZ.length:Int)<2*(lK c r c.cZ.length:Nat)){out:List aP}(h:K3 c (λ_=>true) p out s)(R:RL c s out 40):
  Ok (Z6 c p r) (λo=>o.1=true∧∃al' out' s',K3 c al' o.2 out' s'/\LM c r s s' out' 16):=by
 have hol:=R.len;have hI:=R.inv hc;unfold Z6;rw[h.norm];refine Ok.bind (K3.lose hc h ah hM) λo ho=> ?_;obtain⟨al',h1⟩:=ho;rw[h1.norm,K3.state hc hI.vs h1,bE];refine Ok.bind (arO hc r) λL hL=> ?_;have hLl:=hL.ln;have hcl:=hI.vs.cl;refine jX (L:=λm q i=>F6 s L m i q) L.length ah (λn q=>∃out' s',K3 c al' q out' s'/\LM c r s s' out' n∧∀k,0<=k->k ∉ L.take n->dw s' k=dw s k) ⟨out,s,h1,⟨R.up ah,rfl,rfl,rfl,λ_ _ _ _=>rfl⟩,λ_ _ _=>rfl⟩ ?_ ?_
 .rintro m n q hn ⟨out',s',q1,q2,q3⟩ ih;show Ok (F6 s L (m+1) (n:Int) q) _;have hm:=hL.mem _ (jw hn);generalize hj:L.getD n aG=j at hm;have hx:∀k:Int->Option (Bool×bO),bC L (n:Int) k=k (L.getD (n:Int).toNat aG):=λk=>dJZ;rw[F6,eFZ,hx,xQ ah ah];simp only[gL,hj];rw[dF (show¬j<0 by omega),dF (show¬(s.aK.length:Int)<=j by omega)];simp only[nO,aX];unfold U9 IZ;rw[bE,hx,hx];simp only[gL,hj];rw[dJ hm.1.1 ah,bIZ];have hjn:j ∉ L.take n:=λw=>by obtain⟨i,hi,e⟩:=xV w;rw[sD]at hi;have e2:L[i]=j:=(by rw[<-e];simp);have e3:L[n]=j:=(by rw[<-hj];simp[fD,hn]);have:=(List.getElem_inj hL.nd (i:=i) (j:=n) (h₀:=by omega) (h₁:=by omega)).1 (by rw[e2,e3]);omega
  have hsub:∀k,k ∉ L.take (n+1)->k ∉ L.take n/\k≠j:=λk hk=>by rw[um hn,hj,oU,oV,not_or]at hk;exact hk
  have aMJ:=q2.rl.len;have hcj:dw s' j=s.aK.getD j.toNat aG:=q3 j hm.1.1 hjn;cases hmo:((s.aK.getD j.toNat aG).ig !=3)with
  |true=>obtain⟨z1,z2,z3⟩:=q2.md hc ah hm.1 hm.2 (by rw[hcj];simpa using hmo);simp only[aY];refine Ok.bind (K3.prop (e:=yI s.aZ j) hc (q2.rl.inv hc) q1 z1 ah) λo ho=> ?_;obtain⟨b1,b2⟩:=ho;rw[b1,b2.norm];simp only[jT,aX];refine ih _ ⟨_,_,b2,z2,λk hk hkn=> ?_⟩;obtain⟨w1,w2⟩:=hsub k hkn;rw[z3 k hk w2];exact q3 k hk w1
  |false=>simp only[aX];exact ih _ ⟨out',s',q1,⟨q2.rl.up ah,q2.tn,q2.tk,q2.ev,q2.cl⟩,λk hk hkn=>q3 k hk (hsub k hkn).1⟩
 .rintro m q ⟨out',s',q1,q2,q3⟩;show Ok (F6 s L (m+1) _ q) _;rw[F6,fAZ];exact Ok.some ⟨rfl,al',out',s',q1,⟨q2.rl.up ah,q2.tn,q2.tk,q2.ev,q2.cl⟩⟩
end
section
variable {c:aM} {s:aN} {ts:List bM}
structure aPZ(c:aM)(s:aN)(r:Int)(mv:List Int):Prop where
 nd:mv.Nodup
 mem:∀i,i∈mv ↔ (0<=i/\i<(c.aH.length:Int))/\vK c s r i=true
 ln:mv.length<=32
 us:∀i∈mv,rU c s (aO s i).bB=true
 mak:KJ c s r=some ({Region:=r,bH:=pst s mv,jv:=[]},0)
 ck:KC c s {Region:=r,bH:=pst s mv,jv:=[]}=some ((mv.length:Int),0)
 sh:Oi {Region:=r,bH:=pst s mv,jv:=[]}=some []
end
section
variable {c:aM} {s:aN} {ts:List bM}
theorem apY:∀(l:List Int) (q:xw),(kM c s l q).2.2.Sublist (q.2.2++l)
 | [],q=>by rw[nE];exact VP _
 |x::r,q=>by rw[kM];refine(apY r _).trans ?_;cases (kS c s q.1 x).isEmpty with|true=>show((q.2.2++ [x])++r).Sublist _;rw[rH];exact VP _|false=>exact(VP q.2.2).append (List.sublist_cons_self x r)
theorem aqK:∀(n:Nat) (q:xw),(yG c s n q).2.2.Sublist q.2.2
 |0,q=>VP _
 |n+1,q=>by rw[yG];cases ((kM c s q.2.2 (q.1,q.2.1,[])).2.2.length==q.2.2.length)with|true=>exact VP _|false=>exact(aqK n _).trans (apY q.2.2 (q.1,q.2.1,[]))
theorem left_eq{l l1 mv:List Int}(h:l1.Sublist l)(hn:l.Nodup)(hp:(mv++l1).Perm l):l1=l.filter (nin mv):=by
 have hn2:(mv++l1).Nodup:=hp.nodup_iff.2 hn
 have e1:l1.filter (nin mv)=l1:=aa2.2 (λx hx=>by
  unfold nin
  rw[fV (λw=>(Jh.1 hn2).2.2 x w x hx rfl)];rfl)
 have e2:mv.filter (nin mv)=[]:=Px.2 (λx hx=>by
  unfold nin
  rw[eY hx];simp)
 have h2:=h.filter (nin mv);have h3:=(hp.filter (nin mv)).length_eq;rw[Ci,e2,zq]at h3;rw[e1]at h2 h3;exact h2.eq_of_length h3
theorem ajt(hc:VC c)(hv:VS c s){pre st:List eu}(hl:st.length<=40000)(ht:lV c s s.aH (pre++st)):Il (jH c s (fq c s s.aH pre)) st=some (true,jH c s (fq c s s.aH (pre++st))):=by
 unfold Il aeg;have:Fq st st (st.length:Int) fuel (jH c s (fq c s s.aH pre)) 0=some ((st.length:Int),jH c s (fq c s s.aH (pre++st))):=by
  apply o8;refine jX (L:=λm x i=>Fq st st (st.length:Int) m x i) st.length ah (λn x=>x=jH c s (fq c s s.aH (pre++st.take n))) (by rw[abe,nE]) ?_ ?_
  .rintro m n x hn rfl ih;show Ok (Fq st st _ (m+1) _ (n:Int)) _;have q:pre.length+n<(pre++st).length:=(by rw[qp];omega);obtain⟨p1,p2⟩:=El ht q;have t1:(pre++st).take (pre.length+n)=pre++st.take n:=(by rw[abd,Ll ah,ars]);have t2:(pre++st).take (pre.length+n+1)=pre++st.take (n+1):=(by rw[abd,Ll ah,show pre.length+n+1-pre.length=n+1 by omega]);rw[t1]at p1 p2;rw[EF]at p1 p2;rw[t2]at p2;have hg:=yV (s:=s) (pre++st.take n) hv.gs;rw[Fq,eFZ,dJZ,gL,asc hc hv hg p1 (ao8 (k:=pre.length+n) (st:=pre++st) hv (by rw[t1];exact p1)),bE,bIZ];exact ih _ (by rw[p2])
  .rintro m x rfl;show Ok (Fq st st _ (m+1) _ _) _;rw[Fq,fAZ,sF];exact Ok.some rfl
 rw[this,bE];simp
theorem aKv(hc:VC c)(hI:Inv c s)(hN:NI s){st:List eu}{mv:List Int}(hr:Run c s s.aH st mv ts):(∀j,j+1<st.length->(st.getD j aG).aL=1->(st.getD (j+1) aG).aJ=(st.getD j aG).aJ)/\(∀j,j+1=st.length->(st.getD j aG).aL=2):=by induction hr with
 |nil=>exact⟨λj h=>absurd h (kJ _),λj h=>absurd h aj⟩
 | @snoc st mv ts i h hi hn ih=>
  obtain⟨ys,G⟩:=grp hc (ajc hc hI hN h).gs hn;generalize hk:(ts.getD i.toNat aG).bB=k at G;rw[G.st];have hgl:(ys.map (jE k)++ [kE k i]).length=ys.length+1:=aj
  have hcell:∀j,j<(ys.map (jE k)++ [kE k i]).length->((ys.map (jE k)++ [kE k i]).getD j aG).aJ=k:=λj hj=>by
   rcases oU.1 (jw hj)with q|q
   .obtain⟨y,_,e⟩:=qw.1 q;rw[<-e];rfl
   .rw[oV.1 q];rfl
  refine⟨λj hj hkd=> ?_,λj hj=> ?_⟩
  .rw[qp]at hj;by_cases h1:j+1<st.length
   .rw[GQ h1,GQ];rw[GQ]at hkd;exact ih.1 j h1 hkd
   .by_cases h2:j+1=st.length
    .rw[GQ,ih.2 j h2]at hkd;exact absurd hkd ah
    .obtain⟨b,rfl⟩:∃b,j=st.length+b:=⟨j-st.length,ah⟩;rw[show st.length+b+1=st.length+(b+1)by omega,EF,EF,hcell _ ah,hcell _ ah]
  .rw[qp,hgl]at hj;have e:j=st.length+ys.length:=ah;subst e;rw[EF];have:=EF (a:=ys.map (jE k)) (b:=[kE k i]) (n:=0);rw[kQ,vk]at this;rw[this];rfl
theorem aJj(hc:VC c)(hv:VS c s)(hPI:PI s.aH){e:fH}(hl:e.bH.length<=40000)(ht:lV c s s.aH e.bH){a k:Nat}(P:PRk c s e.bH a k)(hcell:∀j,a<=j->j<=k->(e.bH.getD j aG).aJ=(e.bH.getD a aG).aJ):SB c s e (a:Int)=some true:=by
 have hlt:=P.lt;have hcl:=hc.cl;have hct:=hc.tl;have hsl:=hv.tl;have hta:=ahQ ht a;have htk:=ahQ ht k;have ha1:=P.sh a (gy _) hlt.1;have hr:=P.rng;have hga:=yV (s:=s) (e.bH.take a) hv.gs;have hgk:=yV (s:=s) (e.bH.take k) hv.gs;have hal:=ajt hc hv (pre:=[]) (st:=e.bH.take a) (by rw[sD];omega) (by rw[zq];exact hta);rw[zq]at hal;have hal:Il (jH c s s.aH) (e.bH.take a)=some (true,jH c s (fq c s s.aH (e.bH.take a))):=hal;have hap:e.bH.take a++(e.bH.take k).drop a=e.bH.take k:=by have:=Vp a (e.bH.take k);rw[aiO,Cm ah]at this;exact this
 have hak:=ajt hc hv (pre:=e.bH.take a) (st:=(e.bH.take k).drop a) (by rw[List.length_drop,sD];omega) (by rw[hap];exact htk);rw[hap]at hak;obtain⟨p1,_⟩:=El ht hlt.2;obtain⟨y1,y2,y3,y4⟩:=xO p1;have hyk:(e.bH.getD k aG).aL=2:=by
  rcases y4 with⟨q,_⟩|⟨q,_⟩
  .exact absurd q P.mv
  .exact q
 generalize hx:e.bH.getD a aG=x at*;generalize hy:e.bH.getD k aG=y at*;have hxc:y.aJ=x.aJ:=by have:=P.cell;rw[hx,hy]at this;exact this
 have hbl:(jf c s (fq c s s.aH (e.bH.take a))).length=c.aK.length:=uI _ _ _;have hbd:=abQ hc hga (s:=s) (j:=x.aJ.toNat) ah;have hpr:=P.pr;have ht2:=P.t2;have ht1:=P.t1;rw[hx,hy]at hpr;rw[hy]at ht2;rw[hx]at ht1;have hdl:=yM hc (k:=y.aI.toNat) ah;unfold SB;rw[dF (show¬(a:Int)<0 by omega),dF (show¬((e.bH.length:Nat):Int)<=(a:Int)by omega),xQ ah ah,gL,hx];simp only[nO,kW];rw[show(x.aL !=1)=false by rw[ha1];rfl,aX,aiv hc hv,bE,dJZ,gL,hx,gU (dT ⟨ah,ah⟩),hal,bE];simp only[gI,kW];rw[dF (show¬x.aJ<0 by omega),dF (show¬(((jH c s (fq c s s.aH (e.bH.take a))).dM.length:Nat):Int)<=x.aJ by show¬(((jf c s _).length:Nat):Int)<=_;omega)];simp only[nO,aX];rw[dJ hr.1 (by show _<(((jf c s _).length:Nat):Int);omega)];show Nv c e a x ((jf c s (fq c s s.aH (e.bH.take a))).getD x.aJ.toNat aG) (jH c s (fq c s s.aH (e.bH.take a))) fuel a=_;apply o8;have key:∀(m j:Nat),a<=j->j<=k->k - j<m->Ok (Nv c e a x ((jf c s (fq c s s.aH (e.bH.take a))).getD x.aJ.toNat aG) (jH c s (fq c s s.aH (e.bH.take a))) m (j:Int)) (λr=>r=true):=by intro m;induction m with
  |zero=>intro j _ _ h;exact absurd h (kJ _)
  |succ m ih=>
   intro j h1 h2 hm;rw[Nv,dT (show(j:Int)<(e.bH.length:Int)by omega),xQ ah ah,xQ ah ah,gL];by_cases q:j<k
   .have hj1:=P.sh j h1 q;have hj2:=hcell j h1 ah;rw[show((e.bH.getD j aG).aL==1)=true by rw[hj1];rfl,show((e.bH.getD j aG).aJ==x.aJ)=true by rw[hj2];simp];simp only[Ad,aY];rw[bIZ];exact ih (j+1) ah ah ah
   .have:j=k:=ah;subst this;rw[hy,show(y.aL==1)=false by rw[hyk];rfl];simp only[Em,nu,aX];rw[gU (dT ⟨ah,ah,ah⟩)];simp only[gL];rw[hak,bE];have e0:((j:Int)==(e.bH.length:Int))=false:=sG.2 ah;simp only[e0,gI,nO,aX]
    rw[dJZ,gL,hy,show(y.aL !=2)=false by rw[hyk];rfl,show(y.aJ !=x.aJ)=false by rw[hxc];simp,dF (show¬y.aI<0 by omega),dF (show¬(((jH c s (fq c s s.aH (e.bH.take j))).dL.length:Nat):Int)<=y.aI by
     show¬((((fq c s s.aH (e.bH.take j)).map nJ).length:Nat):Int)<=_
     rw[kQ];omega)]
    simp only[nO,aX]
    rw[dJ ht2.1 ah,dJ ht1.1 ah,fA (show¬(c.aH.getD y.aI.toNat aG).gM<=(c.aH.getD x.aI.toNat aG).gM by
     have:(c.aH.getD x.aI.toNat aG).gM<(c.aH.getD y.aI.toNat aG).gM:=hpr
     omega),bI (x:=(j:Int)-1) ah ah]
    rw[xQ hr.1 hr.2];by_cases w:(a:Int)<(j:Int)-1
    .rw[dT w];exact Ok.some rfl
    .rw[dF w];have eja:j-1=a:=ah;have hov:=P.ov;have hth:=P.wD;rw[hx,hy,eja]at hov;rw[hy,eja]at hth;obtain⟨_,hp2,_⟩:=(Jd _ _ _).1 hth;rw[Gw,Lu hp2]at hov;have hov:(c.aK.getD x.aJ.toNat aG).mg<(jf c s (nS (fq c s s.aH (e.bH.take a)) y)).getD x.aJ.toNat 0:=hov;have ey:y=kE x.aJ y.aI:=(by unfold kE;rw[<-hxc,<-hyk]);rw[ey]at hov hp2;have:=(agE hc hga (ab0 _ hta hPI) hp2 (j:=x.aJ.toNat) ah).2 ah;rw[this]at hov;refine Ok.some ?_;rw[kW,ow];have hld:(tn c y.aI)=c.aH.getD y.aI.toNat aG:=rfl;rw[hld]at hov;have aMz:(jf c s (fq c s s.aH (e.bH.take a))).getD x.aJ.toNat aG=(jf c s (fq c s s.aH (e.bH.take a))).getD x.aJ.toNat 0:=rfl;rw[aMz];generalize (jf c s (fq c s s.aH (e.bH.take a))).getD x.aJ.toNat 0=B at*;rw[bI (x:=_+(c.aH.getD y.aI.toNat aG).eD) ah ah,bIZ];omega
 exact key fuel a (gy _) ah aB
theorem aqO(k pr:Int)(n:Nat):mR c (qR c ts k pr (n+1))=mR c (qR c ts k pr n)+(bif zI c ts k pr n then(c.aH.getD n aG).eD else 0):=by rw[qR];cases zI c ts k pr n with|true=>rw[aY,aY,aql];simp only[mR];unfold tn;rw[gL];omega|false=>rw[aX,aX];omega
theorem aIK{a b:List Int}(h:a.Perm b):mR c a=mR c b:=by induction h with|nil=>rfl|cons x _ ih=>rw[mR,mR,ih]|swap x y l=>simp only[mR];omega|trans _ _ i1 i2=>rw[i1,i2]
theorem agP(k pr:Int):∀n,(qR c ts k pr n).Nodup
 |0=>aiM
 |n+1=>by rw[qR];cases zI c ts k pr n with
  |true=>rw[aY];refine Jh.2 ⟨agP k pr n,aj,λa ha b hb=> ?_⟩;rw[oV]at hb;obtain⟨j,h1,h2,_⟩:=(aav k pr n a).1 ha;omega
  |false=>exact agP k pr n
theorem aJg(hc:VC c)(hg:GS c ts)(k pr:Int):(qR c ts k pr ts.length).Perm (yA c ts k pr):=by
 refine(List.perm_ext_iff_of_nodup (agP k pr _) (ao5 hc hg k pr)).2 λy=> ?_;rw[aij hc hg,aav];constructor
 .rintro⟨j,h1,rfl,h3⟩;exact⟨ah,by rw[gL];exact h3⟩
 .rintro⟨h1,h2⟩;exact⟨y.toNat,ah,ah,h2⟩
theorem arT(hc:VC c)(k pr:Int):∀n,n<=c.aH.length->0<=mR c (qR c ts k pr n)/\mR c (qR c ts k pr n)<=65536*(n:Int)
 |0,_=>by simp[qR,mR]
 |n+1,h=>by have ih:=arT hc k pr n ah;have hd:=yM hc (k:=n) ah;rw[aqO];cases zI c ts k pr n with|true=>rw[aY];push_cast;omega|false=>rw[aX];push_cast;omega
theorem aK3(hc:VC c)(hI:Inv c s){e:fH}(hl:e.bH.length<=40000)(ht:lV c s s.aH e.bH){i:Int}(hno:kS c s (fq c s s.aH e.bH) i=[])(hsame:(fq c s s.aH e.bH).getD i.toNat aG=aO s i):Ti c s e i=some false:=by
 have hv:=hI.vs;have hcl:=hc.cl;have hct:=hc.tl;have hsl:=hv.tl;have hgs:=yV (s:=s) e.bH hv.gs;have hal:=ajt hc hv (pre:=[]) (st:=e.bH) hl (by rw[zq];exact ht);rw[zq]at hal;have hal:Il (jH c s s.aH) e.bH=some (true,jH c s (fq c s s.aH e.bH)):=hal;generalize hts:fq c s s.aH e.bH=ts at*;have hgl:=hgs.len;unfold Ti;rw[aiv hc hv,bE,hal,bE];have hse:((jH c s ts).dL.length:Nat)=ts.length:=by show(ts.map nJ).length=_;rw[kQ]
 have hbe:((jH c s ts).dM.length:Nat)=c.aK.length:=uI _ _ _;simp only[gI,kW];by_cases hi:0<=i/\i<(ts.length:Int)
 .rw[dF (show¬i<0 by omega),dF (show¬(((jH c s ts).dL.length:Nat):Int)<=i by omega)];simp only[nO,aX];rw[dJ hi.1 ah];have yh:(jH c s ts).dL.getD i.toNat aG=nJ (aO s i):=by show(ts.map nJ).getD i.toNat aG=_;rw[ai3 ah,hsame]
  rw[yh];have hact:(nJ (aO s i)).nG=kY (aO s i):=rfl;have hho:(nJ (aO s i)).lU=(aO s i).bL:=rfl;have hsb:(nJ (aO s i)).jB=(aO s i).bB:=rfl;simp only[hact,hho,hsb];cases ha:kY (aO s i)with
  |false=>simp only[jQ,En,gI,aX,aY,bE]
  |true=>
  by_cases h0:(aO s i).bL<0
  .rw[dT h0];simp only[gI,VK,En,jQ,aX,aY,bE]
  rw[dF h0];simp only[gI,nO,jQ,aY,I4 hc,bE,kW];cases hg:(jG c (aO s i).bL !=e.Region)with
  |true=>rfl
  |false=>
  simp only[aX];by_cases h1:(aO s i).bB<0
  .rw[dT h1];rfl
  by_cases h2:(((jH c s ts).dM.length:Nat):Int)<=(aO s i).bB
  .rw[dF h1,dT h2];rfl
  rw[dF h1,dF h2];simp only[nO,jQ,aY,ase hc hv,bE,kW];rw[dT hi.1,dT (show i<(s.aH.length:Int)by omega),ha];simp only[Ad,l6];cases hu:rU c s (aO s i).bB with
  |false=>rfl
  |true=>
  simp only[gI,aX];have hmiss:=aLk (s:=s) hc hgs (i:=i) (by rw[hsame];exact ha) (by rw[hsame];exact hu) hno;rw[hsame]at hmiss;have hbd:=abQ (s:=s) hc hgs (j:=(aO s i).bB.toNat) ah;have hdl:=yM hc (k:=i.toNat) ah;have hcap:=aiW hc (k:=(aO s i).bB.toNat) ah;rw[dJ hi.1 ah,dJZ];have hbk:(jH c s ts).dM.getD (aO s i).bB.toNat aG=(jf c s ts).getD (aO s i).bB.toNat 0:=rfl;rw[hbk];unfold tK at hmiss;rw[hsame]at hmiss;have htn:tn c i=c.aH.getD i.toNat aG:=rfl;rw[htn]at hmiss;generalize hD:c.aH.getD i.toNat aG=d at*;generalize hB:(jf c s ts).getD (aO s i).bB.toNat 0=B at*;rw[bI (x:=B+d.eD) ah ah,bIZ,hse];have hp:=aIK (c:=c) (aJg hc hgs (aO s i).bB d.gM);rw[<-hp]at hmiss;apply o8;refine jX (L:=λm x j=>FK c (nJ (aO s i)) d (jH c s ts).dL (ts.length:Int) m x j) ts.length ah (λn x=>x=B+d.eD-d.kK-mR c (qR c ts (aO s i).bB d.gM n)) (by simp[qR,mR]) ?_ ?_
  .rintro m n x hn rfl ih;show Ok (FK c (nJ (aO s i)) d _ _ (m+1) _ (n:Int)) _;have hb1:=arT (ts:=ts) hc (aO s i).bB d.gM n ah;have hdn:=yM hc (k:=n) ah;have hsn:(jH c s ts).dL.getD n aG=nJ (ts.getD n aG):=(by show(ts.map nJ).getD n aG=_;rw[ai3 hn]);rw[FK,eFZ,dJZ,gL,hsn,xQ ah ah,gL];have hlb:(((nJ (ts.getD n aG)).nG&&((nJ (ts.getD n aG)).lU==(nJ (aO s i)).jB))&&decide ((c.aH.getD n aG).gM<d.gM))=zI c ts (aO s i).bB d.gM n:=rfl;rw[hlb];have hs:=aqO (c:=c) (ts:=ts) (aO s i).bB d.gM n;unfold Yr;rw[bI (x:=(n:Int)+1) ah ah];cases hb:zI c ts (aO s i).bB d.gM n with|true=>rw[hb,aY]at hs;rw[aY,dJZ,gL,bIZ];exact ih _ (by rw[hs];omega)|false=>rw[hb,aX]at hs;rw[aX];exact ih _ (by rw[hs];omega)
  .rintro m x rfl;show Ok (FK c (nJ (aO s i)) d _ _ (m+1) _ _) _;rw[FK,fAZ,dJ (show 0<=(nJ (aO s i)).jB by rw[hsb];omega) (by rw[hsb];omega),hsb];exact Ok.some (fV ah)
 .rw[show(decide (i<0)||decide ((((jH c s ts).dL.length:Nat):Int)<=i))=true by
   rw[pO,ow,ow,hse];omega]
  rfl
end
def wo(st:List eu):Prop:=∀i j,i<j->j<st.length->(st.getD i aG).aI≠(st.getD j aG).aI
section
variable {c:aM} {s:aN} {st:List eu}
theorem arB(ht:lV c s s.aH st)(hd:∀x∈st,x.aL=1→∀y∈st,y.aL=2->x.aI≠y.aI):wo st:=by
 intro i j hij hj he;have hi:i<st.length:=ah
 obtain⟨p1,p2⟩:=El ht hi;obtain⟨q1,_⟩:=El ht hj;obtain⟨a1,a2,a3,a4⟩:=xO p1;obtain⟨b1,b2,b3,b4⟩:=xO q1;have hl:=Jm (c:=c) (s:=s) (st.take i) s.aH;have hl1:=Jm (c:=c) (s:=s) (st.take (i+1)) s.aH;have e:st.take (i+1)++(st.take j).drop (i+1)=st.take j:=by have:=Vp (i+1) (st.take j);rw[aiO,Cm ah]at this;exact this
 obtain⟨c1,c2⟩:=aaX (c:=c) (s:=s) ((st.take j).drop (i+1)) (ts:=fq c s s.aH (st.take (i+1))) (st.getD j aG).aI.toNat ah;rw[<-Gw,e]at c1 c2;have g:(fq c s s.aH (st.take (i+1))).getD (st.getD j aG).aI.toNat aG=pU ((fq c s s.aH (st.take i)).getD (st.getD i aG).aI.toNat aG) (st.getD i aG):=by rw[p2,<-he];exact UY
 rw[g]at c1 c2;have c3:=c2 b3;rcases a4 with⟨k1,h1⟩|⟨k2,h2,_⟩
 .have e1:((st.getD i aG).aL==1)=true:=by rw[k1];rfl
  unfold pU kY at c3;rw[e1,aY]at c3;simp at c3
 .have e1:((st.getD i aG).aL==1)=false:=by rw[k2];rfl
  rcases b4 with⟨k3,_⟩|⟨_,k4,_⟩
  .exact hd _ (jw hj) k3 _ (jw hi) k2 he.symm
  .unfold pU at c1;rw[e1,aX]at c1;rcases c1 with c1|c1
   .omega
   .have:(-1:Int)=(st.getD j aG).aJ:=(by rw[<-k4,c1]);omega
theorem V6(ht:lV c s s.aH st){i:Int}(hi:0<=i):∀n,n<=st.length->(∀j,j<n->(st.getD j aG).aI≠i)->(fq c s s.aH (st.take n)).getD i.toNat aG=aO s i
 |0,_,_=>by rw[abe];rfl
 |n+1,h,hd=>by obtain⟨p1,p2⟩:=El ht (k:=n) ah;have:=(xO p1).1;have:=hd n ah;rw[p2,Ja ah];exact V6 ht hi n ah (λj hj=>hd j ah)
theorem ajM(ht:lV c s s.aH st)(hd:wo st){k:Nat}:∀n,k<n->n<=st.length->(fq c s s.aH (st.take n)).getD (st.getD k aG).aI.toNat aG=pU (aO s (st.getD k aG).aI) (st.getD k aG)
 |0,h,_=>absurd h (kJ _)
 |n+1,h,hn=>by
  obtain⟨p1,p2⟩:=El ht (k:=n) ah;have h1:=(xO p1).1;have hl:=Jm (c:=c) (s:=s) (st.take n) s.aH;by_cases q:k=n
  .subst q;rw[p2,UY,V6 ht h1.1 k ah (λj hj=>hd j k hj ah)]
  .have:=hd k n ah ah;have h2:=(xO (El ht (k:=k) ah).1).1;rw[p2,Ja ah];exact ajM ht hd n ah ah
theorem GI(ht:lV c s s.aH st)(hd:wo st){k:Nat}(hk:k<st.length):(0<=(st.getD k aG).aI/\(st.getD k aG).aI<(s.aH.length:Int))/\(0<=(st.getD k aG).aJ/\(st.getD k aG).aJ<(c.aK.length:Int))/\kY (aO s (st.getD k aG).aI)=true∧
  (((st.getD k aG).aL=1/\(aO s (st.getD k aG).aI).bL=(st.getD k aG).aJ)\/((st.getD k aG).aL=2/\(aO s (st.getD k aG).aI).bB=(st.getD k aG).aJ/\rU c s (st.getD k aG).aJ=true)):=by
 obtain⟨a1,a2,a3,a4⟩:=xO (El ht hk).1;rw[V6 ht a1.1 k ah (λj hj=>hd j k hj hk)]at a3 a4;rw[Jm]at a1;exact⟨a1,a2,a3,a4⟩
theorem aaO(hc:VC c)(hv:VS c s)(ht:lV c s s.aH st)(hd:wo st):st.length<=32:=by
 have h1:(st.map (·.aI)).Nodup:=by rw[List.nodup_iff_pairwise_ne,aro];intro i j hi hj hij;rw[kQ]at hi hj;have:=hd i j hij hj;simpa[fD,hi,hj]using this
 have h2:=aiw (f:=λ_=>1) (λ_=>ah) (F:=λn=>(n:Int)) rfl (λn=>by push_cast;rfl) c.aH.length (st.map (·.aI)) h1 (λx hx=>by
  obtain⟨y,hy,rfl⟩:=qw.1 hx;obtain⟨k,hk,rfl⟩:=xV hy;have:=(GI ht hd hk).1;rw[show st.getD k aG=st[k]by simp[fD,hk]]at this;have:=hv.tl
  omega)
 have h3:∀l:List Int,G7 (λ_=>1) l=(l.length:Int):=λl=>by induction l with|nil=>rfl|cons a r ih=>simp only[G7,ih,yQ];push_cast;omega
 rw[h3,kQ]at h2;have:=hc.tl;omega
structure SX(c:aM)(s:aN)(t ev:Int)(st:List eu)(n:Nat)(now:aN):Prop where
 al:∀i,i<s.aH.length->Alike (now.aH.getD i aG) ((fq c s s.aH (st.take n)).getD i aG)
 kp:∀i,0<=i->(∀j,j<n->(st.getD j aG).aI≠i)->aO now i=aO s i
 cl:now.aK=s.aK
 tk:now.aZ<=t
 evc:now.eH=ev
theorem aKf(hd:wo st){j:Nat}(hj:j<st.length):GU st j (st.getD j aG).aI=false:=by unfold GU;rw[ajr];intro x hx;obtain⟨i,hi,rfl⟩:=xV hx;rw[sD]at hi;have:=hd i j ah hj;rw[show(st.take j)[i]=st.getD i aG by simp[fD,show i<st.length by omega],show((st.getD i aG).aI==(st.getD j aG).aI)=false from sG.2 this];simp
theorem SX.akk(hc:VC c)(hrs:RS c s)(ht:lV c s s.aH st)(hd:wo st){t ev:Int}{now:aN}{n:Nat}(hn:n<=st.length)(hnl:now.aH.length=s.aH.length)(h:SX c s t ev st n now):∀m,m<=st.length->yU now st m=((List.range m).filter λj=>decide (n<=j)).map Int.ofNat
 |0,_=>rfl
 |m +1,hm=>by
  obtain⟨a1,a2,a3,a4⟩:=GI ht hd (k:=m) ah;rw[yU,SX.akk hc hrs ht hd hn hnl h m ah,List.range_succ,Ci,Pz,aKf hd ah];congr 1;have hal:=h.al (st.getD m aG).aI.toNat ah;have et:now.aH.getD (st.getD m aG).aI.toNat aG=aO now (st.getD m aG).aI:=rfl;rw[et]at hal;have hcar:LU now (st.getD m aG) false=decide (m<n):=by
   unfold LU;rw[dF (show¬(st.getD m aG).aI<0 by omega),dF (show¬(now.aH.length:Int)<=(st.getD m aG).aI by omega)];simp only[nO,aX,jQ,l6];by_cases q:m<n
   .rw[ajM ht hd n q hn]at hal;rw[dT q];unfold pU at hal;rcases a4 with⟨k1,h1⟩|⟨k2,h2,_⟩
    .have e1:((st.getD m aG).aL==1)=true:=(by rw[k1];rfl);rw[e1,aY]at hal;rw[e1,aY,hal.sh];rfl
    .have e1:((st.getD m aG).aL==1)=false:=(by rw[k2];rfl);have e2:((st.getD m aG).aL==2)=true:=(by rw[k2];rfl);rw[e1,aX]at hal;rw[e1,e2,aX,aY,hal.ho];simp
   .rw[V6 ht a1.1 n hn (λj hj=>hd j m ah ah)]at hal;rw[dF q];rw[Jb]at a3;rcases a4 with⟨k1,h1⟩|⟨k2,h2,_⟩
    .have e1:((st.getD m aG).aL==1)=true:=(by rw[k1];rfl);rw[e1,aY,hal.sh,hal.ho,a3.2,h1];simp
    .have e1:((st.getD m aG).aL==1)=false:=(by rw[k2];rfl);have e2:((st.getD m aG).aL==2)=true:=(by rw[k2];rfl);rw[e1,e2,aX,aY,hal.ho];have hP:=abE hc (hrs.inv hc) (hrs.ni hc) (aO s (st.getD m aG).aI) (jw (xs:=s.aH) (i:=(st.getD m aG).aI.toNat) ah);rw[sG];intro w;exact hP.hs ah (by rw[h2];exact w)
  rw[hcar];by_cases q:m<n
  .rw[dT q];simp[show¬n<=m by omega]
  .rw[dF q];simp[show n<=m by omega]
theorem SX.aqS(hc:VC c)(hrs:RS c s)(ht:lV c s s.aH st)(hcap:∀n,n<=st.length->Cw c s (fq c s s.aH (st.take n)))(hd:wo st){t ev:Int}(htb:0<=t/\t<=1000000000)(hw:∀i,i<s.aH.length->(s.aH.getD i aG).dV.bY<=t){now:aN}(hrn:RS c now){n:Nat}(hn:n<st.length)(h:SX c s t ev st n now):
  ∃y,NP c now (st.getD n aG) t=some (y,true)/\y.aZ=t/\(iB c now y).2=0/\SX c s t ev st (n+1) (iB c now y).1:=by
 have hI:=hrs.inv hc;have hIn:=hrn.inv hc;have hv:=hI.vs;have JN:=hIn.vs;have hsl:=hv.tl;have hnl:=JN.tl;have hct:=hc.tl;have hcn:=hrn.cnt;have hnt:=h.tk;have aP5:=JN.bS;have hle:=hc.yt;obtain⟨a1,a2,a3,a4⟩:=GI ht hd hn;obtain⟨p1,p2⟩:=El ht hn;have hkp:=h.kp _ a1.1 (λj hj=>hd j n hj hn);have hal:=h.al (st.getD n aG).aI.toNat ah;have hwx:=hw (st.getD n aG).aI.toNat ah;have hun:=V6 ht a1.1 n ah (λj hj=>hd j n hj hn);have hl:=Jm (c:=c) (s:=s) (st.take n) s.aH;rw[Jb]at a3;generalize hx:st.getD n aG=x at*;have e0:s.aH.getD x.aI.toNat aG=aO s x.aI:=rfl;rw[e0]at hwx
 -- what the entry makes
 have fin:∀(e:aP) (t':bM),iB c now e=(gX (bump now e) x.aI t',0)->e.aZ=t->Alike t' (pU (aO s x.aI) x)->SX c s t ev st (n+1) (iB c now e).1:=by
  intro e t' hz het aMy;rw[hz];refine⟨λi hi=> ?_,λi hi hj=> ?_,h.cl,by show e.aZ<=t;omega,h.evc⟩
  .rw[p2];by_cases q:x.aI.toNat=i
   .subst q;rw[an2,UY,hun];exact aMy
   .rw[an3 q,Ja q];exact h.al i hi
  .have hne:=hj n ah;rw[hx]at hne;show(gX (bump now e) x.aI t').aH.getD i.toNat aG=_;rw[aKB ah];exact h.kp i hi (λj hj'=>hj j ah)
 rcases a4 with⟨k1,h1⟩|⟨k2,h2,hu⟩
 .have e1:(x.aL==1)=true:=by rw[k1];rfl
  have hz:=aIR (s:=now) (bS:=t) (i:=x.aI) hc ah ah ah (by rw[hkp];exact a3.1) (by rw[hkp];exact a3.2) (by rw[hkp];exact hwx);refine⟨Am t x.aI,?_,rfl,by rw[hz],fin _ _ hz rfl ?_⟩
  .unfold NP;rw[e1,aY,an8 hc hIn,bE];show some (Am t x.aI,(iB c now (Am t x.aI)).2==0)=_;rw[hz];rfl
  .unfold pU;rw[e1,aY,hkp];exact⟨rfl,rfl,rfl,rfl,rfl,rfl⟩
 .have e1:(x.aL==1)=false:=by rw[k2];rfl
  have hcA:∀k,dw now k=dw s k:=λk=>by unfold dw;rw[h.cl]
  have QW:=hu;unfold rU at QW;simp only[dQ,ow,Cn]at QW;have hP:=abE hc hI (hrs.ni hc) (aO s x.aI) (jw (xs:=s.aH) (i:=x.aI.toNat) ah);have QV:TS c (aO now x.aI):=JN.t _ (jw (xs:=now.aH) (i:=x.aI.toNat) ah);have hep:=QV.ep;have heb:=hrn.ei hc (aO now x.aI) (jw (xs:=now.aH) (i:=x.aI.toNat) ah);have hvr:0<=(dw s x.aJ).fZ/\(dw s x.aJ).fZ<(c.fG.length:Int):=(hv.oK _ (jw (xs:=s.aK) (i:=x.aJ.toNat) (by have:=hv.cl;omega))).run;have Hr:gE c now x.aI t={aL:=2,aZ:=t,aI:=x.aI,aJ:=x.aJ,dh:=(-1),bP:=(aO now x.aI).bP+1,From:=t,bY:=t+c.iQ,N:=(dw s x.aJ).fZ:aP}:=by unfold gE;rw[hcA,hkp,h2]
  have hnh:x.aJ≠(aO now x.aI).bL:=by rw[hkp];intro q;exact hP.hs ah (by rw[h2];exact q.symm)
  generalize he:gE c now x.aI t=e at*;have f1:e.aL=2:=by rw[Hr]
  have f2:e.aZ=t:=by rw[Hr]
  have f3:e.aI=x.aI:=by rw[Hr]
  have f4:e.aJ=x.aJ:=by rw[Hr]
  have f5:e.dh= -1:=by rw[Hr]
  have f6:e.bP=(aO now x.aI).bP+1:=by rw[Hr]
  have f7:e.From=t:=by rw[Hr]
  have f8:e.bY=t+c.iQ:=by rw[Hr]
  have f9:e.N=(dw s x.aJ).fZ:=by rw[Hr]
  have hag:wH (aO now x.aI) e={aO now x.aI with dV:={aJ:=e.aJ,bP:=e.bP,sW:=e.N,From:=e.From,bY:=e.bY},bP:=e.bP,bL:=e.aJ,bB:= -1,Next:= -1,dN:= -1,fC:=false}:=by unfold wH;have b1:(e.aJ==(aO now x.aI).bL)=false:=(by rw[f4];simpa using hnh);have b2:(e.aJ==(aO now x.aI).bB)=true:=(by rw[f4,hkp,h2];simp);simp only[b1,b2,aX,aY]
  have hAl:Alike (wH (aO now x.aI) e) (pU (aO s x.aI) x):=by rw[hag];unfold pU;rw[e1,aX];exact⟨by rw[hkp],a3.2.symm,f4,rfl,rfl,rfl⟩
  have hfit:pQ c (gX (bump now e) e.aI (wH (aO now e.aI) e))=[]:=by
   have hcp:=hcap (n+1) ah;rw[p2]at hcp;rw[f3];refine aHo (ts:=nS (fq c s s.aH (st.take n)) x) ?_ (λi hi=> ?_) hcp
   .show(now.aH.set _ _).length=_;rw[oQ,abJ];omega
   .rw[abJ]at hi;by_cases q:x.aI.toNat=i
    .subst q;rw[an2,UY hi,hun];exact hAl
    .rw[an3 q,Ja q];exact h.al i ah
  have hz:=aGn (s:=now) (e:=e) hc f1 (by unfold d9;rw[f3];omega) (by unfold fI;rw[f4];omega) f5 (by rw[f6];omega) (by rw[f7,f8];omega) (by unfold iq;rw[f9];exact hvr) (by rw[f2];omega) ah (by rw[f3,hkp];exact a3.1) (by rw[f3,f4,hkp,h2]) (by rw[f3,f4];exact hnh) (by rw[f4,hcA];exact QW.1.2.1) (by rw[f3];exact f6) (by rw[f4,hcA];exact f9) (by rw[f4,hcA];exact QW.1.2.2) (by rw[f2,f7];omega) (by rw[f2,f7];omega) (by rw[f7,f8];omega) (by rw[f7,f8];omega) (by rw[f2,f3,hkp];exact hwx) hfit;rw[f3]at hz;refine⟨e,?_,f2,by rw[hz],fin e _ hz f2 hAl⟩;unfold NP;rw[e1,aX,aLX hc hIn,bE];have hent:ace c now x.aI t=(e,0):=by unfold ace;rw[he,hz,hkp,a3.1,h2];rw[dF (show¬x.aI<0 by omega),dF (show¬(c.aH.length:Int)<=x.aI by omega),dF (show¬t<0 by omega),dF (show¬1073741824<t by omega),dF (show¬x.aJ<0 by omega)];rfl
  rw[hent];show some (e,((0:Int)==0)&&(e.aJ==x.aJ))=_;rw[f4];simp
end
section
variable {t ev p3:Int}
section
variable {c:aM} {al:Nat->Bool} {p:bO} {s:aN} {st:List eu}
theorem SX.acA{s2:aN}(h1:s2.aH=s.aH)(h2:s2.aK=s.aK)(h3:s2.aZ<=t):SX c s t s2.eH st 0 s2:=
 ⟨λi _=>by rw[h1];exact⟨rfl,rfl,rfl,rfl,rfl,rfl⟩,λi _ _=>by unfold aO;rw[h1],h2,h3,rfl⟩
theorem aLb{α β:Type} [Inhabited α]{xs:List α}{i:Int}{k:α->Option β}:nR false xs i k=k (xs.getD i.toNat aG):=rfl
def pE(st:List eu):List Int:=(st.filter (λx=>x.aL==1)).map (·.aI)
def ny(st:List eu):List Int:=(st.filter (λx=>x.aL==2)).map (·.aI)
theorem ar0{st:List eu}{k t:Int}(h:t∈(st.filter (λx=>x.aL==k)).map (·.aI)):∃a,a<st.length/\(st.getD a aG).aL=k/\(st.getD a aG).aI=t:=by
 obtain⟨x,hx,rfl⟩:=qw.1 h;obtain⟨h1,h2⟩:=Gq.1 hx;obtain⟨a,ha,rfl⟩:=xV h1;have e:st.getD a aG=st[a]:=by simp[fD,ha]
 exact⟨a,ha,by rw[e];simpa using h2,by rw[e]⟩
theorem mem_of{st:List eu}{k:Int}{a:Nat}(ha:a<st.length)(hk:(st.getD a aG).aL=k):(st.getD a aG).aI∈(st.filter (λx=>x.aL==k)).map (·.aI):=
 qw.2 ⟨_,Gq.2 ⟨jw ha,aD hk⟩,rfl⟩
structure ajs(c:aM)(s:aN)(r:Int)(st:List eu)(lf:List Int):Prop where
 wD:lV c s s.aH st
 cap:∀n,n<=st.length->Cw c s (fq c s s.aH (st.take n))
 pr:∀a,a<st.length->(st.getD a aG).aL=1→∃k,PRk c s st a k
 ln:st.length<=40000
 mak:KJ c s r=some ({Region:=r,bH:=st,jv:=lf},0)
 ck:KC c s {Region:=r,bH:=st,jv:=lf}=some ((st.length:Int),0)
theorem asU(hc:VC c)(hrs:RS c s){r:Int}(hr:0<=r/\r<c.gK):∃st lf,ajs c s r st lf:=by
 have hI:=hrs.inv hc;have hN:=hrs.ni hc;have hv:=hI.vs;have hvl:=hv.tl;obtain⟨mv,M⟩:=made hc hv r;have R:=ajc hc hI hN M.run;have A:=aKv hc hI hN M.run;have hml:=aLg hc hv r;have hcl:=OX (s:=s) hc (r:=r);have hpn:(mv++(mkS c s r).2.2).Nodup:=M.perm.nodup_iff.2 (aof hc);have hmem:∀i,i∈mv++(mkS c s r).2.2->(0<=i/\i<(c.aH.length:Int))/\vK c s r i=true:=λi hi=>(ahq hc).1 (M.perm.mem_iff.1 hi);have hkeep:=aJx hc hI hN (r:=r) M.run (Jh.1 hpn).1 (λi hi=>(hmem i (Cj _ hi)).2);have hmk:=aLf hc hv hr;have hsub:(mkS c s r).2.2.Sublist (oZ c s r):=aqK 33 _;have hle:=left_eq hsub (aof hc) M.perm;have hleft:=M.left;generalize hst:(mkS c s r).2.1=st at*;generalize hlf:(mkS c s r).2.2=lf at*;refine⟨st,lf,R.wD,R.cap,R.pr,ah,hmk,?_⟩;have hmv:PU {Region:=r,bH:=st,jv:=lf}=mv:=R.Xd;refine aIV hc hv (e:={Region:=r,bH:=st,jv:=lf}) hr ⟨R.wD,R.cap,λx hx h2=> ?_,λa ha h1=> ?_,by show st.length<=_;omega⟩ (by rw[hmv];exact hle) (λi hi=> ?_)
 .have:x.aI∈PU {Region:=r,bH:=st,jv:=lf}:=qw.2 ⟨x,Gq.2 ⟨hx,aD h2⟩,rfl⟩;rw[hmv]at this;exact M.perm.mem_iff.1 (Cj _ this)
 .obtain⟨k,P⟩:=R.pr a ha h1;refine aJj hc hv (abE hc hI hN) (by show st.length<=_;omega) R.wD P (λj hj hjk=> ?_);have:∀d,a+d<=k->(st.getD (a+d) aG).aJ=(st.getD a aG).aJ:=λd=>by induction d with
   |zero=>intro _;rfl
   |succ d ih=>intro hd;have:=P.lt;have:=A.1 (a+d) ah (P.sh (a+d) ah ah);rw[show a+(d+1)=a+d+1 by omega,this];exact ih ah
  have:=this (j-a) ah;rw[show a+(j-a)=j by omega]at this;exact this
 .have hi:i∈lf:=hi;obtain⟨hir,hcb⟩:=hmem i (Vn _ hi);have hnm:i ∉ mv:=λq=>(Jh.1 hpn).2.2 i q i hi rfl;have hti:=hkeep i.toNat ah (by rw[show((i.toNat:Nat):Int)=i by omega];exact hcb) (by rw[show((i.toNat:Nat):Int)=i by omega];exact hnm);have hen:fq c s s.aH st=(mkS c s r).1:=R.en;exact aK3 hc hI (by show st.length<=_;omega) R.wD (by show kS c s (fq c s s.aH st) i=[];rw[hen];exact hleft i hi) (by show(fq c s s.aH st).getD i.toNat aG=_;rw[hen];exact hti)
theorem arD(ht:lV c s s.aH st)(hd:wo st){now:aN}(h:SX c s t ev st st.length now){k:Nat}(hk:k<st.length):Alike (aO now (st.getD k aG).aI) (pU (aO s (st.getD k aG).aI) (st.getD k aG)):=by have a1:=(GI ht hd hk).1;have:=h.al (st.getD k aG).aI.toNat ah;rw[ajM ht hd st.length hk (gy _)]at this;exact this
theorem aKW(ht:lV c s s.aH st)(hd:wo st){now:aN}(h:SX c s t ev st st.length now){k:Nat}(hk:k<st.length)(h1:(st.getD k aG).aL=1):(aO now (st.getD k aG).aI).fC=true/\(aO now (st.getD k aG).aI).bL=(st.getD k aG).aJ:=by
 have A:=arD ht hd h hk;obtain⟨_,_,_,a4⟩:=GI ht hd hk;have e1:((st.getD k aG).aL==1)=true:=by rw[h1];rfl
 unfold pU at A;rw[e1,aY]at A;refine⟨A.sh,?_⟩;rcases a4 with⟨_,q⟩|⟨q,_⟩
 .rw[A.ho];exact q
 .omega
theorem arE(ht:lV c s s.aH st)(hd:wo st){now:aN}(h:SX c s t ev st st.length now){k:Nat}(hk:k<st.length)(h1:(st.getD k aG).aL=2):(aO now (st.getD k aG).aI).fC=false/\(aO now (st.getD k aG).aI).bL=(st.getD k aG).aJ/\(aO s (st.getD k aG).aI).bB=(st.getD k aG).aJ:=by
 have A:=arD ht hd h hk;obtain⟨_,_,a3,a4⟩:=GI ht hd hk;have e1:((st.getD k aG).aL==1)=false:=by rw[h1];rfl
 unfold pU at A;rw[e1,aX]at A;rcases a4 with⟨q,_⟩|⟨_,q,_⟩
 .omega
 .exact⟨by rw[A.sh];exact(Jb.1 a3).2,A.ho,q⟩
theorem aHj(hc:VC c){now:aN}(hn:now.aH.length=c.aH.length){mv:List Int}(hl:mv.length<=100000)(ht:0<=t/\t<((c.aH.length:Nat):Int)){m:Int}(hm:m∈mv)(hmr:0<=m/\m<((c.aH.length:Nat):Int))(hh:(aO now m).bL=(aO now t).bL)(hp:(tn c t).gM<(tn c m).gM):ZI c now mv t=some true:=by
 unfold ZI;apply okT;refine jX (L:=λk (_:Unit) i=>Oe c now mv t k i) (x:=()) mv.length ah (λn _=>m ∉ mv.take n) aj ?_ ?_
 .rintro k n _ hn' hI ih;show Ok (Oe c now mv t (k+1) (n:Int)) _;rw[Oe,eFZ,dJZ,gL,bIZ];generalize hq:mv.getD n aG=q;by_cases hr:0<=q/\q<(c.aH.length:Int)
  .rw[dT hr.1,dT hr.2];simp only[Ad,l6];rw[xQ hr.1 ah,xQ ht.1 ah,xQ hr.1 hr.2,xQ ht.1 ht.2];have eq:now.aH.getD q.toNat aG=aO now q:=rfl;have et:now.aH.getD t.toNat aG=aO now t:=rfl;rw[eq,et];cases hb:(((aO now q).bL==(aO now t).bL)&&decide ((c.aH.getD t.toNat aG).gM<(c.aH.getD q.toNat aG).gM))with
   |true=>exact Ok.some rfl
   |false=>
    rw[aX];refine ih () (λw=> ?_);rw[um hn',oU,oV,hq]at w;rcases w with w|w
    .exact hI w
    .subst w;have hp':(c.aH.getD t.toNat aG).gM<(c.aH.getD m.toNat aG).gM:=hp;rw[hh,dT hp']at hb;simp at hb
  .have e0:(decide (0<=q)&&decide (q<(c.aH.length:Int)))=false:=(by rw[Bool.and_eq_false_iff,zx,zx];omega);rw[e0];simp only[nu,aLb,aX];refine ih () (λw=> ?_);rw[um hn',oU,oV,hq]at w;rcases w with w|w
   .exact hI w
   .subst w;exact hr hmr
 .rintro k _ hI;rw[sF]at hI;exact absurd hm hI
theorem aJA{now:aN}(hv:VS c s)(JN:VS c now)(ht:lV c s s.aH st)(hd:wo st)(hl:st.length<=40000)(h:SX c s t ev st st.length now):Ok (DI s (ny st) now fuel 0) (λb=>b=true):=by
 have e1:=hv.tl;have e2:=JN.tl;have hml:(ny st).length<=40000:=by unfold ny;rw[kQ];exact vv (zY _ _) hl
 refine jX (L:=λk (_:Unit) i=>DI s (ny st) now k i) (x:=()) (ny st).length ah (λ_ _=>True) trivial ?_ ?_
 .rintro k n _ hn _ ih;show Ok (DI s (ny st) now (k+1) (n:Int)) _;obtain⟨a,ha,k2,et⟩:=ar0 (st:=st) (k:=2) (jw (xs:=ny st) hn);obtain⟨m1,m2,m3⟩:=arE ht hd h ha k2;have hr:=(GI ht hd ha).1;rw[et]at m1 m2 m3 hr;generalize hq:(ny st).getD n aG=q at*;have eq:now.aH.getD q.toNat aG=aO now q:=rfl;have es:s.aH.getD q.toNat aG=aO s q:=rfl;rw[DI,eFZ,dJZ,gL,hq,dF (show¬q<0 by omega),dF (show¬(now.aH.length:Int)<=q by omega),xQ hr.1 ah,xQ hr.1 ah,xQ hr.1 ah,bIZ,eq,es,m1,m2,m3];simp only[jT,nO,aX];exact ih () trivial
 .rintro k _ _;show Ok (DI s (ny st) now (k+1) _) _;rw[DI,fAZ];exact Ok.some rfl
theorem aqh{now:aN}(hc:VC c)(hv:VS c s)(JN:VS c now)(ht:lV c s s.aH st)(hd:wo st)(hl:st.length<=40000)(hpr:∀a,a<st.length->(st.getD a aG).aL=1→∃k,PRk c s st a k)(h:SX c s t ev st st.length now):Ok (BX c s (ny st) (pE st) now fuel 0) (λb=>b=true):=by
 have e1:=hv.tl;have e2:=JN.tl;have hml:(ny st).length<=40000:=by unfold ny;rw[kQ];exact vv (zY _ _) hl
 have hsl:(pE st).length<=40000:=by unfold pE;rw[kQ];exact vv (zY _ _) hl
 refine jX (L:=λk (_:Unit) i=>BX c s (ny st) (pE st) now k i) (x:=()) (pE st).length ah (λ_ _=>True) trivial ?_ ?_
 .rintro k n _ hn _ ih;show Ok (BX c s (ny st) (pE st) now (k+1) (n:Int)) _;obtain⟨a,ha,k1,et⟩:=ar0 (st:=st) (k:=1) (jw (xs:=pE st) hn);obtain⟨m1,m2⟩:=aKW ht hd h ha k1;have hr:=(GI ht hd ha).1;obtain⟨b,P⟩:=hpr a ha k1;have hb2:(st.getD b aG).aL=2:=by
   rcases(GI ht hd P.lt.2).2.2.2 with⟨q,_⟩|⟨q,_⟩
   .exact absurd q P.mv
   .exact q
  obtain⟨_,n2,_⟩:=arE ht hd h P.lt.2 hb2;have hf:=aHj hc (now:=now) e2 (mv:=ny st) ah (t:=(st.getD a aG).aI) P.t1 (mem_of P.lt.2 hb2) P.t2 (by rw[n2,m2,P.cell]) P.pr;rw[et]at m1 m2 hr hf;generalize hq:(pE st).getD n aG=q at*;have eq:now.aH.getD q.toNat aG=aO now q:=rfl;rw[BX,eFZ,dJZ,gL,hq,dF (show¬q<0 by omega),dF (show¬(now.aH.length:Int)<=q by omega),xQ hr.1 ah,bIZ,eq,m1];simp only[gI,nO,jQ,aY,hf,bE,aX];exact ih () trivial
 .rintro k _ _;show Ok (BX c s (ny st) (pE st) now (k+1) _) _;rw[BX,fAZ];exact aJA hv JN ht hd hl h
theorem aqg{rc:Int->Option Bool}{mv sh:List Int}(hm:mv.length<=100000){i:Nat}(hi:i<sh.length)(hs:sh.length<=100000)(hr:sh.getD i aG ∉ mv->Ok (rc ((i:Int)+1)) (λb=>b=true)):Ok (BU rc mv sh (i:Int) fuel 0) (λb=>b=true):=by
 refine jX (L:=λk (_:Unit) j=>BU rc mv sh (i:Int) k j) (x:=()) mv.length ah (λn _=>sh.getD i aG ∉ mv.take n) aj ?_ ?_
 .rintro k n _ hn hI ih;show Ok (BU rc mv sh (i:Int) (k+1) (n:Int)) _;rw[BU,eFZ,dJZ,dJZ,gL,gL,bIZ];cases hb:(sh.getD i aG==mv.getD n aG)with
  |true=>exact Ok.some rfl
  |false=>
   rw[aX];refine ih () (λw=> ?_);rw[um hn,oU,oV]at w;rcases w with w|w
   .exact hI w
   .rw[w]at hb;simp at hb
 .rintro k _ hI;show Ok (BU rc mv sh (i:Int) (k+1) _) _;rw[sF]at hI;rw[BU,fAZ,bIZ];exact hr hI
theorem ajw(hc:VC c)(hrs:RS c s)(ht:lV c s s.aH st)(hcap:∀n,n<=st.length->Cw c s (fq c s s.aH (st.take n)))(hd:wo st){r t ev:Int}(htb:s.aZ<=t/\t<=s.aZ+2000)(hw:∀i,i<s.aH.length->(s.aH.getD i aG).dV.bY<=t)(hr:0<=r/\r<c.gK)(hev:hasB ev r=true){e:fH}(he:e.bH=st/\e.Region=r):
  ∀(f k n:Nat) (q:bO) (out:List aP) (now:aN) (acc:List aP),k=st.length-n->k<f->n<=st.length->acc.length<=n+1->K1 c al q out now->SX c s t ev st n now->RL c now out (60+n)->s.aZ<=now.aZ→
   Ok (NW c e t f acc q) (λo=>o.2.1=34∧∃out' now',K1 c al o.2.2 out' now'/\SX c s t ev st st.length now'/\RL c now' out' 100)
 |0,_,_,_,_,_,_,_,h,_,_,_,_,_,_=>absurd h (kJ _)
 |f +1,k,n,q,out,now,acc,hk,hf,hn,ha,h1,h2,h3,htn=>by
  have hv:=(hrs.inv hc).vs;have hln:=aaO hc hv ht hd;have hrn:RS c now:=⟨out,h3.up ah⟩;have hI:=h3.inv hc;have hts:=hrs.bS;have hs0:=hv.bS;have Wx:=hv.tl;have aMI:=hI.vs.tl;have hleft:=h2.akk hc hrs ht hd hn ah st.length (gy _);have Ww:hasB now.eH e.Region=true:=by rw[h2.evc,he.2];exact hev
  rw[NW,K1.state hc hI.vs h1,bE];by_cases hd2:n<st.length
  .obtain⟨y,s1,s2,s3,s4⟩:=h2.aqS hc hrs ht hcap hd ⟨ah,ah⟩ hw hrn hd2;have hidx:yU now e.bH e.bH.length=(n:Int)::((List.range' (n+1) (st.length-(n+1))).map Int.ofNat):=(by rw[he.1,hleft];have e1:(List.range st.length).filter (λj=>decide (n<=j))=List.range' n (st.length-n):=(by have e2:List.range st.length=List.range n++List.range' n (st.length-n):=(by have:=arp (s:=0) (m:=n) (n:=st.length-n);rw[nM,show n+(st.length-n)=st.length by omega]at this;rw[abb,abb];exact this.symm);rw[e2,Ci,Px.2 (λx hx=>by have:=zZ.1 hx;simp;omega),zq,aa2.2 (λx hx=>by rw[List.mem_range'_1]at hx;simp;omega)]);rw[e1,show st.length-n=(st.length-(n+1))+1 by omega,List.range'_succ];rfl);rw[aos hc hI (by rw[he.1];omega) ⟨ah,ah⟩ (by rw[he.2];exact hr) Ww (by rw[he.1];exact hd2) hidx (by rw[he.1];exact s1),bE];simp only[jT,aX];have hol:=h3.len;refine Ok.bind (K1.prop hc hI h1 s3 ah) λo ho=> ?_;obtain⟨b1,b2⟩:=ho;rw[b1,b2.norm];simp only[jT,aX];rw[gU (dT (rm ay))];have R2:=h3.snoc (e:=y) hc s3 ah;exact ajw hc hrs ht hcap hd htb hw hr hev he f (k-1) (n+1) _ _ _ _ ah ah ah ay b2 s4 (R2.up ah) (by rw[(UC hc s3).1];omega)
  .have hnn:n=st.length:=ah;subst hnn
   rw[apc hc hI (by rw[he.1];omega) ⟨ah,ah⟩ (by rw[he.2];exact hr) Ww (by
    rw[he.1,hleft,Px.2 (λx hx=>by have:=zZ.1 hx;simp;omega)];rfl),bE]
   exact Ok.some ⟨rfl,out,now,h1,h2,h3.up ah⟩
theorem aMf(hc:VC c){r:Int}(hr:0<=r/\r<c.gK){out:List aP}(h:K1 c al p out s)(R:RL c s out 56){lf:List Int}(ht:lV c s s.aH st)(hcap:∀n,n<=st.length->Cw c s (fq c s s.aH (st.take n)))(hd:wo st):
  Ok (Zi p c {Region:=r,bH:=st,jv:=lf} (s.aZ+2*c.iQ)) (λo=>o.2.1=34∧∃out' now ev,K1 c al o.2.2 out' now/\SX c s (s.aZ+2*c.iQ) ev st st.length now/\RL c now out' 100):=by
 have hrs:RS c s:=⟨out,R.up ah⟩;have hI:=hrs.inv hc;have hv:=hI.vs;have htb:=hrs.bS;have htk:=hv.bS;have hls:=hc.yt;have ql:=hc.reg;have hln:=aaO hc hv ht hd;have hct:=hv.cnt;have hcn:=hrs.cnt;have hw:∀i,i<s.aH.length->(s.aH.getD i aG).dV.bY<=s.aZ+2*c.iQ:=λi hi=>(hI.t i hi).wl;generalize htt:s.aZ+2*c.iQ=t at*;unfold Zi;rw[h.norm];obtain⟨f,hf⟩:∃f,fuel=f+1:=⟨18446744073709551615,by rw[iP]⟩;have hf2:f=18446744073709551615:=by have:=iP;omega
 cases hev:hasB s.eH r with
 |true=>refine(ajw hc hrs ht hcap hd (ev:=s.eH) (e:={Region:=r,bH:=st,jv:=lf}) ⟨ah,ah⟩ hw hr hev ⟨rfl,rfl⟩ fuel st.length 0 p out s [] ah ah (zu _) aj h (SX.acA rfl rfl ah) (R.up ah) (jh _)).mono λo ho=> ?_;obtain⟨d1,o',n',d2,d3,d4⟩:=ho;exact⟨d1,o',n',_,d2,d3,d4⟩
 |false=>
  have hap:=apy (s:=s) (bS:=t) hc hr ⟨ah,ah,ah⟩ ah hev;have hz:(iB c s (tZ t r)).2=0:=by rw[hap]
  have R2:=R.snoc (e:=tZ t r) hc hz (by show t<=s.aZ+20000;omega);rw[hf,NW,K1.state hc hv h,bE,apb (e:={Region:=r,bH:=st,jv:=lf}) hc hI ⟨ah,ah⟩ hr hev,bE];simp only[jT,aX];have hol:=R.len;refine Ok.bind (K1.prop (e:=tZ t r) hc hI h hz ah) λo ho=> ?_;obtain⟨b1,b2⟩:=ho;rw[b1,b2.norm];simp only[jT,aX];rw[gU (dT (rm aj))];generalize hs2:(iB c s (tZ t r)).1=s2 at b2 R2;have GR:s2={bump s (tZ t r)with eH:=wm .i64 s.eH (iL .i64 1 (IntKind.u64.wrap r))}:=by rw[<-hs2,hap]
  have t2:s2.aH=s.aH:=by rw[GR];rfl
  have c2:s2.aK=s.aK:=by rw[GR];rfl
  have k2:s2.aZ=t:=by rw[GR];rfl
  have v2:hasB s2.eH r=true:=by rw[GR];have:=ari (r:=r) (q:=r) hv.mM ⟨hr.1,ah⟩ ⟨hr.1,ah⟩;rw[bW rfl,hev]at this;exact this
  refine(ajw hc hrs ht hcap hd (ev:=s2.eH) (e:={Region:=r,bH:=st,jv:=lf}) ⟨ah,ah⟩ hw hr v2 ⟨rfl,rfl⟩ f st.length 0 _ (out++ [tZ t r]) s2 _ ah ah (zu _) aj b2 (SX.acA t2 c2 ah) (R2.up ah) ah).mono λo ho=> ?_;obtain⟨d1,o',n',d2,d3,d4⟩:=ho;exact⟨d1,o',n',_,d2,d3,d4⟩
theorem aMh(hc:VC c){r:Int}(hr:0<=r/\r<c.gK){out:List aP}(h:K1 c al p out s)(R:RL c s out 56){lf:List Int}(P:ajs c s r st lf)(hd:wo st):Ok (YI c s (ny st) (pE st) {Region:=r,bH:=st,jv:=lf} p) (λb=>b=true):=by
 have hrs:RS c s:=⟨out,R.up ah⟩;have hv:=(hrs.inv hc).vs;have htb:=hrs.bS;have htk:=hv.bS;have hls:=hc.yt;unfold YI;rw[bI (x:=2*c.iQ) ah ah,bIZ];refine Ok.bind (aMf hc hr h R P.wD P.cap hd) λo ho=> ?_;obtain⟨d1,out',now,ev,d2,d3,d4⟩:=ho;have hIn:=d4.inv hc;have e1:=hv.tl;have e2:=hIn.vs.tl;rw[d1,d2.norm,K1.state hc hIn.vs d2,bE];have e3:((now.aH.length:Int) !=(s.aH.length:Int))=false:=by rw[e1,e2];simp
 simp only[e3,jT,nO,jQ,aY,apx hc hIn,bE,gI,aX];exact aqh hc hv hIn.vs P.wD hd P.ln P.pr d3
theorem aLB{p1 p2:List Int}(h1:JK p1)(h2:JK p2)(h3:Hf p3)(hcf:KV p1=some c)(hc:VC c)(hN:c.cZ.length=1):Ca p1 p2 p3=some true:=by
 apply okT;unfold Ca DN;rw[TG];have l1:=h1.2;have l2:=h2.2;simp only[bE,gI,jQ,aY,aX,kW,qc];rw[dT (show(p1.length:Int)<=200 by omega),dT (show(p2.length:Int)<=200 by omega)];simp only[bE,gI,jQ,aY,aX,kW,nO];rw[hcf,bE];have ql:=hc.reg;refine Ok.bind (aK5 hc hN h2) λp hp=> ?_;obtain⟨out,s0,hK,R⟩:=hp;refine Ok.bind (VF h3 ql.1) λr hr=> ?_;have hck:decide ((0:Int)<=IntKind.u64.wrap r)=true:=dT (xZ r).1;rw[gU hck,aaw hc hr,bE,hK.norm];by_cases hM:(c.cZ.length:Int)<2*(lK c r c.cZ.length:Nat)
 .rw[dT hM];simp only[gI,aX];refine Ok.bind (aL7 hc hM hK R) λo ho=> ?_;obtain⟨o1,al',aky,s1,q1,L⟩:=ho;rw[o1,q1.norm];have hrs:RS c s1:=⟨aky,L.rl.up ah⟩;have hv1:=(hrs.inv hc).vs;obtain⟨st,lf,P⟩:=asU hc hrs hr;have hln:=P.ln;have hml:(ny st).length<=40000:=by unfold ny;rw[kQ];exact vv (zY _ _) hln
  have hsl:(pE st).length<=40000:=by unfold pE;rw[kQ];exact vv (zY _ _) hln
  unfold Tg;rw[gI,aX,K1.state hc hv1 q1,bE,P.mak,bE];simp only[jT,aX];rw[P.ck,bE];simp only[jT,aX];rw[aik (e:={Region:=r,bH:=st,jv:=lf}) hln,bE,aq5 (e:={Region:=r,bH:=st,jv:=lf}) hln,bE];show Ok (FV c s1 (ny st) (pE st) {Region:=r,bH:=st,jv:=lf} _ fuel 0) _;refine jX (L:=λm (_:Unit) i=>FV c s1 (ny st) (pE st) {Region:=r,bH:=st,jv:=lf} o.2 m i) (x:=()) (pE st).length ah (λn _=>∀x∈(pE st).take n,x ∉ ny st) aj ?_ ?_
  .rintro m n _ hn hI ih;show Ok (FV c s1 (ny st) (pE st) _ o.2 (m+1) (n:Int)) _;rw[FV,eFZ];refine aqg ah hn ah (λhx=>ih () (λx hx2=> ?_));rw[um hn,oU,oV]at hx2;rcases hx2 with w|w
   .exact hI x w
   .rw[w];exact hx
  .rintro m _ hI;show Ok (FV c s1 (ny st) (pE st) _ o.2 (m+1) _) _;rw[sF]at hI;rw[FV,fAZ];exact aMh hc hr q1 L.rl P (arB P.wD (λx hx k1 y hy k2 e=>hI x.aI (qw.2 ⟨x,Gq.2 ⟨hx,aD k1⟩,rfl⟩) (by rw[e];exact qw.2 ⟨y,Gq.2 ⟨hy,aD k2⟩,rfl⟩)))
 .rw[dF hM];simp only[jQ,aY];unfold Tg;rw[aY,gU hck,aaw hc hr,bE,dF hM];exact Ok.some rfl
theorem ajx(hc:VC c)(hrs:RS c s)(ht:lV c s s.aH st)(hcap:∀n,n<=st.length->Cw c s (fq c s s.aH (st.take n)))(hd:wo st){r t ev:Int}(htb:s.aZ<=t/\t<=s.aZ+2000)(hw:∀i,i<s.aH.length->(s.aH.getD i aG).dV.bY<=t)(hr:0<=r/\r<c.gK)(hev:hasB ev r=true){e:fH}(he:e.bH=st/\e.Region=r):
  ∀(f k n:Nat) (q:bO) (out:List aP) (now:aN) (acc:List aP),k=st.length-n->k<f->n<=st.length->acc.length<=n+1->K3 c al q out now->SX c s t ev st n now->RL c now out (60+n)->s.aZ<=now.aZ→
   Ok (NH c e t f acc q) (λo=>o.2.1=34∧∃out' now',K3 c al o.2.2 out' now'/\SX c s t ev st st.length now'/\RL c now' out' 100)
 |0,_,_,_,_,_,_,_,h,_,_,_,_,_,_=>absurd h (kJ _)
 |f +1,k,n,q,out,now,acc,hk,hf,hn,ha,h1,h2,h3,htn=>by
  have hv:=(hrs.inv hc).vs;have hln:=aaO hc hv ht hd;have hrn:RS c now:=⟨out,h3.up ah⟩;have hI:=h3.inv hc;have hts:=hrs.bS;have hs0:=hv.bS;have Wx:=hv.tl;have aMI:=hI.vs.tl;have hleft:=h2.akk hc hrs ht hd hn ah st.length (gy _);have Ww:hasB now.eH e.Region=true:=by rw[h2.evc,he.2];exact hev
  rw[NH,K3.state hc hI.vs h1,bE];by_cases hd2:n<st.length
  .obtain⟨y,s1,s2,s3,s4⟩:=h2.aqS hc hrs ht hcap hd ⟨ah,ah⟩ hw hrn hd2;have hidx:yU now e.bH e.bH.length=(n:Int)::((List.range' (n+1) (st.length-(n+1))).map Int.ofNat):=(by rw[he.1,hleft];have e1:(List.range st.length).filter (λj=>decide (n<=j))=List.range' n (st.length-n):=(by have e2:List.range st.length=List.range n++List.range' n (st.length-n):=(by have:=arp (s:=0) (m:=n) (n:=st.length-n);rw[nM,show n+(st.length-n)=st.length by omega]at this;rw[abb,abb];exact this.symm);rw[e2,Ci,Px.2 (λx hx=>by have:=zZ.1 hx;simp;omega),zq,aa2.2 (λx hx=>by rw[List.mem_range'_1]at hx;simp;omega)]);rw[e1,show st.length-n=(st.length-(n+1))+1 by omega,List.range'_succ];rfl);rw[aos hc hI (by rw[he.1];omega) ⟨ah,ah⟩ (by rw[he.2];exact hr) Ww (by rw[he.1];exact hd2) hidx (by rw[he.1];exact s1),bE];simp only[jT,aX];have hol:=h3.len;refine Ok.bind (K3.prop hc hI h1 s3 ah) λo ho=> ?_;obtain⟨b1,b2⟩:=ho;rw[b1,b2.norm];simp only[jT,aX];rw[gU (dT (rm ay))];have R2:=h3.snoc (e:=y) hc s3 ah;exact ajx hc hrs ht hcap hd htb hw hr hev he f (k-1) (n+1) _ _ _ _ ah ah ah ay b2 s4 (R2.up ah) (by rw[(UC hc s3).1];omega)
  .have hnn:n=st.length:=ah;subst hnn
   rw[apc hc hI (by rw[he.1];omega) ⟨ah,ah⟩ (by rw[he.2];exact hr) Ww (by
    rw[he.1,hleft,Px.2 (λx hx=>by have:=zZ.1 hx;simp;omega)];rfl),bE]
   exact Ok.some ⟨rfl,out,now,h1,h2,h3.up ah⟩
theorem aMg(hc:VC c){r:Int}(hr:0<=r/\r<c.gK){out:List aP}(h:K3 c al p out s)(R:RL c s out 56){lf:List Int}(ht:lV c s s.aH st)(hcap:∀n,n<=st.length->Cw c s (fq c s s.aH (st.take n)))(hd:wo st):
  Ok (YM p c {Region:=r,bH:=st,jv:=lf} (s.aZ+2*c.iQ)) (λo=>o.2.1=34∧∃out' now ev,K3 c al o.2.2 out' now/\SX c s (s.aZ+2*c.iQ) ev st st.length now/\RL c now out' 100):=by
 have hrs:RS c s:=⟨out,R.up ah⟩;have hI:=hrs.inv hc;have hv:=hI.vs;have htb:=hrs.bS;have htk:=hv.bS;have hls:=hc.yt;have ql:=hc.reg;have hln:=aaO hc hv ht hd;have hct:=hv.cnt;have hcn:=hrs.cnt;have hw:∀i,i<s.aH.length->(s.aH.getD i aG).dV.bY<=s.aZ+2*c.iQ:=λi hi=>(hI.t i hi).wl;generalize htt:s.aZ+2*c.iQ=t at*;unfold YM;rw[h.norm];obtain⟨f,hf⟩:∃f,fuel=f+1:=⟨18446744073709551615,by rw[iP]⟩;have hf2:f=18446744073709551615:=by have:=iP;omega
 cases hev:hasB s.eH r with
 |true=>refine(ajx hc hrs ht hcap hd (ev:=s.eH) (e:={Region:=r,bH:=st,jv:=lf}) ⟨ah,ah⟩ hw hr hev ⟨rfl,rfl⟩ fuel st.length 0 p out s [] ah ah (zu _) aj h (SX.acA rfl rfl ah) (R.up ah) (jh _)).mono λo ho=> ?_;obtain⟨d1,o',n',d2,d3,d4⟩:=ho;exact⟨d1,o',n',_,d2,d3,d4⟩
 |false=>
  have hap:=apy (s:=s) (bS:=t) hc hr ⟨ah,ah,ah⟩ ah hev;have hz:(iB c s (tZ t r)).2=0:=by rw[hap]
  have R2:=R.snoc (e:=tZ t r) hc hz (by show t<=s.aZ+20000;omega);rw[hf,NH,K3.state hc hv h,bE,apb (e:={Region:=r,bH:=st,jv:=lf}) hc hI ⟨ah,ah⟩ hr hev,bE];simp only[jT,aX];have hol:=R.len;refine Ok.bind (K3.prop (e:=tZ t r) hc hI h hz ah) λo ho=> ?_;obtain⟨b1,b2⟩:=ho;rw[b1,b2.norm];simp only[jT,aX];rw[gU (dT (rm aj))];generalize hs2:(iB c s (tZ t r)).1=s2 at b2 R2;have GR:s2={bump s (tZ t r)with eH:=wm .i64 s.eH (iL .i64 1 (IntKind.u64.wrap r))}:=by rw[<-hs2,hap]
  have t2:s2.aH=s.aH:=by rw[GR];rfl
  have c2:s2.aK=s.aK:=by rw[GR];rfl
  have k2:s2.aZ=t:=by rw[GR];rfl
  have v2:hasB s2.eH r=true:=by rw[GR];have:=ari (r:=r) (q:=r) hv.mM ⟨hr.1,ah⟩ ⟨hr.1,ah⟩;rw[bW rfl,hev]at this;exact this
  refine(ajx hc hrs ht hcap hd (ev:=s2.eH) (e:={Region:=r,bH:=st,jv:=lf}) ⟨ah,ah⟩ hw hr v2 ⟨rfl,rfl⟩ f st.length 0 _ (out++ [tZ t r]) s2 _ ah ah (zu _) aj b2 (SX.acA t2 c2 ah) (R2.up ah) ah).mono λo ho=> ?_;obtain⟨d1,o',n',d2,d3,d4⟩:=ho;exact⟨d1,o',n',_,d2,d3,d4⟩
theorem aMi(hc:VC c){r:Int}(hr:0<=r/\r<c.gK){out:List aP}(h:K3 c al p out s)(R:RL c s out 56){lf:List Int}(P:ajs c s r st lf)(hd:wo st):Ok (Yw c s (ny st) (pE st) {Region:=r,bH:=st,jv:=lf} p) (λb=>b=true):=by
 have hrs:RS c s:=⟨out,R.up ah⟩;have hv:=(hrs.inv hc).vs;have htb:=hrs.bS;have htk:=hv.bS;have hls:=hc.yt;unfold Yw;rw[bI (x:=2*c.iQ) ah ah,bIZ];refine Ok.bind (aMg hc hr h R P.wD P.cap hd) λo ho=> ?_;obtain⟨d1,out',now,ev,d2,d3,d4⟩:=ho;have hIn:=d4.inv hc;have e1:=hv.tl;have e2:=hIn.vs.tl;rw[d1,d2.norm,K3.state hc hIn.vs d2,bE];have e3:((now.aH.length:Int) !=(s.aH.length:Int))=false:=by rw[e1,e2];simp
 simp only[e3,jT,nO,jQ,aY,apx hc hIn,bE,gI,aX];exact aqh hc hv hIn.vs P.wD hd P.ln P.pr d3
theorem aLC{p1 p2:List Int}(h1:JK p1)(h2:JK p2)(h3:Hf p3)(hcf:KV p1=some c)(hc:VC c)(hN:c.cZ.length=3):TF p1 p2 p3=some true:=by
 apply okT;unfold TF DN;rw[TG];have l1:=h1.2;have l2:=h2.2;simp only[bE,gI,jQ,aY,aX,kW,qc];rw[dT (show(p1.length:Int)<=200 by omega),dT (show(p2.length:Int)<=200 by omega)];simp only[bE,gI,jQ,aY,aX,kW,nO];rw[hcf,bE];have ql:=hc.reg;refine Ok.bind (aK6 hc hN h2) λp hp=> ?_;obtain⟨out,s0,hK,R⟩:=hp;refine Ok.bind (VF h3 ql.1) λr hr=> ?_;have hck:decide ((0:Int)<=IntKind.u64.wrap r)=true:=dT (xZ r).1;rw[gU hck,aaw hc hr,bE,hK.norm];by_cases hM:(c.cZ.length:Int)<2*(lK c r c.cZ.length:Nat)
 .rw[dT hM];simp only[gI,aX];refine Ok.bind (aL8 hc hM hK R) λo ho=> ?_;obtain⟨o1,al',aky,s1,q1,L⟩:=ho;rw[o1,q1.norm];have hrs:RS c s1:=⟨aky,L.rl.up ah⟩;have hv1:=(hrs.inv hc).vs;obtain⟨st,lf,P⟩:=asU hc hrs hr;have hln:=P.ln;have hml:(ny st).length<=40000:=by unfold ny;rw[kQ];exact vv (zY _ _) hln
  have hsl:(pE st).length<=40000:=by unfold pE;rw[kQ];exact vv (zY _ _) hln
  unfold SA;rw[gI,aX,K3.state hc hv1 q1,bE,P.mak,bE];simp only[jT,aX];rw[P.ck,bE];simp only[jT,aX];rw[aik (e:={Region:=r,bH:=st,jv:=lf}) hln,bE,aq5 (e:={Region:=r,bH:=st,jv:=lf}) hln,bE];show Ok (FP c s1 (ny st) (pE st) {Region:=r,bH:=st,jv:=lf} _ fuel 0) _;refine jX (L:=λm (_:Unit) i=>FP c s1 (ny st) (pE st) {Region:=r,bH:=st,jv:=lf} o.2 m i) (x:=()) (pE st).length ah (λn _=>∀x∈(pE st).take n,x ∉ ny st) aj ?_ ?_
  .rintro m n _ hn hI ih;show Ok (FP c s1 (ny st) (pE st) _ o.2 (m+1) (n:Int)) _;rw[FP,eFZ];refine aqg ah hn ah (λhx=>ih () (λx hx2=> ?_));rw[um hn,oU,oV]at hx2;rcases hx2 with w|w
   .exact hI x w
   .rw[w];exact hx
  .rintro m _ hI;show Ok (FP c s1 (ny st) (pE st) _ o.2 (m+1) _) _;rw[sF]at hI;rw[FP,fAZ];exact aMi hc hr q1 L.rl P (arB P.wD (λx hx k1 y hy k2 e=>hI x.aI (qw.2 ⟨x,Gq.2 ⟨hx,aD k1⟩,rfl⟩) (by rw[e];exact qw.2 ⟨y,Gq.2 ⟨hy,aD k2⟩,rfl⟩)))
 .rw[dF hM];simp only[jQ,aY];unfold SA;rw[aY,gU hck,aaw hc hr,bE,dF hM];exact Ok.some rfl
end
theorem aIE{c:aM}(hc:VC c)(h3:c.cZ.length=3)(l:List Int)(n:Int):OV c l n=none:=by unfold OV K9;rw[af5 hc,bE,h3];rfl
theorem aEM{p1 p2:List Int}(h1:∀x∈p1,Hf x)(h2:∀x∈p2,Hf x)(h3:Hf p3):((Ca p1 p2 p3).orElse λ_=>TF p1 p2 p3)=some true:=by
 by_cases l1:p1.length<=200
 .by_cases l2:p2.length<=200
  .obtain⟨c,e,hc⟩:=aH7 (l:=p1) ⟨h1,l1⟩;have h4:=hc.rl;have h5:=hc.ro;by_cases q:c.cZ.length=1
   .rw[aLB ⟨h1,l1⟩ ⟨h2,l2⟩ h3 e hc q];rfl
   .have q3:c.cZ.length=3:=ah;have:Ca p1 p2 p3=none:=(by unfold Ca DN;rw[TG];simp only[bE,gI,jQ,aY,aX,kW,qc];rw[dT (show(p1.length:Int)<=200 by omega),dT (show(p2.length:Int)<=200 by omega)];simp only[bE,gI,jQ,aY,aX,kW,nO];rw[e,bE,aIE hc q3];rfl);rw[this,aLC ⟨h1,l1⟩ ⟨h2,l2⟩ h3 e hc q3];rfl
  .have:Ca p1 p2 p3=some true:=(by unfold Ca DN;rw[TG];simp only[bE,gI,jQ,aY,aX,kW,qc];rw[dT (show(p1.length:Int)<=200 by omega),dF (show¬(p2.length:Int)<=200 by omega)];rfl);rw[this];rfl
 .have:Ca p1 p2 p3=some true:=by unfold Ca DN;rw[TG];simp only[bE,gI,jQ,aY,aX,kW,qc];rw[dF (show¬(p1.length:Int)<=200 by omega)];rfl
  rw[this];rfl
end
end Go.CP
namespace Go.AM
open Go Go.RowKit Go.CP
variable [Fuel]
section
variable {ys:List CV}{k:IntKind}{x:Int}{f:FuncId}{args:List SV}
def LA(w:World)(ys:List CV)(cs:List Value):Prop:=
 cs.length=ys.length∧∀(j:Nat) y v,ys[j]? =some y->cs[j]? =some v->lC w (λ_=>False) y v/\v.oneCell'=true
theorem ahk{w:World}:LA w [] []:=⟨rfl,λj y v h=>by simp at h⟩
theorem agU{w:World}{y:CV}{v:Value}{vs:List Value}(h:lC w (λ_=>False) y v)(h1:v.oneCell'=true)(t:LA w ys vs):LA w (y::ys) (v::vs):=by refine⟨by simp[t.1],λj y' v' e1 e2=> ?_⟩;cases j with|zero=>simp at e1 e2;subst e1;subst e2;exact⟨h,h1⟩|succ j=>simp at e1 e2;exact t.2 j y' v' e1 e2
theorem aIF{w:World}{vs:List Value}(t:LA w ys vs):LA w (.val (.int k x)::ys) (.int k x::vs):=agU (.val _) rfl t
section
variable {H:Type} {LW:TypeId×Value->H} {P:Program} {w:World} {base:Nat} {spare:Nat->Bool} {held:Bool}
def Opn{α:Type}(LW:TypeId×Value->H)(P:Program)(w:World)(base:Nat)(spare:Nat->Bool)(held:Bool)(t:TypeId)(enc:α->List CV)(Inv:α->Prop):Prop:=
 ∀n cs x,DataW.trod LW P w base spare held n t cs=some x→∃a,Inv a/\LA w (enc a) cs
theorem aqV{t:TypeId}(ht:P.underlying t=some (.int k)):Opn LW P w base spare held t (abS k) (λn=>(Lit.int k n).wf=true):=by intro n cs x h;obtain⟨m,rfl,_,hw⟩:=DataW.trod_int ht h;exact⟨m,hw,aIF ahk⟩
theorem aph{t e:TypeId}{z:Nat}{τ:Ty}{Inv:den τ->Prop}(ht:P.underlying t=some (.slice e))(hc:P.cellsOf e=z)(hz0:0<z)(hw:wd τ=z)
  (he:Opn LW P w base spare held e (w9 τ) Inv):Opn LW P w base spare held t (λxs:List (den τ)=> [CV.ls τ xs]) (λxs=>∀x∈xs,Inv x):=by
 have hz:∀a:den τ,(w9 τ a).length=z:=λa=>by rw[aI3,hw]
 intro n cs x h;rcases Deep.open_slice ht h with⟨rfl,_⟩|⟨a,len,cap,m,n,D,Pl,rfl,hb,hl,hm,hmm,_,hx⟩
 .exact⟨[],aj,agU (.ls _ _ _ (.qm _ _ _ _)) rfl ahk⟩
 have hlm:len<=m:=by rw[hmm];split<;>omega
 have each:∀i,i<len→∃q:den τ×List Value,Inv q.1/\LA w (w9 τ q.1) q.2/\q.2.length=z∧∀j,j<z->w.cell? ((a.add (i*z)).add j)=q.2[j]? :=by intro i hi;obtain⟨cs',h1,h2⟩:=hx i ah;rw[hc]at h1;obtain⟨_,hlen,hcell⟩:=World.cells?_some h1;obtain⟨y,hy,hs⟩:=he _ _ _ h2;exact⟨(y,cs'),hy,hs,hlen,hcell⟩
 obtain⟨q,hq⟩:=Deep.choose_lt each;refine⟨(List.range len).map (λi=>(q i).1),?_,agU (.ls _ _ _ ?_) rfl ahk⟩
 .intro y hy;obtain⟨i,hi,rfl⟩:=qw.1 hy;exact(hq i (zZ.1 hi)).1
 .rw[hw];have hln:((List.range len).map (λi=>(q i).1)).length=len:=aj
  have hg:∀i,i<len->((List.range len).map (λi=>(q i).1)).getD i aG=(q i).1:=by intro i hi;simp[fD,hi]
  rcases Nat.eq_zero_or_pos len with h0|h0
  .subst h0;exact .qm _ _ _ _
  rw[hln];obtain⟨b,off,spot⟩:=a;have hsome:∀i j,i<len->j<z->(q i).2[j]? =some ((q i).2.getD j undef):=by intro i j hi hj;have:j<(q i).2.length:=(by rw[(hq i hi).2.2.1];exact hj);simp[fD,this]
  have hsp:spot=none/\b<w.heap.size:=by
   have h1:=(hq 0 h0).2.2.2 0 hz0;rw[hsome 0 0 h0 hz0,abj]at h1;have ez:∀x:Addr,x.add 0=x:=λx=>rfl;rw[ez,ez]at h1;unfold World.cell? at h1;split at h1
   .rename_i heq;refine⟨?_,?_⟩
    .rcases spot with _|s;rfl;simp at h1
    .rw[ajj]at heq;exact heq.1
   .cases h1
  obtain⟨rfl,hbs⟩:=hsp;have c0:∀i j,i<len->j<z->w.cell? ⟨b,off+(i*z+j),none⟩=(q i).2[j]? :=by intro i j hi hj;have:=(hq i hi).2.2.2 j hj;rw[WideShapes.add_plain,WideShapes.add_plain,wN]at this;exact this
  have dm:∀j,j<len*z->j / z<len/\j%z<z/\j / z*z+j%z=j:=by intro j hj;refine⟨(Nat.div_lt_iff_lt_mul hz0).2 hj,uw _ hz0,?_⟩;rw[Ec];exact Nat.div_add_mod j z
  refine .rd z len _ b off cap (λj=>(q (j / z)).2.getD (j%z) undef) (λh=>h) hbs hl ?_ ?_ ?_ ?_
  .intro i hi;exact hz _
  .intro j hj;obtain⟨h1,h2,h3⟩:=dm j hj;have:=c0 (j / z) (j%z) h1 h2;rw[h3,hsome _ _ h1 h2]at this;exact this
  .intro j hj;obtain⟨h1,h2,h3⟩:=dm j hj;have hs:=(hq (j / z) h1).2.1;have hlt:j%z<(w9 τ (q (j / z)).1).length:=(by rw[hz];exact h2);exact(hs.2 (j%z) ((w9 τ (q (j / z)).1)[j%z]) _ (jR hlt) (hsome _ _ h1 h2)).2
  .intro i j y hi hy;unfold fE at hy;rw[hg i hi]at hy;have hj:j<z:=(by rw[<-hz (q i).1];exact(aiE.1 hy).1);have e1:(i*z+j) / z=i:=(by rw[Ec,Nat.mul_add_div hz0,Nat.div_eq_of_lt hj,vk]);have e2:(i*z+j)%z=j:=(by rw[Ec,abh,PG hj]);simp only[e1,e2];exact((hq i hi).2.1.2 j y _ hy (hsome i j hi hj)).1
theorem aqU{t:TypeId}{τ:Ty}{Inv:List (den τ)->Prop}{a:Option Addr}{len cap:Nat}{d:DataW H}{ps:List MemPlace}
  (he:Opn LW P w base spare held t (λxs:List (den τ)=> [CV.ls τ xs]) Inv) (h:DataW.Trod LW P w base spare held t (.slice a len cap) d ps):∃xs:List (den τ),Inv xs/\eZ w (λ_=>none) (λ_=>False) (.one (.s (.c (.ls τ xs)))) (.slice a len cap):=by
 obtain⟨n,hn⟩:=h;obtain⟨xs,hi,hs⟩:=he _ _ _ hn;refine⟨xs,hi,?_⟩;exact .c (hs.2 0 _ (.slice a len cap) rfl rfl).1
theorem wf_i64(h:(Lit.int .i64 x).wf=true): -9223372036854775808<=x/\x<9223372036854775808:=by
 simp only[Lit.wf,ow,dQ]at h;have e1:IntKind.i64.min= -9223372036854775808:=ak
 have e2:IntKind.i64.max=9223372036854775807:=ak
 omega
theorem aKg:MX (λ_=>False) (λ_=>none) []=λ_=>False:=by
 funext b;simp only[MX,iO];apply propext;constructor
 .rintro(h|⟨k,o,l,hk,_⟩)
  .exact h
  .simp at hk
 .exact λh=>h.elim
theorem qx.law{P:Program}{v:Value}(hA:qx P f args [] (λr' h'=>r'=fP v/\h'=[])){w:World}{vs:List Value}
  (ha:jY (eZ w (λ_=>none) (λ_=>False)) args vs):
  Calls P f vs.toArray w λe w'=>e=.returned v/\w'.os=w.os/\w'.tape=w.tape/\w'.output=w.output/\w.heap.size<=w'.heap.size∧∀b,b<w.heap.size->w'.heap[b]? =w.heap[b]? :=by
 have hH:fJ (λ_=>False) w (λ_=>none) []:=⟨λk o hk=>by simp at hk,λk k' o o' l l' b e1=>by simp at e1,λ_ _=>rfl,λb hb=>λh=>h,λb h=>h.elim⟩;refine(hA (λ_=>False) w (λ_=>none) vs hH (by rw[aKg];exact ha)).mono (λe w' he=> ?_);obtain⟨v',r',h',m',rfl,⟨rfl,rfl⟩,H',iN,hfr,hmt,hid⟩:=he;have:v'=v:=by cases iN with|c h=>cases h;rfl
 subst this;exact⟨rfl,hfr.os,hfr.tape,hfr.output.1,hfr.size,λb hb=>hfr.keep b hb (by rintro⟨k,o,l,hk,_⟩;simp at hk)⟩
theorem qx.below{P:Program}{v:Value}(hA:qx P f args [] (λr' h'=>r'=fP v/\h'=[])){w:World}{vs:List Value}
  (ha:jY (eZ w (λ_=>none) (λ_=>False)) args vs):Calls P f vs.toArray w λe w'=>e=.returned v/\Below w.heap.size w w':=
 (qx.law hA ha).mono λe w' ⟨h1,h2,h3,h4,h5,h6⟩=>⟨h1,⟨h2,h3,h4,h5,h6⟩⟩
end
theorem kR.below{P:Program}{S:aS}(h:kR P S)(v:S.ps.V){r:S.β}(hF:S.F v=some r)(h0:gY S.ps.objs v.2=[])(h1:gY S.rs.objs (S.g r).2=[]){y:Value}(hy:Ez (kN S.rs.slots (S.g r).1)=fP y){w:World}{vs:List Value}
  (ha:jY (eZ w (λ_=>none) (λ_=>False)) ((kN S.ps.slots v.1).map (·.2)) vs):Calls P S.f vs.toArray w λe w'=>e=.returned y/\Below w.heap.size w w':=by
 have:=h.2 v r hF;rw[h0,h1,hy]at this;exact this.below ha
end
end Go.AM
