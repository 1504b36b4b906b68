/- Refutations: the demands, and what a set of regions needs. -/
import Derived.KernelRfl
import Derived.Deep.Slices
import Derived.ChangeArms
import Derived.Below
import Derived.Test.YtodbmegkcniehaaGreatP576264547
set_option linter.unusedSimpArgs false
set_option linter.unusedVariables false
namespace Go.CP
open Go
variable {p:aF} {l X:List aK} {C:Prop}
def anL [Fuel] (p:aF) (t:Int):Int:=(FU p t).getD 0
theorem anM [Fuel] (hp:PV p) (t:Int):FU p t=some (anL p t)/\(0<=anL p t/\anL p t<8)∧∀k:Nat,k<p.Config.Cells.length->Ow p.Config t (k:Int)=true->inS (anL p t) (dw p.Config (k:Int))=true:=by
 obtain⟨R,h1,h2⟩:=aoY hp t
 unfold anL
 rw [h1]
 exact⟨rfl,h2⟩
def afi [Fuel] (p:aF) (l:List aK):Nat->List bM
 |0=> []
 |n+1=>afi p l n++(if(l.getD n default).Home= -1 then [{load:=(p.Config.ah.getD n default).Load,reach:=anL p (n:Int):bM}]else [])
theorem YF [Fuel]:∀n,(afi p l n).length<=n
 |0=>Nat.le_refl _
 |n+1=>by
  have:=YF n
  rw [afi,List.length_append]
  split<;>simp<;>omega
theorem aeX [Fuel] (hp:PV p) (hf:PF p l):DY p l=some (afi p l l.length):=by
 have htl:=hp.vc.tl
 have hlen:=hf.len
 unfold DY
 apply ahx
 refine yL (L:=λm x i=>kI p l ((l.length:Nat):Int) m x i) l.length (by omega) (λn x=>x=afi p l n) rfl ?_ ?_
 ·rintro m n x hn rfl ih
  show Ok (kI p l ((l.length:Nat):Int) (m+1) (afi p l n) (n:Int)) _
  have hd:=YF (p:=p) (l:=l) n
  rw [kI,nS (by omega),dL (by omega) (by omega)]
  simp only [Int.toNat_natCast]
  unfold BG
  rw [bA (x:=(n:Int)+1) (by omega) (by omega)]
  refine Ok.cond (λh=> ?_) (λh=> ?_)
  ·have h:(l.getD n default).Home= -1:=by simpa using h
   rw [dL (by omega) (by omega),(anM hp (n:Int)).1,Option.bind_some]
   simp only [Int.toNat_natCast]
   refine Ok.chk (dT (by show((afi p l n).length+1)*16<=140737488355328;omega)) ?_
   exact ih _ (by rw [afi,if_pos h])
  ·have h:¬(l.getD n default).Home= -1:=by simpa using h
   exact ih _ (by rw [afi,if_neg h,List.append_nil])
 ·rintro m x rfl
  show Ok (kI p l ((l.length:Nat):Int) (m+1) _ ((l.length:Nat):Int)) _
  rw [kI,nH (by omega)]
  exact Ok.some rfl
def KU (set:Int):List bM->Int
 | []=>0
 |x::xs=>(if(Nr .i64 x.reach set==0)=true then x.load else 0)+KU set xs
theorem ZO [Fuel] (set:Int):∀(a b:List bM),KU set (a++b)=KU set a+KU set b
 | [],b=>by simp [KU]
 |x::a,b=>by simp only [List.cons_append,KU,ZO set a b];omega
theorem ahH [Fuel] {set:Int}:∀{D:List bM},(∀x∈D,0<=x.load/\x.load<=65536)->0<=KU set D/\KU set D<=65536*(D.length:Int)
 | [],_=>by simp [KU]
 |x::D,h=>by
  have h1:=h x (List.mem_cons_self ..)
  have h2:=ahH (set:=set) (D:=D) (λy hy=>h y (List.mem_cons_of_mem _ hy))
  rw [KU,List.length_cons]
  split<;>(push_cast;omega)
theorem acW [Fuel] (hp:PV p):∀n,n<=p.Config.ah.length→∀x∈afi p l n,0<=x.load/\x.load<=65536
 |0,_,x,hx=>by cases hx
 | n+1,hn,x,hx=>by
  rw [afi,List.mem_append]at hx
  rcases hx with hx|hx
  ·exact acW hp n (by omega) x hx
  ·split at hx
   ·simp only [List.mem_cons,List.not_mem_nil,or_false]at hx
    subst hx
    have:=(hp.vc.t _ (iG (show n<p.Config.ah.length by omega))).load
    exact⟨by show 0<=(p.Config.ah.getD n default).Load;omega,this.2⟩
   ·cases hx
theorem anN [Fuel] {D:List bM} {set:Int} (hl:D.length<=32) (h:∀x∈D,0<=x.load/\x.load<=65536):MS D set=some (KU set D):=by
 unfold MS
 apply ahx
 refine yL (L:=λm x i=>pK D set ((D.length:Nat):Int) m x i) D.length (by omega) (λn x=>x=KU set (D.take n)) rfl ?_ ?_
 ·rintro m n x hn rfl ih
  show Ok (pK D set ((D.length:Nat):Int) (m+1) _ (n:Int)) _
  have hx:=h _ (iG hn)
  have hb:=ahH (set:=set) (D:=D.take n) (λy hy=>h y (List.mem_of_mem_take hy))
  have hlt:(D.take n).length=n:=by rw [List.length_take];omega
  rw [hlt]at hb
  have hs:KU set (D.take (n+1))=KU set (D.take n)+(if(Nr .i64 (D.getD n default).reach set==0)=true then(D.getD n default).load else 0):=by
   rw [abT hn,ZO,KU,KU];omega
  rw [pK,nS (by omega),dL (by omega) (by omega)]
  simp only [Int.toNat_natCast]
  unfold Jl
  rw [bA (x:=(n:Int)+1) (by omega) (by omega)]
  refine Ok.cond (λq=> ?_) (λq=> ?_)
  ·rw [bA (by omega) (by omega)]
   exact ih _ (by rw [hs,if_pos q])
  ·exact ih _ (by rw [hs,if_neg (by rw [q];simp)];omega)
 ·rintro m x rfl
  show Ok (pK D set ((D.length:Nat):Int) (m+1) _ ((D.length:Nat):Int)) _
  rw [pK,nH (by omega),List.take_length]
  exact Ok.some rfl
theorem aqB [Fuel] (hp:PV p) (hf:PF p l) (set:Int):MV p l set=some (KU set (afi p l l.length)):=by
 have htl:=hp.vc.tl
 have hlen:=hf.len
 have:=YF (p:=p) (l:=l) l.length
 unfold MV
 rw [alq hp hf]
 simp only [Option.bind_some,Bool.not_true,cond_false]
 rw [aeX hp hf,Option.bind_some,anN (by omega) (acW hp _ (by omega)),Option.bind_some]
end Go.CP
namespace Go.CP
open Go
variable {p:aF} {l X:List aK} {C:Prop}
def lft (p:aF) (l:List aK) (k:Nat):Int:=(p.Config.Cells.getD k default).kV - bkN p.Config l k p.Config.ah.length
theorem anO [Fuel] (hp:PV p) {k:Nat} (hk:k<p.Config.Cells.length): -4194304<=lft p l k/\lft p l k<=4194304:=by
 have h1:=hp.vc.cel _ (iG hk)
 have h2:=ahE hp.vc l k p.Config.ah.length (Nat.le_refl _)
 have h3:=hp.vc.tl
 unfold lft;omega
def rmN (p:aF) (l:List aK) (r:Int):Nat->Int
 |0=>0
 |k+1=>rmN p l r k+(if dw p.Config (k:Int)=r then lft p l k else 0)
theorem als [Fuel] (hp:PV p) (r:Int):∀k,k<=p.Config.Cells.length-> -4194304*(k:Int)<=rmN p l r k/\rmN p l r k<=4194304*(k:Int)
 |0,_=>by simp [rmN]
 |k+1,hk=>by
  have h1:=als hp r k (by omega)
  have h2:=anO (l:=l) hp (show k<p.Config.Cells.length by omega)
  rw [rmN];split<;>(push_cast;omega)
theorem alu [Fuel] (hp:PV p) (hf:PF p l):Ok (J5 p l) (λx=>x.length=p.Config.bK.toNat∧∀r:Nat,(r:Int)<p.Config.bK->x.getD r default=rmN p l (r:Int) p.Config.Cells.length):=by
 have hcl:=hp.vc.cl
 have aap:=hp.vc.reg
 unfold J5
 refine Ok.chk (dT (by omega)) ?_
 refine Ok.bind (ahF hp hf) (λb hb=> ?_)
 refine yL (L:=λm x i=>nE p b p.Config.Cells ((p.Config.Cells.length:Nat):Int) m x i) p.Config.Cells.length (by omega) (λn x=>x.length=p.Config.bK.toNat∧∀r:Nat,(r:Int)<p.Config.bK->x.getD r default=rmN p l (r:Int) n) ⟨by simp,λr hr=> ?_⟩ ?_ ?_
 ·rw [List.getD_eq_getElem?_getD,List.getElem?_replicate,if_pos (by omega)];rfl
 ·rintro m n x hn ⟨hx1,hx2⟩ ih
  show Ok (nE p b p.Config.Cells ((p.Config.Cells.length:Nat):Int) (m+1) x (n:Int)) _
  have hr:=aeW hp.vc hn
  have hl:=anO (l:=l) hp hn
  have hi:(dw p.Config (n:Int)).toNat<p.Config.bK.toNat:=by omega
  have hv:=hx2 (dw p.Config (n:Int)).toNat (by omega)
  have hbd:=als (l:=l) hp (((dw p.Config (n:Int)).toNat:Nat):Int) n (by omega)
  rw [nE,nS (by omega),dL (by omega) (by omega),asw (by omega) (by omega),ahG hp (by omega) (by omega)]
  simp only [Option.bind_some,cond_true]
  rw [Ke hp.vc,Option.bind_some,dL hr.1 (by omega),dL (by omega) (by rw [hb.1];omega),dL hr.1 (by omega)]
  simp only [Int.toNat_natCast,dZ]
  unfold Gy
  rw [bA (x:=(n:Int)+1) (by omega) (by omega),hb.2 n hn]
  have e1:w64 ((p.Config.Cells.getD n default).kV - bkN p.Config l n p.Config.ah.length)=lft p l n:=bA (by unfold lft at hl;omega) (by unfold lft at hl;omega)
  rw [e1,bA (x:=x.getD (dw p.Config (n:Int)).toNat default+lft p l n) (by omega) (by omega)]
  refine ih _ ⟨by rw [List.length_set];exact hx1,λr hr'=> ?_⟩
  rw [ZN (f:=λr=>rmN p l (r:Int) n) hx1 hi (λj hj=>hx2 j (by omega)) (by omega),rmN]
  have:(((dw p.Config (n:Int)).toNat:Nat):Int)=dw p.Config (n:Int):=by omega
  rw [this]
 ·rintro m x ⟨hx1,hx2⟩
  show Ok (nE p b p.Config.Cells ((p.Config.Cells.length:Nat):Int) (m+1) x ((p.Config.Cells.length:Nat):Int)) _
  rw [nE,nH (by omega)]
  exact Ok.some ⟨hx1,hx2⟩
def roN (p:aF) (l:List aK) (set:Int) (k:Nat):Nat->Int
 |0=>0
 |r+1=>roN p l set k r+(if inS set (r:Int)=true then rmN p l (r:Int) k else 0)
def ceN (p:aF) (l:List aK) (set:Int):Nat->Int
 |0=>0
 |k+1=>ceN p l set k+(if inS set (dw p.Config (k:Int))=true then lft p l k else 0)
theorem ahI [Fuel] {set:Int} {k:Nat} (h0:0<=dw p.Config (k:Int)):∀R:Nat,roN p l set (k+1) R=roN p l set k R+(if dw p.Config (k:Int)<(R:Int)/\inS set (dw p.Config (k:Int))=true then lft p l k else 0)
 |0=>by rw [roN,roN,if_neg (by omega)];rfl
 | R+1=>by
  rw [roN,roN,ahI h0 R,rmN]
  by_cases h:dw p.Config (k:Int)=(R:Int)
  ·rw [if_pos h,if_neg (c:=_/\_) (by omega)]
   rw [h]
   by_cases hs:inS set (R:Int)=true
   ·rw [if_pos hs,if_pos hs,if_pos ⟨by omega,hs⟩];omega
   ·rw [if_neg hs,if_neg hs,if_neg (λq=>hs q.2)]
  ·rw [if_neg h]
   have e:(dw p.Config (k:Int)<((R+1:Nat):Int)) ↔ (dw p.Config (k:Int)<(R:Int)):=by push_cast;omega
   simp only [e]
   split<;>split<;>omega
theorem aqC [Fuel] (hp:PV p) (set:Int):∀k,k<=p.Config.Cells.length->roN p l set k p.Config.bK.toNat=ceN p l set k
 | 0,_=>by
  have:∀R,roN p l set 0 R=0:=by
   intro R
   induction R with
   |zero=>rfl
   |succ R ih=>rw [roN,ih,rmN];split<;>rfl
  rw [this];rfl
 |k+1,hk=>by
  have hr:=aeW hp.vc (show k<p.Config.Cells.length by omega)
  rw [ahI hr.1,aqC hp set k (by omega),ceN]
  congr 1
  by_cases hs:inS set (dw p.Config (k:Int))=true
  ·rw [if_pos hs,if_pos ⟨by omega,hs⟩]
  ·rw [if_neg hs,if_neg (λq=>hs q.2)]
theorem alv [Fuel] (hp:PV p) {set:Int}:∀R:Nat,-67108864*(R:Int)<=roN p l set p.Config.Cells.length R/\roN p l set p.Config.Cells.length R<=67108864*(R:Int)
 |0=>by simp [roN]
 |R+1=>by
  have h1:=alv hp (set:=set) R
  have h2:=als (l:=l) hp (R:Int) p.Config.Cells.length (Nat.le_refl _)
  have h3:=hp.vc.cl
  rw [roN];split<;>(push_cast;omega)
theorem anP [Fuel] (hp:PV p) {x:List Int} (set:Int) (hx1:x.length=p.Config.bK.toNat) (hx2:∀r:Nat,(r:Int)<p.Config.bK->x.getD r default=rmN p l (r:Int) p.Config.Cells.length):
  MU x set=some (ceN p l set p.Config.Cells.length):=by
 have aap:=hp.vc.reg
 rw [<-aqC hp set _ (Nat.le_refl _),<-hx1]
 unfold MU
 apply ahx
 refine yL (L:=λm y i=>pO x set ((x.length:Nat):Int) m y i) x.length (by omega) (λn y=>y=roN p l set p.Config.Cells.length n) rfl ?_ ?_
 ·rintro m n y hn rfl ih
  show Ok (pO x set ((x.length:Nat):Int) (m+1) _ (n:Int)) _
  have hb:=alv (l:=l) hp (set:=set) n
  have hb2:=alv (l:=l) hp (set:=set) (n+1)
  rw [pO,nS (by omega),dL (by omega) (by omega),asw (by omega) (by omega),Option.bind_some]
  simp only [Int.toNat_natCast]
  unfold Jm
  rw [bA (x:=(n:Int)+1) (by omega) (by omega),hx2 n (by omega)]
  rw [roN]at hb2
  refine Ok.cond (λq=> ?_) (λq=> ?_)
  ·rw [if_pos q]at hb2
   rw [bA (by push_cast at hb2;omega) (by push_cast at hb2;omega)]
   exact ih _ (by rw [roN,if_pos q])
  ·exact ih _ (by rw [roN,if_neg (by rw [q];simp)];omega)
 ·rintro m y rfl
  show Ok (pO x set ((x.length:Nat):Int) (m+1) _ ((x.length:Nat):Int)) _
  rw [pO,nH (by omega)]
  exact Ok.some rfl
theorem aqD [Fuel] (hp:PV p) (hf:PF p l) (set:Int):MW p l set=some (ceN p l set p.Config.Cells.length):=by
 unfold MW
 rw [alq hp hf]
 simp only [Option.bind_some,Bool.not_true,cond_false]
 obtain⟨x,h1,h2,h3⟩:=alu hp hf
 rw [h1,Option.bind_some,anP hp set h2 h3,Option.bind_some]
end Go.CP
namespace Go.CP
open Go
variable {p:aF} {l X:List aK} {C:Prop}
def beN (p:aF) (l:List aK) (set:Int) (m:Nat):Nat->Int
 |0=>0
 |k+1=>beN p l set m k+(if inS set (dw p.Config (k:Int))=true then bkN p.Config l k m else 0)
def caN (p:aF) (set:Int):Nat->Int
 |0=>0
 |k+1=>caN p set k+(if inS set (dw p.Config (k:Int))=true then(p.Config.Cells.getD k default).kV else 0)
theorem aqE [Fuel] (set:Int):∀k,ceN p l set k=caN p set k - beN p l set p.Config.ah.length k
 |0=>rfl
 |k+1=>by
  rw [ceN,caN,beN,aqE set k,lft];split<;>omega
theorem aqF [Fuel] (hx:XV p X) (set:Int):∀k,k<=p.Config.Cells.length->beN p X set p.Config.ah.length k<=caN p set k
 |0,_=>Int.le_refl _
 |k+1,hk=>by
  have h1:=aqF hx set k (by omega)
  have h2:=hx.cap k (by omega)
  rw [beN,caN];split<;>omega
def adS (p:aF) (set:Int) (k:Nat) (h a:Int):Int:=if 0<=h/\h<(k:Int)/\inS set (dw p.Config h)=true then a else 0
theorem agt [Fuel] (set:Int) (m:Nat):∀k,beN p l set (m+1) k=beN p l set m k+adS p set k (l.getD m default).Home (p.Config.ah.getD m default).Load+adS p set k (l.getD m default).aN (p.Config.ah.getD m default).pR
 |0=>by
  have e:∀h a,adS p set 0 h a=0:=λh a=>if_neg (by omega)
  rw [e,e];rfl
 | k+1=>by
  have e:∀h a,adS p set (k+1) h a=adS p set k h a+(if inS set (dw p.Config (k:Int))=true then(if h=(k:Int)then a else 0)else 0):=by
   intro h a
   unfold adS
   by_cases hk:h=(k:Int)
   ·subst hk
    rw [if_neg (c:=0<=(k:Int)/\(k:Int)<(k:Int)/\_) (by omega),if_pos (c:=(k:Int)=(k:Int)) rfl]
    by_cases hs:inS set (dw p.Config (k:Int))=true
    ·rw [if_pos ⟨by omega,by omega,hs⟩,if_pos hs];omega
    ·rw [if_neg (λq=>hs q.2.2),if_neg hs];omega
   ·rw [if_neg hk]
    have e1:(h<((k+1:Nat):Int)) ↔ (h<(k:Int)):=by push_cast;omega
    simp only [e1,ite_self];omega
  rw [beN,beN,agt set m k,e,e,bkN]
  by_cases hs:inS set (dw p.Config (k:Int))=true
  ·simp only [if_pos hs];omega
  ·simp only [if_neg hs];omega
theorem alx [Fuel] (hp:PV p) (hf:PF p l) (hx:XV p X) (hc:Cn l X) {set:Int} (hs:0<=set/\set<8):∀m,m<=p.Config.ah.length->KU set (afi p l m)+beN p l set m p.Config.Cells.length<=beN p X set m p.Config.Cells.length
 | 0,_=>by
  have:∀(L:List aK) k,beN p L set 0 k=0:=by
   intro L k
   induction k with
   |zero=>rfl
   |succ k ih=>rw [beN,ih,bkN];split<;>rfl
  rw [this,this];exact Int.le_refl _
 | m +1,hm=>by
  have ih:=alx hp hf hx hc hs m (by omega)
  have hl:m<l.length:=by rw [hf.len];omega
  have hX:m<X.length:=by rw [hx.len];omega
  have q:=hc m hl
  have hh:=hx.home m hX
  have ht:=hp.vc.t _ (iG (show m<p.Config.ah.length by omega))
  have hL:=ht.load
  have hS:=ht.shadow
  have aap:=hp.vc.reg
  rw [agt,agt,afi,ZO]
  have a0:∀k h a,0<=a->0<=adS p set k h a:=by intro k h a ha;unfold adS;split<;>omega
  have am:∀k a,adS p set k (-1) a=0:=λk a=>if_neg (by omega)
  have e2:adS p set p.Config.Cells.length (l.getD m default).aN (p.Config.ah.getD m default).pR<=adS p set p.Config.Cells.length (X.getD m default).aN (p.Config.ah.getD m default).pR:=by
   rcases q.2 with h2|h2
   ·rw [h2,am];exact a0 _ _ _ (by omega)
   ·rw [h2];exact Int.le_refl _
  have e1:KU set (if(l.getD m default).Home= -1 then [{load:=(p.Config.ah.getD m default).Load,reach:=anL p (m:Int):bM}]else [])+adS p set p.Config.Cells.length (l.getD m default).Home (p.Config.ah.getD m default).Load<=adS p set p.Config.Cells.length (X.getD m default).Home (p.Config.ah.getD m default).Load:=by
   rcases q.1 with h1|h1
   ·rw [if_pos h1,h1,am]
    simp only [KU]
    by_cases hsub:(Nr .i64 (anL p (m:Int)) set==0)=true
    ·rw [if_pos hsub]
     obtain⟨_,r2,r3⟩:=anM hp (m:Int)
     have hk:(X.getD m default).Home.toNat<p.Config.Cells.length:=by omega
     have r4:=r3 (X.getD m default).Home.toNat hk (by rw [show(((X.getD m default).Home.toNat:Nat):Int)=(X.getD m default).Home by omega];exact hx.may m hX)
     have r5:=aeW hp.vc hk
     rw [show(((X.getD m default).Home.toNat:Nat):Int)=(X.getD m default).Home by omega]at r4 r5
     have r6:=aoX r2 hs ⟨r5.1,by omega⟩ hsub r4
     rw [adS,if_pos ⟨hh.1,hh.2,r6⟩];omega
    ·rw [if_neg hsub]
     have:=a0 p.Config.Cells.length (X.getD m default).Home (p.Config.ah.getD m default).Load (by omega)
     omega
   ·rw [if_neg (by omega),h1]
    simp only [KU];omega
  omega
theorem aeY [Fuel] (hp:PV p) (hf:PF p l) (hx:XV p X) (hc:Cn l X) {set:Int} (hs:0<=set/\set<8):KU set (afi p l l.length)<=ceN p l set p.Config.Cells.length:=by
 have h1:=alx hp hf hx hc hs p.Config.ah.length (Nat.le_refl _)
 have h2:=aqF hx set p.Config.Cells.length (Nat.le_refl _)
 rw [aqE,hf.len];omega
end Go.CP
namespace Go.CP
open Go
variable {p:aF} {l X:List aK} {C:Prop}
theorem aly [Fuel] {n:Int} (h:1<=n/\n<=3):Dk .i64 1 n<=8/\2<=Dk .i64 1 n:=by
 have:n=1\/n=2\/n=3:=by omega
 rcases this with rfl|rfl|rfl<;>decide
theorem aqG [Fuel] (hp:PV p) (hf:PF p l) {r:aX} (h1:r.problem=p) (h2:r.places=l) (set:Int):Ok (jW r set) (λb=>XV p X/\Cn l X->b=false):=by
 have aap:=hp.vc.reg
 obtain⟨s1,s2⟩:=aly aap
 unfold jW
 rw [h1,h2]
 refine Ok.chk (by rw [dT (show(0:Int)<=p.Config.bK by omega)];simp) ?_
 rw [aqB hp hf,aqD hp hf]
 cases hg:((decide (1<=set))&&(decide (set<(Dk .i64 1 p.Config.bK))))with
 |false=>exact Ok.some (λ_=>by simp)
 |true=>
  have hg:1<=set/\set<Dk .i64 1 p.Config.bK:=by simpa using hg
  refine Ok.some (λh=> ?_)
  have:=aeY hp hf h.1 h.2 (set:=set) ⟨by omega,by omega⟩
  rw [Bool.true_and,decide_eq_false (by omega)]
theorem aiT [Fuel] (hp:PV p) (hf:PF p l):Ok (Gz p l) (λ_=>True):=by
 have aap:=hp.vc.reg
 have htl:=hp.vc.tl
 have hlen:=hf.len
 obtain⟨s1,s2⟩:=aly aap
 have hdl:=YF (p:=p) (l:=l) l.length
 obtain⟨x,e1,e2,e3⟩:=alu hp hf
 unfold Gz
 rw [alq hp hf]
 simp only [Option.bind_some,Bool.not_true,cond_false]
 rw [aeX hp hf,Option.bind_some,e1,Option.bind_some]
 have key:∀(m:Nat) (s:Int),1<=s->s<=8->(9 - s).toNat<m->Ok (tQ p (afi p l l.length) x m s) (λ_=>True):=by
  intro m
  induction m with
  |zero=>intro s _ _ h;omega
  |succ m ih=>
   intro s h1 h2 hm
   rw [tQ]
   refine Ok.chk (dT (by omega)) ?_
   refine Ok.cond (λh=> ?_) (λh=>Ok.some trivial)
   have h:=of_decide_eq_true h
   rw [anN (by omega) (acW hp _ (by omega)),Option.bind_some,anP hp s e2 e3,Option.bind_some]
   refine Ok.cond (λ_=>Ok.some trivial) (λ_=> ?_)
   rw [bA (by omega) (by omega)]
   exact ih (s+1) (by omega) (by omega) (by omega)
 exact key fuel 1 (by omega) (by omega) (by rw [lZ];omega)
end Go.CP
namespace Go.CP
open Go
theorem aiU [Fuel] {D:List aI} (h:D.length<=20000) (x:aI):Ok (gZ D x) (λb=>D= []->b=false):=by
 unfold gZ
 refine Ok.bind (P:=λi=>D= []->i= -1) ?_ (λi hi=>Ok.some (λh=>by rw [hi h];rfl))
 unfold kY
 refine yL (L:=λm (_:Unit) i=>bZ D x ((D.length:Nat):Int) m i) (x:=()) D.length (by omega) (λ_ _=>True) trivial ?_ ?_
 ·rintro m n _ hn _ ih
  show Ok (bZ D x ((D.length:Nat):Int) (m+1) (n:Int)) _
  rw [bZ,nS (by omega),dL (by omega) (by omega)]
  refine Ok.cond (λ_=>Ok.some (λh=>by rw [h]at hn;exact absurd hn (Nat.not_lt_zero _))) (λ_=> ?_)
  rw [bA (by omega) (by omega)]
  exact ih () trivial
 ·rintro m _ _
  show Ok (bZ D x ((D.length:Nat):Int) (m+1) ((D.length:Nat):Int)) _
  rw [bZ,nH (by omega)]
  exact Ok.some (λ_=>rfl)
end Go.CP
namespace Go.CP
open Go
variable {p:aF} {l X:List aK} {T:List dQ}
def amX (p:aF) (T:List dQ) (X:List aK) (rec:aX->Option (Bool×aX)) (N:Int):Prop:=
 ∀r:aX,r.problem=p->r.tree=T->PF p r.places->0<=r.at_->r.at_<=(T.length:Int)->(T.length:Int) - r.at_<N→
  Ok (rec r) (λq=>∃a,q.2={r with at_:=a}/\r.at_<=a/\a<=(T.length:Int)/\(XV p X/\Cn r.places X->q.1=false))
theorem amY [Fuel] {k:Nat} (hk:k<l.length) (a:aK):(l.set k a).set k (l.getD k default)=l:=by
 rw [List.set_set]
 apply List.ext_getElem?
 intro i
 rw [List.getElem?_set]
 by_cases h:k=i
 ·subst h
  rw [if_pos rfl,if_pos hk,List.getD_eq_getElem?_getD,List.getElem?_eq_getElem hk];rfl
 ·rw [if_neg h]
theorem PF.set [Fuel] (hf:PF p l) {k:Nat} (hk:k<l.length) {a:aK} (ha: -1<=a.Home/\a.Home<(p.Config.Cells.length:Int)/\ -1<=a.aN/\a.aN<(p.Config.Cells.length:Int)):PF p (l.set k a):=by
 refine⟨by rw [List.length_set];exact hf.len,λi hi=> ?_⟩
 rw [List.length_set]at hi
 by_cases h:k=i
 ·subst h;rw [iC hk];exact ha
 ·rw [getD_set_ne h];exact hf.ok i hi
theorem Cn.set [Fuel] (hc:Cn l X) {k:Nat} (hk:k<l.length) {a:aK} (ha:(a.Home= -1\/a.Home=(X.getD k default).Home)/\(a.aN= -1\/a.aN=(X.getD k default).aN)):Cn (l.set k a) X:=by
 intro i hi
 rw [List.length_set]at hi
 by_cases h:k=i
 ·subst h;rw [iC hk];exact ha
 ·rw [getD_set_ne h];exact hc i hi
end Go.CP
namespace Go.CP
open Go
variable {p:aF} {l X:List aK} {T:List dQ}
theorem acX [Fuel] (hp:PV p) (i:Int):Ok (pW p i) (λ_=>True):=by
 unfold pW
 refine Ok.cond (λh=>Ok.some trivial) (λh=> ?_)
 have h:0<=i/\i<(p.Config.ah.length:Int):=by simpa using h
 rw [dL h.1 h.2]
 exact⟨_,rfl,trivial⟩
def atE (p:aF) (T:List dQ) (X:List aK) (k:Nat) (r:aX) (a0:aK) (c:Prop) (q:Bool×aX):Prop:=
 ∃a,q.2={r with at_:=a,places:=r.places.set k a0}/\r.at_<=a/\a<=(T.length:Int)/\(XV p X/\Cn (r.places.set k a0) X->c->q.1=false)
theorem amZ [Fuel] (hp:PV p) {rec:aX->Option (Bool×aX)} {N:Int} (hrec:amX p T X rec N) {k:Nat}:∀(m:Nat) (i:Nat) (r:aX),r.problem=p->r.tree=T->PF p r.places->k<r.places.length→
  0<=r.at_->r.at_<=(T.length:Int)->(T.length:Int) - r.at_<N->i<=p.Config.Cells.length->p.Config.Cells.length - i<m→
  Ok (kT rec k ((p.Config.Cells.length:Nat):Int) m r (i:Int)) (atE p T X k r {r.places.getD k default with Home:= -1} ((i:Int)<=(X.getD k default).Home)):=by
 have hcl:=hp.vc.cl
 intro m
 induction m with
 |zero=>intro i r _ _ _ _ _ _ _ _ h;omega
 | succ m ih=>
  intro i r h1 h2 hf hk ha hb hn hi hm
  have hx:=hf.ok k hk
  rw [kT]
  by_cases hlt:i<p.Config.Cells.length
  ·rw [nS (by omega)]
   refine Ok.chk (dT (by omega)) ?_
   have hbc:jN .i64 (oK .i64 r.problem.Cells (i:Int)) 1=1:=by rw [h1];exact Sl hp (by omega) (by omega)
   rw [hbc]
   simp only [show((1:Int)==0)=false from rfl,cond_false,dZ]
   have hF:PF p (r.places.set k {r.places.getD k default with Home:=(i:Int)}):=hf.set hk ⟨by show -1<=(i:Int);omega,by show(i:Int)<_;omega,hx.2.2⟩
   refine Ok.bind (hrec _ h1 h2 hF ha hb hn) (λq hq=> ?_)
   obtain⟨a,e,q1,q2,q3⟩:=hq
   have e1:q.2.places=r.places.set k {r.places.getD k default with Home:=(i:Int)}:=by rw [e]
   have e2:q.2.at_=a:=by rw [e]
   have eg:(q.2.places.getD k default)={r.places.getD k default with Home:=(i:Int)}:=by rw [e1,iC hk]
   refine Ok.cond (λh=> ?_) (λh=> ?_)
   ·refine Ok.some ⟨a,?_,q1,q2,λ_ _=>rfl⟩
    show({q.2 with places:=q.2.places.set k {q.2.places.getD k default with Home:= -1}}:aX)=_
    rw [eg,e1,e,List.set_set]
   ·unfold rX
    rw [bA (by omega) (by omega)]
    have:=ih (i+1) q.2 (by rw [e];exact h1) (by rw [e];exact h2) (by rw [e1];exact hF) (by rw [e1,List.length_set];exact hk) (by rw [e2];show 0<=a;have:r.at_<=a:=q1;omega) (by rw [e2];exact q2) (by rw [e2];have:r.at_<=a:=q1;omega) (by omega) (by omega)
    rw [Int.natCast_succ]at this
    refine this.mono (λz hz=> ?_)
    obtain⟨a',z1,z2,z3,z4⟩:=hz
    rw [eg]at z1 z4
    rw [e1,List.set_set]at z4
    refine⟨a',?_,?_,z3,λhxc hc=> ?_⟩
    ·rw [z1,e1,e,List.set_set]
    ·rw [e2]at z2;have:r.at_<=a:=q1;omega
    ·by_cases hh:(X.getD k default).Home=(i:Int)
     ·exfalso
      have hq:q.1=false:=by
       refine q3 ⟨hxc.1,?_⟩
       have hcx:=hxc.2.set (k:=k) (by rw [List.length_set];exact hk) (a:={r.places.getD k default with Home:=(i:Int)}) ?_
       ·rw [List.set_set]at hcx;exact hcx
       ·have:=hxc.2 k (by rw [List.length_set];exact hk)
        rw [iC hk]at this
        exact⟨.inr hh.symm,this.2⟩
      rw [hq]at h;cases h
     ·exact z4 hxc (by omega)
  ·rw [nH (by omega)]
   simp only [dZ]
   refine Ok.some ⟨r.at_,rfl,Int.le_refl _,hb,λhxc hc=> ?_⟩
   have:=hxc.1.home k (by rw [hxc.1.len,<-hf.len];exact hk)
   omega
theorem am0 [Fuel] (hp:PV p) {rec:aX->Option (Bool×aX)} {N:Int} (hrec:amX p T X rec N) {k:Nat}:∀(m:Nat) (i:Nat) (r:aX),r.problem=p->r.tree=T->PF p r.places->k<r.places.length→
  0<=r.at_->r.at_<=(T.length:Int)->(T.length:Int) - r.at_<N->i<=p.Config.Cells.length->p.Config.Cells.length - i<m→
  Ok (kS rec k ((p.Config.Cells.length:Nat):Int) m r (i:Int)) (atE p T X k r {r.places.getD k default with aN:= -1} ((i:Int)<=(X.getD k default).aN)):=by
 have hcl:=hp.vc.cl
 intro m
 induction m with
 |zero=>intro i r _ _ _ _ _ _ _ _ h;omega
 | succ m ih=>
  intro i r h1 h2 hf hk ha hb hn hi hm
  have hx:=hf.ok k hk
  rw [kS]
  by_cases hlt:i<p.Config.Cells.length
  ·rw [nS (by omega)]
   refine Ok.chk (dT (by omega)) ?_
   have hbc:jN .i64 (oK .i64 r.problem.Cells (i:Int)) 1=1:=by rw [h1];exact Sl hp (by omega) (by omega)
   rw [hbc]
   simp only [show((1:Int)==0)=false from rfl,cond_false,dZ]
   have hF:PF p (r.places.set k {r.places.getD k default with aN:=(i:Int)}):=hf.set hk ⟨hx.1,hx.2.1,by show -1<=(i:Int);omega,by show(i:Int)<_;omega⟩
   refine Ok.bind (hrec _ h1 h2 hF ha hb hn) (λq hq=> ?_)
   obtain⟨a,e,q1,q2,q3⟩:=hq
   have e1:q.2.places=r.places.set k {r.places.getD k default with aN:=(i:Int)}:=by rw [e]
   have e2:q.2.at_=a:=by rw [e]
   have eg:(q.2.places.getD k default)={r.places.getD k default with aN:=(i:Int)}:=by rw [e1,iC hk]
   refine Ok.cond (λh=> ?_) (λh=> ?_)
   ·refine Ok.some ⟨a,?_,q1,q2,λ_ _=>rfl⟩
    show({q.2 with places:=q.2.places.set k {q.2.places.getD k default with aN:= -1}}:aX)=_
    rw [eg,e1,e,List.set_set]
   ·unfold rW
    rw [bA (by omega) (by omega)]
    have:=ih (i+1) q.2 (by rw [e];exact h1) (by rw [e];exact h2) (by rw [e1];exact hF) (by rw [e1,List.length_set];exact hk) (by rw [e2];show 0<=a;have:r.at_<=a:=q1;omega) (by rw [e2];exact q2) (by rw [e2];have:r.at_<=a:=q1;omega) (by omega) (by omega)
    rw [Int.natCast_succ]at this
    refine this.mono (λz hz=> ?_)
    obtain⟨a',z1,z2,z3,z4⟩:=hz
    rw [eg]at z1 z4
    rw [e1,List.set_set]at z4
    refine⟨a',?_,?_,z3,λhxc hc=> ?_⟩
    ·rw [z1,e1,e,List.set_set]
    ·rw [e2]at z2;have:r.at_<=a:=q1;omega
    ·by_cases hh:(X.getD k default).aN=(i:Int)
     ·exfalso
      have hq:q.1=false:=by
       refine q3 ⟨hxc.1,?_⟩
       have hcx:=hxc.2.set (k:=k) (by rw [List.length_set];exact hk) (a:={r.places.getD k default with aN:=(i:Int)}) ?_
       ·rw [List.set_set]at hcx;exact hcx
       ·have:=hxc.2 k (by rw [List.length_set];exact hk)
        rw [iC hk]at this
        exact⟨this.1,.inr hh.symm⟩
      rw [hq]at h;cases h
     ·exact z4 hxc (by omega)
  ·rw [nH (by omega)]
   simp only [dZ]
   refine Ok.some ⟨r.at_,rfl,Int.le_refl _,hb,λhxc hc=> ?_⟩
   have:=hxc.1.sby k (by rw [hxc.1.len,<-hf.len];exact hk)
   omega
theorem agu [Fuel] {x:aK} (h:x.Home= -1):({x with Home:= -1}:aK)=x:=by cases x;cases h;rfl
theorem agv [Fuel] {x:aK} (h:x.aN= -1):({x with aN:= -1}:aK)=x:=by cases x;cases h;rfl
theorem set_self [Fuel] {k:Nat} (hk:k<l.length):l.set k (l.getD k default)=l:=by
 have:=amY hk (l.getD k default)
 rwa [List.set_set]at this
theorem am1 [Fuel] (hp:PV p) {rec:aX->Option (Bool×aX)} {N:Int} (hrec:amX p T X rec N) {v:Int} (hv:I64 v) (r:aX) (h1:r.problem=p) (h2:r.tree=T) (hf:PF p r.places)
  (ha:0<=r.at_) (hb:r.at_<=(T.length:Int)) (hn:(T.length:Int) - r.at_<N):
  Ok (xH rec r v) (λq=>∃a,q.2={r with at_:=a}/\r.at_<=a/\a<=(T.length:Int)/\(XV p X/\Cn r.places X->q.1=false)):=by
 have hcl:=hp.vc.cl
 have htl:=hp.vc.tl
 have hlen:=hf.len
 have hfu:∀n:Nat,n<=1000->n<fuel:=by intro n h;rw [lZ];omega
 have hpc:r.problem.Config.Cells.length=p.Config.Cells.length:=by rw [h1]
 unfold I64 at hv
 have no:Ok (some (false,r)) (λq=>∃a,q.2={r with at_:=a}/\r.at_<=a/\a<=(T.length:Int)/\(XV p X/\Cn r.places X->q.1=false)):=
  Ok.some ⟨r.at_,rfl,Int.le_refl _,hb,λ_=>rfl⟩
 unfold xH
 refine Ok.chk (by simp) ?_
 refine Ok.cond (λ_=>no) (λh=> ?_)
 have h:0<=v/\w64 (Int.tdiv v 2)<(r.places.length:Int):=by simpa using h
 have hd:Int.tdiv v 2=v / 2:=Int.tdiv_eq_ediv_of_nonneg h.1
 have hw:w64 (Int.tdiv v 2)=v / 2:=by rw [hd];exact bA (by omega) (by omega)
 rw [hw]at h⊢
 have hk:(v / 2).toNat<r.places.length:=by omega
 have hx:=hf.ok _ hk
 rw [dL (by omega) (by omega)]
 refine Ok.cond (λhodd=> ?_) (λhev=> ?_)
 ·rw [dL (by omega) (by omega)]
  refine Ok.chk (by simp) (Ok.chk (by simp) ?_)
  refine Ok.bind (P:=λb=>(r.places.getD (v / 2).toNat default).aN= -1->pW r.problem (v / 2)=some b) ?_ (λb hbs=> ?_)
  ·refine Ok.cond (λ_=> ?_) (λhg=> ?_)
   ·rw [h1]
    obtain⟨b,e,_⟩:=acX hp (v / 2)
    exact⟨b,e,λ_=>e⟩
   ·refine Ok.some (λhs=> ?_)
    rw [hs,hodd]at hg;cases hg
  ·refine Ok.cond (λ_=>no) (λhg=> ?_)
   have hs:(r.places.getD (v / 2).toNat default).aN= -1:=by
    have:=hg;simp at this;exact this.1
   have hbf:b=false:=by
    have:=hg;rw [hodd]at this;simp at this;exact this.2
   have hs1:=hbs hs
   rw [hbf,h1]at hs1
   unfold yI
   rw [hpc]
   have:=am0 hp hrec (k:=(v / 2).toNat) fuel 0 r h1 h2 hf hk ha hb hn (by omega) (hfu _ (by omega))
   refine this.mono (λq hq=> ?_)
   obtain⟨a,z1,z2,z3,z4⟩:=hq
   rw [agv hs,set_self hk]at z1 z4
   refine⟨a,by rw [z1],z2,z3,λhxc=>z4 hxc ?_⟩
   have hkx:(v / 2).toNat<X.length:=by rw [hxc.1.len,<-hlen];exact hk
   have hy:=hxc.1.sby _ hkx
   by_cases hm:(X.getD (v / 2).toNat default).aN= -1
   ·have hsg:=hxc.1.sg _ hkx hm
    rw [show(((v / 2).toNat:Nat):Int)=v / 2 by omega,hs1]at hsg
    cases hsg
   ·show((0:Nat):Int)<=_;omega
 ·refine Ok.chk (by simp) (Ok.chk (by simp) ?_)
  rw [hev]
  simp only [Bool.and_false,cond_false,Option.bind_some,Bool.false_and,Bool.or_false]
  refine Ok.cond (λ_=>no) (λhg=> ?_)
  have hs:(r.places.getD (v / 2).toNat default).Home= -1:=by simpa using hg
  unfold yJ
  rw [hpc]
  have:=amZ hp hrec (k:=(v / 2).toNat) fuel 0 r h1 h2 hf hk ha hb hn (by omega) (hfu _ (by omega))
  refine this.mono (λq hq=> ?_)
  obtain⟨a,z1,z2,z3,z4⟩:=hq
  rw [agu hs,set_self hk]at z1 z4
  refine⟨a,by rw [z1],z2,z3,λhxc=>z4 hxc ?_⟩
  have hkx:(v / 2).toNat<X.length:=by rw [hxc.1.len,<-hlen];exact hk
  have hy:=hxc.1.home _ hkx
  show((0:Nat):Int)<=_;omega
theorem alz [Fuel] (hp:PV p) (hT:T.length<=2048) (hV:∀x∈T,I64 x.Var):∀n:Nat,amX p T X (fF n) (n:Int)
 |0,r,_,_,_,ha,hb,hn=>by exfalso;have:((0:Nat):Int)=0:=rfl;omega
 | n+1,r,h1,h2,hf,ha,hb,hn=>by
  have ih:=alz hp hT hV n
  subst h1
  subst h2
  show Ok (tZ (fF n) r) _
  unfold tZ
  refine Ok.cond (λ_=>Ok.some ⟨r.at_,rfl,Int.le_refl _,hb,λ_=>rfl⟩) (λh=> ?_)
  have h:r.at_<(r.tree.length:Int):=by simpa using h
  rw [dL ha h]
  have hw:w64 (r.at_+1)=r.at_+1:=bA (by omega) (by omega)
  rw [hw]
  have hv:=hV _ (iG (show r.at_.toNat<r.tree.length by omega))
  generalize r.tree.getD r.at_.toNat default=x at hv
  have fin:∀b:Bool,(XV r.problem X/\Cn r.places X->b=false)->Ok (some (b,{r with at_:=r.at_+1})) (λq=>∃a,q.2={r with at_:=a}/\r.at_<=a/\a<=(r.tree.length:Int)/\(XV r.problem X/\Cn r.places X->q.1=false)):=
   λb hb=>Ok.some ⟨r.at_+1,rfl,by omega,by omega,hb⟩
  refine Ok.cond (λ_=> ?_) (λ_=>Ok.cond (λ_=> ?_) (λ_=>Ok.cond (λ_=> ?_) (λ_=>fin _ (λ_=>rfl))))
  ·cases hg:((x.Var==0)&&(x.Set==0))with
   |false=>simp only [cond_false,Option.bind_some,Bool.false_and];exact fin _ (λ_=>rfl)
   |true=>
    simp only [cond_true,Bool.true_and]
    refine Ok.bind (aeV hp hf (X:=X)) (λd hd=> ?_)
    refine Ok.bind (aiU hd.1 x.jE) (λb hb=> ?_)
    exact fin _ (λhxc=>hb (hd.2 hxc))
  ·generalize ((x.Var==0)&&((x.jE.Rule==0)&&((x.jE.aD==0)&&((x.jE.Other==0)&&((x.jE.Cell==0)&&((x.jE.Region==0)&&true))))))=g
   cases g with
   |false=>simp only [cond_false,Option.bind_some,Bool.false_and];exact fin _ (λ_=>rfl)
   |true=>
    simp only [cond_true,Bool.true_and]
    refine Ok.bind (aqG hp hf (X:=X) (r:={r with at_:=r.at_+1}) rfl rfl x.Set) (λb hb=> ?_)
    exact fin _ hb
  ·generalize ((x.Set==0)&&((x.jE.Rule==0)&&((x.jE.aD==0)&&((x.jE.Other==0)&&((x.jE.Cell==0)&&((x.jE.Region==0)&&true))))))=g
   cases g with
   |false=>simp only [cond_false,Option.bind_some,Bool.false_and];exact fin _ (λ_=>rfl)
   |true=>
    simp only [cond_true,Bool.true_and]
    refine Ok.bind (am1 hp ih hv {r with at_:=r.at_+1} rfl rfl hf (by show 0<=r.at_+1;omega) (by show r.at_+1<=_;omega) (by show _ - (r.at_+1)<_;have:((n+1:Nat):Int)=(n:Int)+1:=rfl;omega)) (λq hq=> ?_)
    obtain⟨a,z1,z2,z3,z4⟩:=hq
    refine Ok.some ⟨a,z1,?_,z3,z4⟩
    have:r.at_+1<=a:=z2
    omega
theorem aeZ [Fuel] (hp:PV p) (t:eG) (hV:∀x∈t.Tree,I64 x.Var):Ok (Hw p t) (λb=>XV p X->b=false):=by
 have htl:=hp.vc.tl
 unfold Hw
 rw [GN hp.vc,Option.bind_some]
 refine Ok.cond (λ_=>Ok.some (λ_=>rfl)) (λh=> ?_)
 have h:t.Places.length=0/\(t.Tree.length:Int)<=2048:=by simpa using h
 refine Ok.chk (dT (by omega)) ?_
 have e0:(Int.toNat ((p.Config.ah.length:Nat):Int))=p.Config.ah.length:=by omega
 rw [e0,List.length_replicate]
 refine yL (L:=λm x i=>nR p t ((p.Config.ah.length:Nat):Int) m x i) p.Config.ah.length (by omega)
  (λn (l:List aK)=>l.length=p.Config.ah.length∧∀i,i<n->l.getD i default={Home:= -1,aN:= -1}) ⟨List.length_replicate,λi hi=>absurd hi (Nat.not_lt_zero _)⟩ ?_ ?_
 ·rintro m n l hn ⟨hl1,hl2⟩ ih
  show Ok (nR p t ((p.Config.ah.length:Nat):Int) (m+1) l (n:Int)) _
  rw [nR,nS (by omega),dL (by omega) (by omega),bA (by omega) (by omega)]
  simp only [dZ,Int.toNat_natCast]
  refine ih _ ⟨by rw [List.length_set];exact hl1,λi hi=> ?_⟩
  by_cases hc:n=i
  ·subst hc;rw [iC (by omega)]
  ·rw [getD_set_ne hc];exact hl2 i (by omega)
 ·rintro m l ⟨hl1,hl2⟩
  show Ok (nR p t ((p.Config.ah.length:Nat):Int) (m+1) l ((p.Config.ah.length:Nat):Int)) _
  rw [nR,nH (by omega)]
  have hf:PF p l:=⟨hl1,λi hi=>by rw [hl2 i (by omega)];have:=hp.vc.cl;exact⟨by decide,by show(-1:Int)<_;omega,by decide,by show(-1:Int)<_;omega⟩⟩
  refine Ok.bind (alz hp (T:=t.Tree) (X:=X) (by omega) hV fuel _ rfl rfl hf (Int.le_refl 0) (by show(0:Int)<=_;omega) (by show(t.Tree.length:Int) - 0<((fuel:Nat):Int);rw [lZ];omega)) (λq hq=> ?_)
  obtain⟨a,z1,z2,z3,z4⟩:=hq
  refine Ok.some (λhx=> ?_)
  have:=z4 ⟨hx,λi hi=>by
   have hi':i<l.length:=hi
   show((l.getD i default).Home= -1\/_)/\((l.getD i default).aN= -1\/_)
   rw [hl2 i (by omega)];exact⟨.inl rfl,.inl rfl⟩⟩
  rw [this];rfl
end Go.CP
namespace Go.CP
open Go
structure STO (lt:Int->Int->Bool):Prop where
 irr:∀x,lt x x=false
 tr:∀x y z,lt x y=true->lt y z=true->lt x z=true
 tot:∀x y,x≠y->lt x y=true\/lt y x=true
section
variable {lt:Int->Int->Bool}
theorem STO.asym (h:STO lt) {x y:Int} (a:lt x y=true):lt y x=false:=by
 cases hb:lt y x with
 |false=>rfl
 |true=>have:=h.tr x y x a hb;rw [h.irr]at this;cases this
theorem STO.ne (h:STO lt) {x y:Int} (a:lt x y=true):x≠y:=by
 rintro rfl;rw [h.irr]at a;cases a
theorem STO.aoZ (h:STO lt) {x y:Int} (a:lt y x=false):x=y\/lt x y=true:=by
 by_cases e:x=y
 ·exact .inl e
 ·rcases h.tot x y e with q|q
  ·exact .inr q
  ·rw [a]at q;cases q
theorem am2 (h:STO lt) {cmp:Int->Int->Option Int} {xs:List Int} (hl:xs.length<4611686018427387904) (hc:∀x∈xs,∀y∈xs,∃q,cmp x y=some q/\decide (q<0)=lt x y):
  Ok (abX cmp xs) (λl=>l.Pairwise (λx y=>lt y x=false)/\(∀y,y∈l ↔ y∈xs)/\l.length=xs.length):=by
 have hlt:∀x∈xs,∀y∈xs,ltM cmp x y=lt x y:=by
  intro x hx y hy
  obtain⟨q,e,d⟩:=hc x hx y hy
  unfold ltM;rw [e];exact d
 have nt:∀x y z,lt x y=false->lt y z=false->lt x z=false:=by
  intro x y z a b
  rcases h.aoZ a with e|e
  ·subst e;exact b
  ·rcases h.aoZ b with e'|e'
   ·subst e';exact a
   ·exact h.asym (h.tr _ _ _ e' e)
 unfold abX
 rw [Ee hl,Xx,Xx]
 ·refine Ok.some ?_
  have e:xs.mergeSort (λx y=> !ltM cmp y x)=xs.mergeSort (λx y=> !lt y x):=by
   have:=List.map_mergeSort (r:=λx y=> !ltM cmp y x) (s:=λx y=> !lt y x) (f:=λx:Int=>x) (l:=xs) (λa ha b hb=>by rw [hlt b hb a ha])
   simpa using this
  rw [e]
  refine⟨?_,λy=>List.mem_mergeSort,List.length_mergeSort _⟩
  have:=List.pairwise_mergeSort (le:=λx y=> !lt y x) (λa b c h1 h2=>by
   have h1:lt b a=false:=by simpa using h1
   have h2:lt c b=false:=by simpa using h2
   have:=nt c b a h2 h1
   simp [this]) (λa b=>by
   cases q:lt b a with
   |false=>rfl
   |true=>rw [h.asym q];rfl) xs
  exact this.imp (λ{a b} q=>by simpa using q)
 ·unfold alW
  rw [List.all_eq_true]
  intro x hx
  rw [Bool.and_eq_true,List.all_eq_true]
  refine⟨by rw [hlt x hx x hx,h.irr];rfl,λy hy=> ?_⟩
  rw [Bool.and_eq_true,List.all_eq_true]
  refine⟨?_,λz hz=> ?_⟩
  ·rw [hlt x hx y hy,hlt y hy x hx]
   by_cases e:x=y
   ·subst e;simp
   ·rcases h.tot x y e with q|q<;>rw [q]<;>simp
  ·rw [hlt x hx y hy,hlt y hy z hz,hlt x hx z hz]
   have t1:=h.tr x y z
   have t2:=nt x y z
   cases h1:lt x y<;>cases h2:lt y z<;>cases h3:lt x z<;>simp_all
 ·rw [List.all_eq_true]
  intro x hx
  rw [List.all_eq_true]
  intro y hy
  obtain⟨q,e,_⟩:=hc x hx y hy
  rw [e];rfl
end
end Go.CP
namespace Go.CP
open Go
def tn (c:ak) (i:Int):aW:=c.ah.getD i.toNat default
def auh (c:ak) (x y:Int):Bool:=
 bif(tn c x).Priority !=(tn c y).Priority then decide ((tn c x).Priority<(tn c y).Priority)
 else bif(tn c x).Load !=(tn c y).Load then decide ((tn c y).Load<(tn c x).Load)else decide (x<y)
theorem aqH [Fuel] (a b d:Int):JC [a,b,d]=some (if a≠0 then a else if b≠0 then b else d):=by
 obtain⟨m,hm⟩:∃m,fuel=m+4:=⟨fuel - 4,by rw [lZ]⟩
 unfold JC
 rw [hm]
 have l3:(([a,b,d].length:Nat):Int)=3:=rfl
 have w1:w64 (0+1)=1:=by decide
 have w2:w64 (1+1)=2:=by decide
 have w3:w64 (2+1)=3:=by decide
 rw [l3,uX,nS (by decide),dL (by decide) (by rw [l3];decide),w1,uX,nS (by decide),dL (by decide) (by rw [l3];decide),w2,uX,nS (by decide),dL (by decide) (by rw [l3];decide),w3,uX,nH (by decide)]
 show(bif a !=0 then some a else bif b !=0 then some b else bif d !=0 then some d else some 0)=_
 by_cases h1:a=0
 ·subst h1
  by_cases h2:b=0
  ·subst h2
   by_cases h3:d=0
   ·subst h3;rfl
   ·rw [ahC,ahC,aeS h3];rfl
  ·rw [ahC,aeS h2,if_neg (by simp),if_pos h2]
 ·rw [aeS h1,if_pos h1]
theorem ao0 [Fuel] (a b d:Int):decide ((if a≠0 then a else if b≠0 then b else d)<0)=(bif a !=0 then decide (a<0)else bif b !=0 then decide (b<0)else decide (d<0)):=by
 by_cases h1:a=0
 ·subst h1
  by_cases h2:b=0
  ·subst h2;rfl
  ·rw [ahC,aeS h2,if_neg (by simp),if_pos h2]
 ·rw [aeS h1,if_pos h1]
section
variable {c:ak}
def inT (c:ak) (l:List Int) (y:Int):Prop:=0<=y/\y<((c.ah.length:Nat):Int)/\y∈l
structure aun (c:ak) (l out:List Int):Prop where
 so:out.Pairwise (λx y=>auh c x y=true)
 mem:∀y,y∈out ↔ inT c l y
 len:out.length<=1000
end
end Go.CP
namespace Go.CP
open Go
def apv (c:ak) (x y:Int):Bool:=
 bif(tn c x).Priority !=(tn c y).Priority then decide ((tn c y).Priority<(tn c x).Priority)
 else bif(tn c x).Load !=(tn c y).Load then decide ((tn c y).Load<(tn c x).Load)else decide (x<y)
theorem YG [Fuel] (c:ak) (x y:Int):apv c x y=true ↔ (tn c y).Priority<(tn c x).Priority\/((tn c x).Priority=(tn c y).Priority/\((tn c y).Load<(tn c x).Load\/((tn c x).Load=(tn c y).Load/\x<y))):=by
 unfold apv
 generalize (tn c x).Priority=a
 generalize (tn c y).Priority=b
 generalize (tn c x).Load=d
 generalize (tn c y).Load=e
 by_cases h1:a=b
 ·subst h1
  by_cases h2:d=e
  ·subst h2;simp
  ·simp [h2]
 ·simp [h1]
theorem ahJ [Fuel] (c:ak):STO (apv c):=by
 refine⟨λx=> ?_,λx y z h1 h2=> ?_,λx y hne=> ?_⟩
 ·rw [Bool.eq_false_iff];intro h;rw [YG]at h;omega
 ·rw [YG]at h1 h2⊢;omega
 ·rw [YG,YG];omega
section
variable {c:ak}
structure aui (c:ak) (out:List Int):Prop where
 so:out.Pairwise (λx y=>apv c x y=true)
 mem:∀y,y∈out ↔ 0<=y/\y<((c.ah.length:Nat):Int)
 len:out.length=c.ah.length
theorem ao1 [Fuel] {x y:Int} (hx:0<=x/\x<((c.ah.length:Nat):Int)) (hy:0<=y/\y<((c.ah.length:Nat):Int)):∃q,sG x y c=some q/\decide (q<0)=apv c x y:=by
 unfold sG
 simp only [dL hx.1 hx.2,dL hy.1 hy.2,aiQ,Option.bind_some,aqH]
 refine⟨_,rfl,?_⟩
 rw [ao0,agr,agr,agr,alp,alp]
 unfold apv
 have sw:∀a b:Int,(a !=b)=(b !=a):=by
  intro a b
  by_cases e:a=b
  ·rw [e]
  ·have e':b≠a:=λq=>e q.symm
   rw [(bne_iff_ne).2 e,(bne_iff_ne).2 e']
 rw [sw (tn c x).Priority,sw (tn c x).Load]
 rfl
theorem alA [Fuel] {lt:Int->Int->Bool} (h:STO lt) {xs:List Int} (hp:xs.Pairwise (λx y=>lt y x=false)) (hn:xs.Nodup):xs.Pairwise (λx y=>lt x y=true):=by
 refine(hp.and hn).imp (λ{a b} q=> ?_)
 rcases h.aoZ q.1 with e|e
 ·exact absurd e q.2
 ·exact e
theorem aaH [Fuel] (hc:VC c):Ok (Lh c) (aui c):=by
 have hct:=hc.tl
 unfold Lh
 rw [Ee (by omega)]
 refine yL (L:=λm x i=>nP c ((c.ah.length:Nat):Int) m x i) c.ah.length (by omega) (λk x=>x.length=k/\x.Nodup∧∀y,y∈x ↔ (0<=y/\y<(k:Int))) ⟨rfl,List.nodup_nil,λy=>⟨λh=>absurd h List.not_mem_nil,λ⟨a,b⟩=>by omega⟩⟩ ?_ ?_
 ·rintro m k x hk ⟨h1,h2,h3⟩ ih
  show Ok (nP c _ (m+1) x k) _
  rw [nP,nS (by omega),Ee (by simp only [List.length_singleton];unfold room;omega),bA (by omega) (by omega)]
  refine ih _ ⟨by simp [h1],?_,λy=> ?_⟩
  ·rw [List.nodup_append]
   refine⟨h2,by simp,λa ha b hb e=> ?_⟩
   rw [List.mem_singleton]at hb
   have:=(h3 a).1 ha
   omega
  ·rw [List.mem_append,List.mem_singleton,h3];omega
 ·rintro m x ⟨h1,h2,h3⟩
  show Ok (nP c _ (m+1) x _) _
  rw [nP,nH (by omega)]
  unfold Cj
  obtain⟨s,es,p1,p2,p3⟩:=am2 (ahJ c) (cmp:=λx y=>sG x y c) (xs:=x) (by omega) (λa ha b hb=>ao1 ((h3 a).1 ha) ((h3 b).1 hb))
  have hperm:s.Nodup:=by
   have hs:abX (λx y=>sG x y c) x=some s:=es
   obtain⟨_,_,_,rfl⟩:=aa8 hs
   exact(List.mergeSort_perm _ _).nodup_iff.2 h2
  rw [es]
  exact Ok.some ⟨alA (ahJ c) p1 hperm,λy=>by rw [p2,h3],by rw [p3,h1]⟩
end
end Go.CP
namespace Go.CP
open Go
variable {p:aF} {V:List Int}
theorem aqI [Fuel] (hp:PV p):Ok (R6 p) (λv=>v.length<=2*p.Config.ah.length∧∀x∈v,0<=x/\x<2*(p.Config.ah.length:Int)):=by
 have htl:=hp.vc.tl
 unfold R6
 rw [GN hp.vc,Option.bind_some]
 simp only [show((0:Int) !=0)=false from rfl,cond_false]
 refine Ok.bind (aaH hp.vc) (λo ho=> ?_)
 have hol:=ho.len
 rw [show(o.length:Int)=((p.Config.ah.length:Nat):Int)by omega]
 refine yL (L:=λm x i=>pI p o ((p.Config.ah.length:Nat):Int) m x i) p.Config.ah.length (by omega)
  (λn v=>v.length<=2*n∧∀x∈v,0<=x/\x<2*(p.Config.ah.length:Int)) ⟨Nat.le_refl _,λx hx=>by cases hx⟩ ?_ ?_
 ·rintro m n v hn ⟨hv1,hv2⟩ ih
  show Ok (pI p o ((p.Config.ah.length:Nat):Int) (m+1) v (n:Int)) _
  rw [pI,nS (by omega),dL (by omega) (by omega)]
  simp only [Int.toNat_natCast]
  have ht:=(ho.mem _).1 (iG (show n<o.length by omega))
  have e1:w64 (2*o.getD n default)=2*o.getD n default:=bA (by omega) (by omega)
  have e2:w64 (2*o.getD n default+1)=2*o.getD n default+1:=bA (by omega) (by omega)
  refine Ok.chk (dT (by show(v.length+1)*8<=140737488355328;omega)) ?_
  refine Ok.bind (acX hp (o.getD n default)) (λb _=> ?_)
  refine Ok.cond (λ_=> ?_) (λ_=> ?_)
  ·refine Ok.chk (dT (by show((v++ [w64 (2*o.getD n default)]).length+1)*8<=140737488355328;rw [List.length_append];show(v.length+1+1)*8<=_;omega)) ?_
   unfold DU
   rw [bA (x:=(n:Int)+1) (by omega) (by omega),e1,e2]
   refine ih _ ⟨by simp;omega,λx hx=> ?_⟩
   simp only [List.mem_append,List.mem_singleton]at hx
   rcases hx with(hx|rfl)|rfl
   ·exact hv2 x hx
   ·omega
   ·omega
  ·unfold DU
   rw [bA (x:=(n:Int)+1) (by omega) (by omega),e1]
   refine ih _ ⟨by simp;omega,λx hx=> ?_⟩
   simp only [List.mem_append,List.mem_singleton]at hx
   rcases hx with hx|rfl
   ·exact hv2 x hx
   ·omega
 ·rintro m v ⟨hv1,hv2⟩
  show Ok (pI p o ((p.Config.ah.length:Nat):Int) (m+1) v ((p.Config.ah.length:Nat):Int)) _
  rw [pI,nH (by omega)]
  exact Ok.some ⟨hv1,hv2⟩
structure SS (p:aF) (V:List Int) (s:bB):Prop where
 pr:s.problem=p
 vr:s.vars=V
 f:PF p s.places
 c0:0<=s.count
 c1:s.count<=2048
 t:(s.tree.length:Int)<=s.count
 i:∀x∈s.tree,I64 x.Var
def aiV (p:aF) (V:List Int) (q:Bool×Int×bB):Prop:=(q.2.1=0/\SS p V q.2.2)\/q.2.1=2
theorem asx [Fuel] (hp:PV p) {rec:bB->Int->Option (Bool×Int×bB)} {next:Int} (hn:w64 (next+1)=next+1) (hrec:∀s,SS p V s->Ok (rec s (next+1)) (aiV p V)) {k:Nat} (hk:k<p.Config.ah.length) {s:bB} (hs:SS p V s):
  Ok (gT rec next k ((p.Config.Cells.length:Nat):Int) fuel s 0) (aiV p V):=by
 have hcl:=hp.vc.cl
 refine yL (L:=λm x i=>gT rec next k ((p.Config.Cells.length:Nat):Int) m x i) p.Config.Cells.length (by omega) (λ_ s=>SS p V s) hs ?_ ?_
 ·rintro m n s hlt hs ih
  show Ok (gT rec next k ((p.Config.Cells.length:Nat):Int) (m+1) s (n:Int)) _
  have hk':k<s.places.length:=by rw [hs.f.len];exact hk
  have hx:=hs.f.ok k hk'
  rw [gT,nS (by omega)]
  refine Ok.chk (dT (by omega)) ?_
  rw [hs.pr,Sl hp (by omega) (by omega),hn]
  simp only [show((1:Int)==0)=false from rfl,cond_false,dZ]
  refine Ok.bind (hrec _ ⟨rfl,hs.vr,hs.f.set hk' ⟨by show -1<=(n:Int);omega,by show(n:Int)<_;omega,hx.2.2⟩,hs.c0,hs.c1,hs.t,hs.i⟩) (λq hq=> ?_)
  refine Ok.cond (λ_=>Ok.some hq) (λh=> ?_)
  unfold vk
  rw [bA (by omega) (by omega)]
  rcases hq with hq|hq
  ·exact ih _ hq.2
  ·rw [hq]at h;simp at h
 ·rintro m s hs
  show Ok (gT rec next k ((p.Config.Cells.length:Nat):Int) (m+1) s ((p.Config.Cells.length:Nat):Int)) _
  have hk':k<s.places.length:=by rw [hs.f.len];exact hk
  have hx:=hs.f.ok k hk'
  rw [gT,nH (by omega)]
  exact Ok.some (.inl ⟨rfl,hs.pr,hs.vr,hs.f.set hk' ⟨Int.le_refl _,by show(-1:Int)<_;omega,hx.2.2⟩,hs.c0,hs.c1,hs.t,hs.i⟩)
theorem asy [Fuel] (hp:PV p) {rec:bB->Int->Option (Bool×Int×bB)} {next:Int} (hn:w64 (next+1)=next+1) (hrec:∀s,SS p V s->Ok (rec s (next+1)) (aiV p V)) {k:Nat} (hk:k<p.Config.ah.length) {s:bB} (hs:SS p V s):
  Ok (gQ rec next k ((p.Config.Cells.length:Nat):Int) fuel s 0) (aiV p V):=by
 have hcl:=hp.vc.cl
 refine yL (L:=λm x i=>gQ rec next k ((p.Config.Cells.length:Nat):Int) m x i) p.Config.Cells.length (by omega) (λ_ s=>SS p V s) hs ?_ ?_
 ·rintro m n s hlt hs ih
  show Ok (gQ rec next k ((p.Config.Cells.length:Nat):Int) (m+1) s (n:Int)) _
  have hk':k<s.places.length:=by rw [hs.f.len];exact hk
  have hx:=hs.f.ok k hk'
  rw [gQ,nS (by omega)]
  refine Ok.chk (dT (by omega)) ?_
  rw [hs.pr,Sl hp (by omega) (by omega),hn]
  simp only [show((1:Int)==0)=false from rfl,cond_false,dZ]
  refine Ok.bind (hrec _ ⟨rfl,hs.vr,hs.f.set hk' ⟨hx.1,hx.2.1,by show -1<=(n:Int);omega,by show(n:Int)<_;omega⟩,hs.c0,hs.c1,hs.t,hs.i⟩) (λq hq=> ?_)
  refine Ok.cond (λ_=>Ok.some hq) (λh=> ?_)
  unfold vg
  rw [bA (by omega) (by omega)]
  rcases hq with hq|hq
  ·exact ih _ hq.2
  ·rw [hq]at h;simp at h
 ·rintro m s hs
  show Ok (gQ rec next k ((p.Config.Cells.length:Nat):Int) (m+1) s ((p.Config.Cells.length:Nat):Int)) _
  have hk':k<s.places.length:=by rw [hs.f.len];exact hk
  have hx:=hs.f.ok k hk'
  rw [gQ,nH (by omega)]
  exact Ok.some (.inl ⟨rfl,hs.pr,hs.vr,hs.f.set hk' ⟨hx.1,hx.2.1,Int.le_refl _,by show(-1:Int)<_;omega⟩,hs.c0,hs.c1,hs.t,hs.i⟩)
theorem aqJ [Fuel] (hp:PV p) (hV1:V.length<=100) (hV2:∀x∈V,0<=x/\x<2*(p.Config.ah.length:Int)):∀(n:Nat) (next:Nat) (s:bB),SS p V s->next<=V.length->V.length - next<n->Ok (lW n s (next:Int)) (aiV p V)
 |0,_,_,_,_,h=>by omega
 | n+1,next,s,hs,h1,h2=>by
  have ih:=aqJ hp hV1 hV2 n
  have htl:=hp.vc.tl
  have hc0:=hs.c0
  have hc1:=hs.c1
  have htr:=hs.t
  show Ok (DZ (lW n) s (next:Int)) _
  unfold DZ
  have hw:w64 (s.count+1)=s.count+1:=bA (by omega) (by omega)
  rw [hw]
  refine Ok.cond (λ_=>Ok.some (.inr rfl)) (λh=> ?_)
  have h:s.count+1<=2048:=by simpa using h
  have grow:∀x:dQ,I64 x.Var->SS p V {s with tree:=s.tree++ [x],count:=s.count+1}:=λx hx=>
   ⟨hs.pr,hs.vr,hs.f,by show 0<=s.count+1;omega,h,by show((s.tree++ [x]).length:Int)<=s.count+1;rw [List.length_append];show((s.tree.length+1:Nat):Int)<=_;omega,λy hy=>by
    have hy:y∈s.tree++ [x]:=hy
    rw [List.mem_append,List.mem_singleton]at hy
    rcases hy with hy|rfl
    ·exact hs.i y hy
    ·exact hx⟩
  have z64:I64 0:=by unfold I64;omega
  have am3:∀x:dQ,(s.tree.length+ [x].length)*64<=room:=λx=>by show(s.tree.length+1)*64<=140737488355328;omega
  rw [hs.pr]
  refine Ok.bind (aeV hp hs.f (X:= [])) (λd hd=> ?_)
  refine Ok.cond (λhpos=> ?_) (λ_=> ?_)
  ·have hpos:=of_decide_eq_true hpos
   rw [dL (Int.le_refl _) hpos]
   refine Ok.chk (dT (am3 _)) ?_
   have:=grow {Kind:=2,Var:=0,Set:=0,jE:=d.getD (Int.toNat 0) default} z64
   rw [hs.pr]at this
   exact Ok.some (.inl ⟨rfl,this⟩)
  refine Ok.bind (aiT hp hs.f) (λe _=> ?_)
  refine Ok.cond (λ_=> ?_) (λ_=> ?_)
  ·refine Ok.chk (dT (am3 _)) ?_
   have:=grow {Kind:=3,Var:=0,Set:=e.1,jE:={Rule:=0,aD:=0,Other:=0,Cell:=0,Region:=0}} z64
   rw [hs.pr]at this
   exact Ok.some (.inl ⟨rfl,this⟩)
  refine Ok.cond (λ_=> ?_) (λhne=> ?_)
  ·exact Ok.some (.inl ⟨rfl,rfl,hs.vr,hs.f,by show 0<=s.count+1;omega,h,by show(s.tree.length:Int)<=s.count+1;omega,hs.i⟩)
  rw [hs.vr]at hne⊢
  have hne:¬((next:Int)=(V.length:Int)):=by simpa using hne
  have hlt:next<V.length:=by omega
  rw [dL (by omega) (by omega)]
  simp only [Int.toNat_natCast]
  have hv:=hV2 _ (iG hlt)
  generalize V.getD next default=v at hv
  have hlen:=hs.f.len
  have hd2:Int.tdiv v 2=v / 2:=Int.tdiv_eq_ediv_of_nonneg hv.1
  have hw2:w64 (Int.tdiv v 2)=v / 2:=by rw [hd2];exact bA (by omega) (by omega)
  rw [hw2,dL (by omega) (by omega)]
  have hnx:w64 ((next:Int)+1)=(next:Int)+1:=bA (by omega) (by omega)
  have hrec:∀s,SS p V s->Ok (lW n s ((next:Int)+1)) (aiV p V):=λs' hs'=>by
   have:=ih (next+1) s' hs' (by omega) (by omega)
   rwa [Int.natCast_succ]at this
  have g:=grow {Kind:=1,Var:=v,Set:=0,jE:={Rule:=0,aD:=0,Other:=0,Cell:=0,Region:=0}} (by show I64 v;unfold I64;omega)
  rw [hs.pr,hs.vr]at g
  refine Ok.cond (λ_=> ?_) (λ_=> ?_)
  ·rw [dL (by omega) (by omega)]
   exact Ok.chk (dT (am3 _)) (asy hp hnx hrec (by omega) g)
  ·exact Ok.chk (dT (am3 _)) (asx hp hnx hrec (by omega) g)
theorem aqK [Fuel] (hp:PV p):Ok (R8 p) (λq=>(q.2=0\/q.2=2)∧∀x∈q.1.Tree,I64 x.Var):=by
 have htl:=hp.vc.tl
 have hcl:=hp.vc.cl
 unfold R8
 rw [GN hp.vc,Option.bind_some]
 simp only [show((0:Int) !=0)=false from rfl,cond_false]
 refine Ok.bind (aqI hp) (λV hV=> ?_)
 refine Ok.chk (dT (by omega)) ?_
 have e0:(Int.toNat ((p.Config.ah.length:Nat):Int))=p.Config.ah.length:=by omega
 rw [e0,List.length_replicate]
 refine yL (L:=λm x i=>rT ((p.Config.ah.length:Nat):Int) m {Places:=([]:List aK),Tree:=([]:List dQ):eG} x i) p.Config.ah.length (by omega)
  (λn (s:bB)=>s.problem=p/\s.vars=V/\s.tree= []/\s.count=0/\s.places.length=p.Config.ah.length∧∀i,i<n->s.places.getD i default={Home:= -1,aN:= -1}) ⟨rfl,rfl,rfl,rfl,List.length_replicate,λi hi=>absurd hi (Nat.not_lt_zero _)⟩ ?_ ?_
 ·rintro m n s hn ⟨h1,h2,h3,h4,hl1,hl2⟩ ih
  show Ok (rT ((p.Config.ah.length:Nat):Int) (m+1) _ s (n:Int)) _
  rw [rT,nS (by omega),dL (by omega) (by omega),bA (by omega) (by omega)]
  simp only [dZ,Int.toNat_natCast]
  refine ih _ ⟨h1,h2,h3,h4,by rw [List.length_set];exact hl1,λi hi=> ?_⟩
  by_cases hc:n=i
  ·subst hc;rw [iC (by omega)]
  ·rw [getD_set_ne hc];exact hl2 i (by omega)
 ·rintro m s ⟨h1,h2,h3,h4,hl1,hl2⟩
  show Ok (rT ((p.Config.ah.length:Nat):Int) (m+1) _ s ((p.Config.ah.length:Nat):Int)) _
  rw [rT,nH (by omega)]
  have hf:PF p s.places:=⟨hl1,λi hi=>by rw [hl2 i (by omega)];exact⟨by decide,by show(-1:Int)<_;omega,by decide,by show(-1:Int)<_;omega⟩⟩
  have:=aqJ hp (V:=V) (by omega) hV.2 fuel 0 s ⟨h1,h2,hf,by omega,by omega,by rw [h3,h4];exact Int.le_refl _,by rw [h3];intro x hx;cases hx⟩ (by omega) (by rw [lZ];omega)
  refine Ok.bind this (λq hq=> ?_)
  rcases hq with⟨e,hq⟩|e
  ·rw [e]
   simp only [show((0:Int) !=0)=false from rfl,cond_false]
   refine Ok.cond (λ_=>Ok.some ⟨.inl rfl,λx hx=>by cases hx⟩) (λ_=>Ok.some ⟨.inl rfl,hq.i⟩)
  ·rw [e]
   exact Ok.some ⟨.inr rfl,λx hx=>by cases hx⟩
end Go.CP
namespace Go.CP
open Go Go.RowKit
theorem aaI [F:Fuel]:Va=some true:=by
 obtain⟨n,e,d⟩:=F
 subst e
 kernel_rfl
end Go.CP
namespace Go.CP
open Go
variable {c:ak} {s:aB} {p:aF}
theorem VC.tenants [Fuel] (h:VC c) {ts:List aW} (hl:ts.length=c.ah.length) (ht:∀x∈ts,VT c.bK x):VC {c with ah:=ts}:=
 ⟨h.reg,h.zl,h.z,h.cl,h.cel,by show ts.length<=32;rw [hl];exact h.tl,ht,h.vl,h.v,h.v0,h.rl,h.r,h.ol,h.o,h.blast,h.acJ,h.bake,h.ro⟩
theorem aiW [Fuel] {n:Nat} (h:n<=16):w64 ((Dk .i64 1 (IntKind.u64.wrap (n:Int))) - 1)=2^n - 1/\(0:Int)<=IntKind.u64.wrap (n:Int):=by
 have:∀n:Fin 17,w64 ((Dk .i64 1 (IntKind.u64.wrap (n.1:Int))) - 1)=2^n.1 - 1/\(0:Int)<=IntKind.u64.wrap (n.1:Int):=by decide+kernel
 exact this ⟨n,by omega⟩
def am4 (t:ay):aK:={Home:=t.Home,aN:=t.aN}
theorem OA [Fuel] (ts:List ay) {k:Nat} (hk:k<ts.length):(ts.map am4).getD k default=am4 (ts.getD k default):=by
 simp [List.getD_eq_getElem?_getD,hk]
def Full (p:aF) (s:aB) (n:Nat):Prop:=∀i,i<n->(s.ah.getD i default).Placed=true/\(s.ah.getD i default).Ap=false/\(0<=(s.ah.getD i default).aN\/pW p (i:Int)=some true)
theorem anQ [Fuel] (hc:VC c) (hI:Inv c s) {j:Nat} (hf:∀i,i<s.ah.length->(s.ah.getD i default).Placed=true/\(s.ah.getD i default).Ap=false):∀n,n<=c.ah.length->bkN c (s.ah.map am4) j n<=acP c s.ah j n
 |0,_=>Int.le_refl _
 |n+1,h=>by
  have ih:=anQ hc hI hf (j:=j) n (by omega)
  have htl:=hI.vs.tl
  have ht:=hc.t _ (iG (show n<c.ah.length by omega))
  have h3:=ht.load
  have h4:=ht.shadow
  obtain⟨f1,f2⟩:=hf n (by omega)
  rw [bkN,acP,OA _ (by omega)]
  unfold dl hit
  rw [show(am4 (s.ah.getD n default)).Home=(s.ah.getD n default).Home from rfl,show(am4 (s.ah.getD n default)).aN=(s.ah.getD n default).aN from rfl,if_pos f1,f2]
  simp only [Bool.false_eq_true,if_false]
  have nn:∀(a b x:Int),0<=x->0<=(if a=b then x else 0):=by intro a b x hx;split<;>omega
  have n1:=nn (s.ah.getD n default).Target (j:Int) (c.ah.getD n default).Load (by omega)
  have n2:=nn (s.ah.getD n default).Next (j:Int) (c.ah.getD n default).pR (by omega)
  omega
theorem ao2 [Fuel] (hp:PV p) (hI:Inv p.Config s) (hf:Full p s s.ah.length):XV p (s.ah.map am4):=by
 have htl:=hI.vs.tl
 have hT:∀i,i<s.ah.length->TS p.Config (s.ah.getD i default):=λi hi=>hI.vs.t _ (iG hi)
 have hH:∀i,i<s.ah.length->0<=(s.ah.getD i default).Home:=λi hi=>(hT i hi).pl (hf i hi).1
 have e:∀i,i<(s.ah.map am4).length->i<s.ah.length:=λi hi=>by rwa [List.length_map]at hi
 refine⟨by rw [List.length_map];exact htl,λi hi=> ?_,λi hi=> ?_,λi hi=> ?_,λi hi=> ?_,λi hi=> ?_,λj hj=> ?_,λi hi=> ?_⟩
 ·rw [OA _ (e i hi)];exact⟨hH i (e i hi),(hT i (e i hi)).home.2⟩
 ·rw [OA _ (e i hi)];exact(hT i (e i hi)).sb
 ·rw [OA _ (e i hi)];exact(hI.t i (e i hi)).mh (hH i (e i hi))
 ·rw [OA _ (e i hi)]
  intro hs
  have hs:(s.ah.getD i default).aN≠-1:=hs
  have:=(hT i (e i hi)).sb
  exact(hI.t i (e i hi)).ms (show 0<=(s.ah.getD i default).aN by omega)
 ·rw [OA _ (e i hi)]
  intro hs
  have hs:(s.ah.getD i default).aN≠-1:=hs
  have:=(hT i (e i hi)).sb
  exact ak8 (hH i (e i hi)) (show 0<=(s.ah.getD i default).aN by omega) (hI.t i (e i hi)).hs
 ·have:=YD.1 hI.ov j hj
  refine Int.le_trans (anQ hp.vc hI (λi hi=>⟨(hf i hi).1,(hf i hi).2.1⟩) _ (Nat.le_refl _)) ?_
  rw [<-htl];exact this
 ·rw [OA _ (e i hi)]
  intro hs
  have hs:(s.ah.getD i default).aN= -1:=hs
  rcases(hf i (e i hi)).2.2 with h|h
  ·omega
  ·exact h
theorem ahK [Fuel]:∀(l:List aA) (s:aB) (i:Nat),okS c s l->okS c s (l.take i)
 | [],s,i,h=>by rw [List.take_nil];exact h
 |a::l,s,0,h=>trivial
 |a::l,s,i+1,h=>⟨h.1,ahK l _ i h.2⟩
theorem alB [Fuel] (hc:VC c) {l:List aA} (hl:l.length<=1000):∀(m k:Nat) (s:aB),Inv c s->okS c s (l.drop k)->k<=l.length->l.length - k<m→
  Ok (DT c l l ((l.length:Nat):Int) m s (k:Int)) (λq=>Inv c q.1/\q.2.2=0):=by
 intro m
 induction m with
 |zero=>intro k s _ _ _ h;exact absurd h (Nat.not_lt_zero _)
 | succ m ih=>
  intro k s hI ho hk hm
  rw [DT]
  by_cases hlt:k<l.length
  ·have ed:l.drop k=l.getD k default::l.drop (k+1):=by rw [List.drop_eq_getElem_cons hlt];simp [List.getD_eq_getElem?_getD,hlt]
   rw [ed]at ho
   have hz0:(qA c s (l.getD k default)).2=0:=ho.1
   have hb:((qA c s (l.getD k default)).2 !=0)=false:=by rw [hz0];rfl
   rw [nS (by omega),dL (by omega) (by omega),Int.toNat_natCast,agq hc hI,Option.bind_some,bA (by omega) (by omega),hb,cond_false]
   have:=ih (k+1) _ (ahy hc hI hz0) ho.2 (by omega) (by omega)
   rwa [Int.natCast_succ]at this
  ·rw [nH (by omega)]
   exact Ok.some ⟨hI,rfl⟩
theorem ao3 [Fuel] (hc:VC c) {l:List aA} (hl:l.length<=1000) (h:okS c (newS c) l):Ok (MP c l) (λq=>Inv c q.1/\q.2.2=0):=by
 unfold MP
 rw [alo hc]
 exact alB hc hl fuel 0 (newS c) (agj hc) h (Nat.zero_le _) (by rw [lZ];omega)
theorem ZP [Fuel] {l more:List Int} {t:eG} (hl:∀x∈l,I64 x) (hm:∀x∈more,I64 x) (ht:∀x∈t.Tree,I64 x.Var):Md l more t=some true:=by
 apply ahx
 unfold Md RZ
 rw [aaI]
 simp only [Option.bind_some,Bool.not_true,Bool.not_false,cond_true,Bool.false_or]
 by_cases g1:((l.length:Nat):Int)<=200
 case neg=>rw [decide_eq_false g1];exact Ok.some rfl
 rw [decide_eq_true g1]
 simp only [Option.bind_some,Bool.not_true,Bool.not_false,cond_true,Bool.false_or]
 by_cases g2:((more.length:Nat):Int)<=200
 case neg=>rw [decide_eq_false g2];exact Ok.some rfl
 rw [decide_eq_true g2]
 simp only [Bool.not_true,Bool.false_or]
 refine Ok.cond (λ_=>Ok.some rfl) (λ_=> ?_)
 refine Ok.bind (akU ⟨hl,by omega⟩) (λc0 hc0=> ?_)
 have auo:=hc0.tl
 refine Ok.chk (dT (by show(0+c0.ah.length)*56<=140737488355328;omega)) ?_
 rw [List.nil_append]
 show Ok (jM more t fuel c0 0) _
 refine yL (L:=λm x i=>jM more t m x i) c0.ah.length (by omega)
  (λn (x:ak)=>VC x/\x.ah.length=c0.ah.length∧∀i,i<n->(x.ah.getD i default).sO=0/\(x.ah.getD i default).LM=false) ⟨hc0,rfl,λi hi=>absurd hi (Nat.not_lt_zero _)⟩ ?_ ?_
 ·rintro m n x hn ⟨hx,hxl,hg⟩ ih
  show Ok (jM more t (m+1) x (n:Int)) _
  have hn':n<x.ah.length:=by omega
  rw [jM,nS (by omega),dL (by omega) (by omega)]
  simp only [dZ,Int.toNat_natCast]
  rw [dL (by omega) (by rw [List.length_set];omega),bA (by omega) (by omega)]
  simp only [dZ,Int.toNat_natCast]
  rw [iC hn',List.set_set]
  have hv:=hx.t _ (iG hn')
  refine ih _ ⟨hx.tenants (by rw [List.length_set]) (λy hy=> ?_),by show(x.ah.set _ _).length=_;rw [List.length_set];exact hxl,λi hi=> ?_⟩
  ·rcases List.mem_or_eq_of_mem_set hy with h|h
   ·exact hx.t _ h
   ·subst h;exact⟨hv.load,hv.shadow,hv.prio,hv.lag,hv.allowed,by show(0:Int)<=0/\(0:Int)<=32;omega⟩
  ·show((x.ah.set _ _).getD i default).sO=0/\((x.ah.set _ _).getD i default).LM=false
   by_cases h:n=i
   ·subst h;rw [iC hn'];exact⟨rfl,rfl⟩
   ·rw [getD_set_ne h];exact hg i (by omega)
 ·rintro m x ⟨hx,hxl,hg⟩
  show Ok (jM more t (m+1) x ((c0.ah.length:Nat):Int)) _
  have hcl:=hx.cl
  obtain⟨k1,k2⟩:=aiW hcl.2
  rw [jM,nH (by omega)]
  refine Ok.chk (dT k2) ?_
  rw [k1]
  have hp:PV {Config:=x,Cells:=2^x.Cells.length - 1,Gd:=false}:=⟨hx,rfl,rfl,λy hy=>by
   obtain⟨i,hi,rfl⟩:=List.getElem_of_mem hy
   have:=hg i (by rw [<-hxl];exact hi)
   rw [List.getD_eq_getElem?_getD,List.getElem?_eq_getElem hi]at this
   exact this⟩
  generalize hP:({Config:=x,Cells:=2^x.Cells.length - 1,Gd:=false}:aF)=P at hp⊢
  have hPc:P.Config=x:=by rw [<-hP]
  refine Ok.bind (aqK hp) (λu hu=> ?_)
  refine Ok.cond (λh=>Ok.some ?_) (λ_=> ?_)
  ·have h:u.2≠0:=by simpa using h
   rcases hu.1 with h1|h1
   ·exact absurd h1 h
   ·rw [h1];rfl
  have auj:Ok (Vg more x 40) (λr=>∃s',RL x s' r 40):=aoH hx (l:=more) ⟨hm,by omega⟩ (n:=40) (by omega)
  refine Ok.bind auj (λr hr=> ?_)
  obtain⟨s',hr⟩:=hr
  have hrl:=hr.len
  refine yL (L:=λm (_:Unit) i=>fZ t x r u.1 m P i) (x:=()) (r.length+1) (by omega) (λ_ _=>True) trivial ?_ ?_
  ·rintro m1 n _ hn _ ih
   show Ok (fZ t x r u.1 (m1+1) P (n:Int)) _
   rw [fZ,nS (by omega)]
   have eta:({P with Config:={P.Config with ah:=x.ah}}:aF)=P:=by subst hPc;rfl
   unfold FY
   rw [eta,Int.toNat_natCast]
   refine Ok.chk (dT ⟨by omega,by omega⟩) ?_
   refine Ok.bind (ao3 hx (by rw [List.length_take];omega) (ahK r _ n hr.ok)) (λq hq=> ?_)
   obtain⟨hI,hz⟩:=hq
   have htl:=hI.vs.tl
   refine Ok.cond (λh=> ?_) (λ_=> ?_)
   ·rw [hz,htl]at h;simp at h
   have aup:=hx.tl
   refine yL (L:=λm' b i=>jL (fZ t x r u.1 m1) t x u.1 (n:Int) q.1 m' P b i) q.1.ah.length (by omega) (λk b=>b=true->Full P q.1 k) (λ_ i hi=>absurd hi (Nat.not_lt_zero _)) ?_ ?_
   ·rintro m2 k b hk hb ih2
    show Ok (jL (fZ t x r u.1 m1) t x u.1 (n:Int) q.1 (m2+1) P b (k:Int)) _
    rw [jL,nS (by omega),dL (by omega) (by omega),eta,bA (by omega) (by omega)]
    simp only [Int.toNat_natCast]
    obtain⟨bs,ebs,_⟩:=acX hp (k:Int)
    have step:∀v:Bool,(((b&&(q.1.ah.getD k default).Placed)&&(!(q.1.ah.getD k default).Ap))=true->(!(decide (0<=(q.1.ah.getD k default).aN)))=true->v=bs)→
      Ok (jL (fZ t x r u.1 m1) t x u.1 (n:Int) q.1 m2 P (((b&&(q.1.ah.getD k default).Placed)&&(!(q.1.ah.getD k default).Ap))&&((decide (0<=(q.1.ah.getD k default).aN))||v)) ((k:Int)+1)) (λr=>r=true):=by
     intro v hv
     refine ih2 _ (λh=> ?_)
     intro i hi
     have h:((b=true/\(q.1.ah.getD k default).Placed=true)/\(q.1.ah.getD k default).Ap=false)/\(0<=(q.1.ah.getD k default).aN\/v=true):=by simpa using h
     by_cases hik:i=k
     ·subst hik
      refine⟨h.1.1.2,h.1.2,?_⟩
      by_cases hs:0<=(q.1.ah.getD i default).aN
      ·exact .inl hs
      ·rcases h.2 with h2|h2
       ·exact absurd h2 hs
       ·refine .inr ?_
        have:=hv (by rw [h.1.1.1,h.1.1.2,h.1.2];rfl) (by rw [decide_eq_false hs];rfl)
        rw [ebs,<-this,h2]
     ·exact hb h.1.1.1 i (by omega)
    cases hg1:(((b&&(q.1.ah.getD k default).Placed)&&(!(q.1.ah.getD k default).Ap))&&(!(decide (0<=(q.1.ah.getD k default).aN))))with
    |true=>
     rw [cond_true,ebs,Option.bind_some]
     exact step bs (λ_ _=>rfl)
    |false=>
     rw [cond_false,Option.bind_some]
     exact step _ (λa1 a2=>by rw [a1,a2]at hg1;cases hg1)
   ·rintro m2 b hb
    show Ok (jL (fZ t x r u.1 m1) t x u.1 (n:Int) q.1 (m2+1) P b ((q.1.ah.length:Nat):Int)) _
    rw [jL,nH (by omega),eta,bA (by omega) (by omega)]
    have next:Ok (fZ t x r u.1 m1 P ((n:Int)+1)) (λr=>r=true):=ih () trivial
    cases b with
    |false=>
     simp only [cond_false,Option.bind_some,Bool.false_and]
     exact next
    |true=>
     have hX:=ao2 hp (s:=q.1) (by rw [hPc];exact hI) (hb rfl)
     obtain⟨b1,e1,f1⟩:=aeZ hp (X:=q.1.ah.map am4) t ht
     obtain⟨b2,e2,f2⟩:=aeZ hp (X:=q.1.ah.map am4) u.1 hu.2
     rw [f1 hX]at e1
     rw [f2 hX]at e2
     simp only [cond_true,e1,e2,Option.bind_some,Bool.not_false,Bool.true_and,Bool.or_self,cond_false]
     exact next
  ·rintro m1 _ _
   show Ok (fZ t x r u.1 (m1+1) P ((r.length+1:Nat):Int)) _
   rw [fZ,nH (by omega)]
   exact Ok.some rfl
end Go.CP
namespace Go.AM
open Go Go.RowKit Go.CP
def aaJ (w:World) (ys:List CV) (cs:List Value):Prop:=
 cs.length=ys.length∧∀(j:Nat) y v,ys[j]? =some y->cs[j]? =some v->OZ w (λ_=>False) y v/\v.oneCell'=true
theorem gG [Fuel] {α:Type} {l:List α} {n:Nat} (h:l.length=n+1):∃a t,l=a::t/\t.length=n:=by
 cases l with
 |nil=>simp at h
 |cons a t=>exact⟨a,t,rfl,by simpa using h⟩
theorem ZQ [Fuel] {w:World}:aaJ w [] []:=⟨rfl,λj y v h=>by simp at h⟩
theorem WO [Fuel] {w:World} {y:CV} {ys:List CV} {v:Value} {vs:List Value} (h:OZ w (λ_=>False) y v) (h1:v.oneCell'=true) (t:aaJ w ys vs):aaJ w (y::ys) (v::vs):=by
 refine⟨by simp [t.1],λj y' v' e1 e2=> ?_⟩
 cases j with
 |zero=>simp at e1 e2;subst e1;subst e2;exact⟨h,h1⟩
 |succ j=>simp at e1 e2;exact t.2 j y' v' e1 e2
theorem Eh [Fuel] {w:World} {ys ys':List CV} {vs vs':List Value} (h:aaJ w ys vs) (h':aaJ w ys' vs'):aaJ w (ys++ys') (vs++vs'):=by
 refine⟨by simp [h.1,h'.1],λj y v e1 e2=> ?_⟩
 by_cases hj:j<ys.length
 ·rw [List.getElem?_append_left hj]at e1
  rw [List.getElem?_append_left (by rw [h.1];exact hj)]at e2
  exact h.2 j y v e1 e2
 ·rw [List.getElem?_append_right (by omega)]at e1
  rw [List.getElem?_append_right (by rw [h.1];omega),h.1]at e2
  exact h'.2 _ y v e1 e2
theorem alC [Fuel] {w:World} {k:IntKind} {x:Int} {ys:List CV} {vs:List Value} (t:aaJ w ys vs):aaJ w (.val (.int k x)::ys) (.int k x::vs):=WO (.val _) rfl t
section
variable {H:Type} {UC:TypeId×Value->H} {P:Program} {w:World} {base:Nat} {spare:Nat->Bool} {held:Bool}
def Opn {α:Type} (UC:TypeId×Value->H) (P:Program) (w:World) (base:Nat) (spare:Nat->Bool) (held:Bool) (t:TypeId) (enc:α->List CV) (Inv:α->Prop):Prop:=
 ∀n cs x,DataW.trod UC P w base spare held n t cs=some x→∃a,Inv a/\aaJ w (enc a) cs
theorem IK [Fuel] {t:TypeId} {k:IntKind} (ht:P.underlying t=some (.int k)):Opn UC P w base spare held t (anU k) (λn=>(Lit.int k n).wf=true):=by
 intro n cs x h
 obtain⟨m,rfl,_,hw⟩:=DataW.trod_int ht h
 exact⟨m,hw,alC ZQ⟩
theorem Vu [Fuel] {t e:TypeId} {z:Nat} {τ:Ty} {Inv:den τ->Prop} (ht:P.underlying t=some (.slice e)) (hc:P.cellsOf e=z) (hz0:0<z) (hw:wd τ=z)
  (he:Opn UC P w base spare held e (afd τ) Inv):Opn UC P w base spare held t (λxs:List (den τ)=> [CV.ls τ xs]) (λxs=>∀x∈xs,Inv x):=by
 have hz:∀a:den τ,(afd τ a).length=z:=λa=>by rw [alY,hw]
 intro n cs x h
 rcases Deep.open_slice ht h with⟨rfl,_⟩|⟨a,len,cap,m,n,D,Pl,rfl,hb,hl,hm,hmm,_,hx⟩
 ·exact⟨[],by simp,WO (.ls _ _ _ (.rd0 _ _ _ _)) rfl ZQ⟩
 have hlm:len<=m:=by rw [hmm];split<;>omega
 have each:∀i,i<len→∃q:den τ×List Value,Inv q.1/\aaJ w (afd τ q.1) q.2/\q.2.length=z∧∀j,j<z->w.cell? ((a.add (i*z)).add j)=q.2[j]? :=by
  intro i hi
  obtain⟨cs',h1,h2⟩:=hx i (by omega)
  rw [hc]at h1
  obtain⟨_,hlen,hcell⟩:=World.cells?_some h1
  obtain⟨y,hy,hs⟩:=he _ _ _ h2
  exact⟨(y,cs'),hy,hs,hlen,hcell⟩
 obtain⟨q,hq⟩:=Deep.choose_lt each
 refine⟨(List.range len).map (λi=>(q i).1),?_,WO (.ls _ _ _ ?_) rfl ZQ⟩
 ·intro y hy
  obtain⟨i,hi,rfl⟩:=List.mem_map.1 hy
  exact(hq i (List.mem_range.1 hi)).1
 ·rw [hw]
  have hln:((List.range len).map (λi=>(q i).1)).length=len:=by simp
  have hg:∀i,i<len->((List.range len).map (λi=>(q i).1)).getD i default=(q i).1:=by
   intro i hi
   simp [List.getD_eq_getElem?_getD,hi]
  rcases Nat.eq_zero_or_pos len with h0|h0
  ·subst h0;exact .rd0 _ _ _ _
  rw [hln]
  obtain⟨b,off,spot⟩:=a
  have hsome:∀i j,i<len->j<z->(q i).2[j]? =some ((q i).2.getD j undef):=by
   intro i j hi hj
   have:j<(q i).2.length:=by rw [(hq i hi).2.2.1];exact hj
   simp [List.getD_eq_getElem?_getD,this]
  have hsp:spot=none/\b<w.heap.size:=by
   have h1:=(hq 0 h0).2.2.2 0 hz0
   rw [hsome 0 0 h0 hz0,Nat.zero_mul]at h1
   have ez:∀x:Addr,x.add 0=x:=λx=>rfl
   rw [ez,ez]at h1
   unfold World.cell? at h1
   split at h1
   ·rename_i heq
    refine⟨?_,?_⟩
    ·cases spot with
     |none=>rfl
     |some s=>simp at h1
    ·rw [Array.getElem?_eq_some_iff]at heq;exact heq.1
   ·cases h1
  obtain⟨rfl,hbs⟩:=hsp
  have c0:∀i j,i<len->j<z->w.cell? ⟨b,off+(i*z+j),none⟩=(q i).2[j]? :=by
   intro i j hi hj
   have:=(hq i hi).2.2.2 j hj
   rw [WideShapes.add_plain,WideShapes.add_plain,Nat.add_assoc]at this
   exact this
  have dm:∀j,j<len*z->j / z<len/\j%z<z/\j / z*z+j%z=j:=by
   intro j hj
   refine⟨(Nat.div_lt_iff_lt_mul hz0).2 hj,Nat.mod_lt _ hz0,?_⟩
   rw [Nat.mul_comm];exact Nat.div_add_mod j z
  refine .rd z len _ b off cap (λj=>(q (j / z)).2.getD (j%z) undef) (λh=>h) hbs hl ?_ ?_ ?_ ?_
  ·intro i hi;exact hz _
  ·intro j hj
   obtain⟨h1,h2,h3⟩:=dm j hj
   have:=c0 (j / z) (j%z) h1 h2
   rw [h3,hsome _ _ h1 h2]at this
   exact this
  ·intro j hj
   obtain⟨h1,h2,h3⟩:=dm j hj
   have hs:=(hq (j / z) h1).2.1
   have hlt:j%z<(afd τ (q (j / z)).1).length:=by rw [hz];exact h2
   exact(hs.2 (j%z) ((afd τ (q (j / z)).1)[j%z]) _ (List.getElem?_eq_getElem hlt) (hsome _ _ h1 h2)).2
  ·intro i j y hi hy
   unfold fE at hy;rw [hg i hi]at hy
   have hj:j<z:=by rw [<-hz (q i).1];exact(List.getElem?_eq_some_iff.1 hy).1
   have e1:(i*z+j) / z=i:=by rw [Nat.mul_comm,Nat.mul_add_div hz0,Nat.div_eq_of_lt hj,Nat.add_zero]
   have e2:(i*z+j)%z=j:=by rw [Nat.mul_comm,Nat.mul_add_mod,Nat.mod_eq_of_lt hj]
   simp only [e1,e2]
   exact((hq i hi).2.1.2 j y _ hy (hsome i j hi hj)).1
theorem alD [Fuel] {t:TypeId} {τ:Ty} {Inv:List (den τ)->Prop} {a:Option Addr} {len cap:Nat} {d:DataW H} {ps:List MemPlace}
  (he:Opn UC P w base spare held t (λxs:List (den τ)=> [CV.ls τ xs]) Inv) (h:DataW.Trod UC P w base spare held t (.slice a len cap) d ps):∃xs:List (den τ),Inv xs/\nZ w (λ_=>none) (λ_=>False) (.one (.s (.c (.ls τ xs)))) (.slice a len cap):=by
 obtain⟨n,hn⟩:=h
 obtain⟨xs,hi,hs⟩:=he _ _ _ hn
 refine⟨xs,hi,?_⟩
 exact .c (hs.2 0 _ (.slice a len cap) rfl rfl).1
theorem ao4 [Fuel] {α:Type} {t:TypeId} {e:α->List CV} {Inv:α->Prop} {cs:Array Value} {d:DataW H} {ps:List MemPlace}
  (he:Opn UC P w base spare held t e Inv) (h:DataW.Trod UC P w base spare held t (.agg cs) d ps):∃x:α,Inv x/\nZ w (λ_=>none) (λ_=>False) (.one (.agg ((e x).map .c))) (.agg cs):=by
 obtain⟨n,hn⟩:=h
 obtain⟨x,hi,hs⟩:=he _ _ _ hn
 have hlen:cs.toList.length=(e x).length:=hs.1
 refine⟨x,hi,cs,rfl,by rw [List.length_map,<-hlen];simp,λi y hy=> ?_⟩
 rw [List.getElem?_map]at hy
 cases hc:(e x)[i]? with
 |none=>rw [hc]at hy;cases hy
 | some z=>
  rw [hc]at hy
  cases hy
  have hlt:i<cs.size:=by
   have:=(List.getElem?_eq_some_iff.1 hc).1
   rw [<-hlen]at this;simpa using this
  refine .c (hs.2 i z (cs.getD i undef) hc ?_).1
  show cs.toList[i]? =_
  simp [Array.getD,hlt]
theorem wf_i64 [Fuel] {x:Int} (h:(Lit.int .i64 x).wf=true): -9223372036854775808<=x/\x<9223372036854775808:=by
 simp only [Lit.wf,decide_eq_true_eq,Bool.and_eq_true]at h
 have e1:IntKind.i64.min= -9223372036854775808:=by decide
 have e2:IntKind.i64.max=9223372036854775807:=by decide
 omega
theorem ao5 [Fuel]:MX (λ_=>False) (λ_=>none) []=λ_=>False:=by
 funext b
 simp only [MX,Mut]
 apply propext
 constructor
 ·rintro(h|⟨k,o,l,hk,_⟩)
  ·exact h
  ·simp at hk
 ·exact λh=>h.elim
theorem Jb.law [Fuel] {P:Program} {f:FuncId} {args:List SV} {v:Value} (hA:Jb P f args [] (λr' h'=>r'=mkv v/\h'= [])) {w:World} {vs:List Value}
  (ha:K7 (nZ w (λ_=>none) (λ_=>False)) args vs):
  Calls P f vs.toArray w λe w'=>e= .returned v/\w'.os=w.os/\w'.tape=w.tape/\w'.output=w.output/\w.heap.size<=w'.heap.size∧∀b,b<w.heap.size->w'.heap[b]? =w.heap[b]? :=by
 have hH:bI (λ_=>False) w (λ_=>none) []:=⟨λk o hk=>by simp at hk,λk k' o o' l l' b e1=>by simp at e1,λ_ _=>rfl,λb hb=>λh=>h,λb h=>h.elim⟩
 refine(hA (λ_=>False) w (λ_=>none) vs hH (by rw [ao5];exact ha)).mono (λe w' he=> ?_)
 obtain⟨v',r',h',m',rfl,⟨rfl,rfl⟩,H',Cz,hfr,hmt,hid⟩:=he
 have:v'=v:=by cases Cz with|c h=>cases h;rfl
 subst this
 exact⟨rfl,hfr.os,hfr.tape,hfr.output.1,hfr.size,λb hb=>hfr.keep b hb (by rintro⟨k,o,l,hk,_⟩;simp at hk)⟩
theorem Jb.below [Fuel] {P:Program} {f:FuncId} {args:List SV} {v:Value} (hA:Jb P f args [] (λr' h'=>r'=mkv v/\h'= [])) {w:World} {vs:List Value}
  (ha:K7 (nZ w (λ_=>none) (λ_=>False)) args vs):Calls P f vs.toArray w λe w'=>e= .returned v/\Below w.heap.size w w':=
 (Jb.law hA ha).mono λe w' ⟨h1,h2,h3,h4,h5,h6⟩=>⟨h1,⟨h2,h3,h4,h5,h6⟩⟩
end
theorem bL.below [Fuel] {P:Program} {S:aS} (h:bL P S) (v:S.ps.V) {r:S.β} (hF:S.F v=some r) (h0:eOs S.ps.objs v.2= []) (h1:eOs S.rs.objs (S.g r).2= []) {y:Value} (hy:aaA (eSs S.rs.slots (S.g r).1)=mkv y) {w:World} {vs:List Value}
  (ha:K7 (nZ w (λ_=>none) (λ_=>False)) ((eSs S.ps.slots v.1).map (·.2)) vs):Calls P S.f vs.toArray w λe w'=>e= .returned y/\Below w.heap.size w w':=by
 have:=h.2 v r hF
 rw [h0,h1,hy]at this
 exact this.below ha
end Go.AM
