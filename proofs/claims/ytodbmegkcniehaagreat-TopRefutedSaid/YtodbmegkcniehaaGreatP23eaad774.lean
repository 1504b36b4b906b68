/- Typed states: lists and structures as Lean values. Shapes: how a state is spelled by such values, and how they are read off. -/
import Derived.LoopN
import Derived.Test.YtodbmegkcniehaaGreatP15e56300e
set_option linter.unusedSimpArgs false
set_option linter.unusedVariables false
namespace Go.AM
open Go Go.RowKit Go.CP
inductive TO where
 |box (cs:List SC)
 |arr (t:Ty) (xs:List (den t))
 |mp (es:List (Int×Int))
 |ra (cs:List SC)
 |ms (es:List (Value×Value))
 |dead
def TO.er:TO->bF
 | .box cs=> .box cs
 | .arr t xs=> .arr (wd t) xs.length (fE t xs)
 | .mp es=> .mp es
 | .ra cs=> .ra 1 cs.length cs
 | .ms es=> .ms es
 | .dead=> .dead
def lookO:List (Nat×TO)->Nat->TO
 | [],_=> .dead
 |(j,o)::r,k=>bif Nat.beq j k then o else lookO r k
structure TS where
 σ:List (Nat×SV)
 h:List (Nat×TO)
 n:Nat
def erH (h:List (Nat×TO)) (n:Nat):List bF:=(List.range n).map (λk=>(lookO h k).er)
def TS.er (ts:TS):St:=⟨ts.σ,erH ts.h ts.n⟩
theorem T9 [Fuel] (h:List (Nat×TO)) (n k:Nat):(erH h n)[k]? =if k<n then some (lookO h k).er else none:=by
 unfold erH
 rw [List.getElem?_map]
 by_cases hk:k<n
 ·rw [List.getElem?_range hk,if_pos hk];rfl
 ·rw [List.getElem?_eq_none (by simp;omega),if_neg hk];rfl
theorem JI [Fuel] (h:List (Nat×TO)) (n:Nat):(erH h n).length=n:=by simp [erH]
inductive CK where
 |ty (t:Ty)
 |nty (t:Ty)
 |own (j:Nat)
 |pb (j off:Nat)
 |pe (j off:Nat)
 |rp (t:Ty)
 |fn (f:FuncId) (js:List Nat)
 |nl
 |mc (j:Nat)
 |fb (f:FuncId) (j off:Nat)
 |bot
inductive SK where
 |c (k:CK)
 |st (n:N)
 |sw (n:N) (ov:List (Nat×CK))
 |ag (ks:List CK)
inductive OK where
 |bs (n:N)
 |bw (n:N) (ov:List (Nat×CK))
 |bx (ks:List CK)
 |ar (t:Ty)
 |mo
 |ra (ks:List CK)
 |ms
 |dd
structure Shape where
 slots:List (Nat×SK)
 objs:List OK
def VC:CK->Type
 | .ty t=>den t
 | .nty t=>List (den t)
 | .pe _ _=>Nat
 | .rp t=>den t
 |_=>Unit
def VCs:List CK->Type
 | []=>Unit
 |k::r=>VC k×VCs r
def VOv:List (Nat×CK)->Type
 | []=>Unit
 |(_,k)::r=>VC k×VOv r
def VS:SK->Type
 | .c k=>VC k
 | .st n=>T n
 | .sw n ov=>T n×VOv ov
 | .ag ks=>VCs ks
def VSs:List (Nat×SK)->Type
 | []=>Unit
 |(_,k)::r=>VS k×VSs r
def VO:OK->Type
 | .bs n=>T n
 | .bw n ov=>T n×VOv ov
 | .bx ks=>VCs ks
 | .ar t=>List (den t)
 | .mo=>List (Int×Int)
 | .ra ks=>VCs ks
 | .ms=>List (Value×Value)
 | .dd=>Unit
def VOs:List OK->Type
 | []=>Unit
 |k::r=>VO k×VOs r
abbrev Shape.V (sh:Shape):Type:=VSs sh.slots×VOs sh.objs
def eC:(k:CK)->VC k->SC
 | .ty t,x=> .c (abY t x)
 | .nty t,x=> .c (.lsn t x)
 | .own j,_=> .own j
 | .pb j off,_=> .pb j off
 | .pe j off,i=> .pe j i off
 | .rp t,x=> .rp (afd t x)
 | .fn f js,_=> .fn f js
 | .nl,_=> .c (.val (.slice none 0 0))
 | .mc j,_=> .mp j
 | .fb f j off,_=> .fb f j off
 | .bot,_=> .bot
def eCs:(ks:List CK)->VCs ks->List SC
 | [],_=> []
 |k::r,v=>eC k v.1::eCs r v.2
def eOv:(ov:List (Nat×CK))->VOv ov->List SC->List SC
 | [],_,cs=>cs
 |(i,k)::r,v,cs=>eOv r v.2 (cs.set i (eC k v.1))
def eS:(k:SK)->VS k->SV
 | .c k,x=> .one (.s (eC k x))
 | .st n,x=> .one (.agg ((Jz n x).map .c))
 | .sw n ov,x=> .one (.agg (eOv ov x.2 ((Jz n x.1).map .c)))
 | .ag ks,x=> .one (.agg (eCs ks x))
def eSs:(ks:List (Nat×SK))->VSs ks->List (Nat×SV)
 | [],_=> []
 |(x,k)::r,v=>(x,eS k v.1)::eSs r v.2
def eO:(k:OK)->VO k->TO
 | .bs n,x=> .box ((Jz n x).map .c)
 | .bw n ov,x=> .box (eOv ov x.2 ((Jz n x.1).map .c))
 | .bx ks,x=> .box (eCs ks x)
 | .ar t,xs=> .arr t xs
 | .mo,es=> .mp es
 | .ra ks,x=> .ra (eCs ks x)
 | .ms,es=> .ms es
 | .dd,_=> .dead
def eOs:(ks:List OK)->VOs ks->List TO
 | [],_=> []
 |k::r,v=>eO k v.1::eOs r v.2
def anf:Nat->List TO->List (Nat×TO)
 |_,[]=> []
 |i,o::r=>(i,o)::anf (i+1) r
def enc (sh:Shape) (v:sh.V):TS:=⟨eSs sh.slots v.1,anf 0 (eOs sh.objs v.2),sh.objs.length⟩
def aaz (t' t:Ty) (xs:List (den t')):Option (List (den t)):=if e:t'=t then some (e▸xs)else none
def dI (k:IntKind):SC->Option Int
 | .c (.val (.int k' x))=>if k'=k then some x else none
 |_=>none
def dB:SC->Option Bool
 | .c (.val (.bool x))=>some x
 |_=>none
def aq2:SC->Option ByteArray
 | .c (.val (.string x))=>some x
 |_=>none
def dA (t:Ty):TO->Option (List (den t))
 | .arr t' xs=>aaz t' t xs
 |_=>none
def dLs (h:List (Nat×TO)) (fz:List Nat) (t:Ty):SC->Option (List (den t))
 | .c (.ls t' xs)=>aaz t' t xs
 | .c (.lsn t' xs)=>aaz t' t xs
 | .c (.val (.slice none 0 0))=>some []
 | .c .e0=>some []
 | .own k=>bif Qg k fz then dA t (lookO h k)else none
 |_=>none
def neL (t:Ty):TO->Option (List (den t))
 | .arr t' (x::xs)=>aaz t' t (x::xs)
 |_=>none
def dLn (h:List (Nat×TO)) (fz:List Nat) (t:Ty):SC->Option (List (den t))
 | .c (.lsn t' xs)=>aaz t' t xs
 | .c (.ls t' (x::xs))=>aaz t' t (x::xs)
 | .c (.val (.slice none 0 0))=>some []
 | .own k=>bif Qg k fz then neL t (lookO h k)else none
 |_=>none
def dT (h:List (Nat×TO)) (fz:List Nat):(t:Ty)->SC->Option (den t)
 | .i k,c=>dI k c
 | .b,c=>dB c
 | .s,c=>aq2 c
 | .l t,c=>dLs h fz t c
 | .n _,_=>none
def ang (h:List (Nat×TO)) (fz:List Nat):(ts:List Ty)->List SC->Option (ahT ts)
 | [],[]=>some ()
 |t::r,c::cs=>match dT h fz t c,ang h fz r cs with
  |some x,some v=>some (x,v)
  |_,_=>none
 |_,_=>none
def unN (h:List (Nat×TO)) (fz:List Nat) (n:N) (cs:List SC):Option (T n):=
 match ang h fz (lvN n) cs with
 |some v=>some (mkN n v)
 |none=>none
def unT (t:Ty) (cs:List CV):Option (den t):=
 match t with
 | .n k=>unN [] [] k (cs.map .c)
 |t=>match cs with
  | [c]=>dT [] [] t (.c c)
  |_=>none
def dLX (t:Ty):CV->Option (List (den t))
 | .ls t' xs=>aaz t' t xs
 |_=>none
def dX:(t:Ty)->CV->Option (den t)
 | .i k,c=>dI k (.c c)
 | .b,c=>dB (.c c)
 | .s,c=>aq2 (.c c)
 | .l t,c=>dLX t c
 | .n _,_=>none
def aq3:(ts:List Ty)->List CV->Option (ahT ts)
 | [],[]=>some ()
 |t::r,c::cs=>match dX t c,aq3 r cs with
  |some x,some v=>some (x,v)
  |_,_=>none
 |_,_=>none
def unX (t:Ty) (cs:List CV):Option (den t):=
 match t with
 | .n k=>match aq3 (lvN k) cs with
  |some v=>some (mkN k v)
  |none=>none
 |t=>match cs with
  | [c]=>dX t c
  |_=>none
def Ar:Option (Option Nat)->Nat->Bool
 |some (some k'),k=>Nat.beq k' k
 |_,_=>false
def arP:Option (Option Nat)->Bool
 |some none=>true
 |_=>false
def aj9 (src:List (Option Nat)):List Nat->List Nat->Bool
 | [],[]=>true
 |j::js,k::ks=>Ar src[j]? k&&aj9 src js ks
 |_,_=>false
def arQ:Option OK->Bool
 |some (.ar _)=>true
 |_=>false
def apJ (src:List (Option Nat)) (ko:List OK) (j:Nat):SC->Option Unit
 | .own k=>bif Ar src[j]? k then some ()else none
 | .c (.val (.slice none 0 0))=>bif arP src[j]? &&arQ ko[j]? then some ()else none
 |_=>none
def dPb (src:List (Option Nat)) (j off:Nat):SC->Option Unit
 | .pb k off'=>bif Nat.beq off off'&&Ar src[j]? k then some ()else none
 |_=>none
def dMc (src:List (Option Nat)) (j:Nat):SC->Option Unit
 | .mp k=>bif Ar src[j]? k then some ()else none
 |_=>none
def dPe (src:List (Option Nat)) (j off:Nat):SC->Option Nat
 | .pe k i off'=>bif Nat.beq off off'&&Ar src[j]? k then some i else none
 |_=>none
def dBx (h:List (Nat×TO)) (fz:List Nat) (k:Nat):(t:Ty)->Option (den t)
 | .n n=>match lookO h k with
  | .box cs=>unN h fz n cs
  |_=>none
 |_=>none
def dRp (h:List (Nat×TO)) (fz:List Nat) (t:Ty):SC->Option (den t)
 | .rp cs=>unX t cs
 | .pb k off=>bif Nat.beq off 0&&Qg k fz then dBx h fz k t else none
 |_=>none
def dFn (src:List (Option Nat)) (f:FuncId) (js:List Nat):SC->Option Unit
 | .fn f' ks=>bif Nat.beq f f'&&aj9 src js ks then some ()else none
 |_=>none
def dFb (src:List (Option Nat)) (f:FuncId) (j off:Nat):SC->Option Unit
 | .fb f' k off'=>bif Nat.beq f f'&&Nat.beq off off'&&Ar src[j]? k then some ()else none
 |_=>none
def dNl:SC->Option Unit
 | .c (.val (.slice none 0 0))=>some ()
 |_=>none
def dC (h:List (Nat×TO)) (fz:List Nat) (src:List (Option Nat)) (ko:List OK):(k:CK)->SC->Option (VC k)
 | .ty t,c=>dT h fz t c
 | .nty t,c=>dLn h fz t c
 | .own j,c=>apJ src ko j c
 | .pb j off,c=>dPb src j off c
 | .pe j off,c=>dPe src j off c
 | .rp t,c=>dRp h fz t c
 | .fn f js,c=>dFn src f js c
 | .nl,c=>dNl c
 | .mc j,c=>dMc src j c
 | .fb f j off,c=>dFb src f j off c
 | .bot,_=>some ()
section
variable (h:List (Nat×TO)) (fz:List Nat) (src:List (Option Nat)) (ko:List OK)
def dCs:(ks:List CK)->List SC->Option (VCs ks)
 | [],[]=>some ()
 |k::r,c::cs=>match dC h fz src ko k c,dCs r cs with
  |some x,some v=>some (x,v)
  |_,_=>none
 |_,_=>none
def dOv:(ov:List (Nat×CK))->List SC->Option (VOv ov)
 | [],_=>some ()
 | (i,k)::r,cs=>match cs[i]? with
  |some c=>match dC h fz src ko k c,dOv r cs with
   |some x,some v=>some (x,v)
   |_,_=>none
  |none=>none
def X6:List (Nat×CK)->List SC->List SC
 | [],cs=>cs
 |(i,_)::r,cs=>X6 r (cs.set i (.c (.val (.slice none 0 0))))
def afg (i:Nat):List (Nat×CK)->Bool
 | []=>false
 |(j,_)::r=>Nat.beq j i||afg i r
def ag3:List (Nat×CK)->Bool
 | []=>true
 |(i,_)::r=> !(afg i r)&&ag3 r
def dW (n:N) (ov:List (Nat×CK)) (cs:List SC):Option (T n×VOv ov):=
 match unN h fz n (X6 ov cs),dOv h fz src ko ov cs with
 |some x,some v=>bif ag3 ov then some (x,v)else none
 |_,_=>none
def cellOf:SV->Option SC
 | .one (.s c)=>some c
 |_=>none
def UY:SV->Option (List SC)
 | .one (.agg cs)=>some cs
 |_=>none
def dS:(k:SK)->SV->Option (VS k)
 | .c k,s=>match cellOf s with
  |some c=>dC h fz src ko k c
  |none=>none
 | .st n,s=>match UY s with
  |some cs=>unN h fz n cs
  |none=>none
 | .sw n ov,s=>match UY s with
  |some cs=>dW h fz src ko n ov cs
  |none=>none
 | .ag ks,s=>match UY s with
  |some cs=>dCs h fz src ko ks cs
  |none=>none
def dSs (σ:List (Nat×SV)):(ks:List (Nat×SK))->Option (VSs ks)
 | []=>some ()
 | (x,k)::r=>match look σ x with
  |some s=>match dS h fz src ko k s,dSs σ r with
   |some a,some v=>some (a,v)
   |_,_=>none
  |none=>none
def ad7:Option Nat->Option (List SC)
 |some k=>match lookO h k with
  | .box cs=>some cs
  |_=>none
 |none=>none
def aq4:Option Nat->Option (List (Value×Value))
 |some k=>match lookO h k with
  | .ms es=>some es
  |_=>none
 |none=>none
def arR:Option Nat->Option (List SC)
 |some k=>match lookO h k with
  | .ra cs=>some cs
  |_=>none
 |none=>none
def amh:Option Nat->Option (List (Int×Int))
 |some k=>match lookO h k with
  | .mp es=>some es
  |_=>none
 |none=>none
def dO (s:Option Nat):(k:OK)->Option (VO k)
 | .bs n=>match ad7 h s with
  |some cs=>unN h fz n cs
  |none=>none
 | .bw n ov=>match ad7 h s with
  |some cs=>dW h fz src ko n ov cs
  |none=>none
 | .bx ks=>match ad7 h s with
  |some cs=>dCs h fz src ko ks cs
  |none=>none
 | .ar t=>match s with
  |some k=>dA t (lookO h k)
  |none=>some ([]:List (den t))
 | .mo=>amh h s
 | .ms=>aq4 h s
 | .ra ks=>match arR h s with
  |some cs=>dCs h fz src ko ks cs
  |none=>none
 | .dd=>some ()
def dOs:List (Option Nat)->(ks:List OK)->Option (VOs ks)
 | [],[]=>some ()
 |s::ss,k::r=>match dO h fz src ko s k,dOs ss r with
  |some a,some v=>some (a,v)
  |_,_=>none
 |_,_=>none
end
structure Om where
 om:List (Nat×Option Nat)
 fz:List Nat
def aq5:List (Nat×Option Nat)->Nat->Option (Option Nat)
 | [],_=>none
 |(j,s)::r,i=>bif Nat.beq j i then some s else aq5 r i
def Om.add (o:Om) (j:Nat) (s:Option Nat):Om:=
 match aq5 o.om j with
 |some _=>o
 |none=>⟨(j,s)::o.om,o.fz⟩
def Om.frz (o:Om) (k:Nat):Om:=bif Qg k o.fz then o else⟨o.om,k::o.fz⟩
def Om.asI (o:Om):List Nat->List Nat->Om
 |j::js,k::ks=>Om.asI (o.add j (some k)) js ks
 |_,_=>o
def oC (o:Om):CK->SC->Om
 | .ty _,.own k=>o.frz k
 | .nty _,.own k=>o.frz k
 | .own j,.own k=>o.add j (some k)
 | .own j,.c _=>o.add j none
 | .pb j _,.pb k _=>o.add j (some k)
 | .rp _,.pb k _=>o.frz k
 | .pe j _,.pe k _ _=>o.add j (some k)
 | .fn _ js,.fn _ ks=>o.asI js ks
 | .mc j,.mp k=>o.add j (some k)
 | .fb _ j _,.fb _ k _=>o.add j (some k)
 |_,_=>o
def oCs (o:Om):List CK->List SC->Om
 |k::r,c::cs=>oCs (oC o k c) r cs
 |_,_=>o
def oOv (o:Om):List (Nat×CK)->List SC->Om
 |(i,k)::r,cs=>match cs[i]? with
  |some c=>oOv (oC o k c) r cs
  |none=>o
 | [],_=>o
def oN (o:Om):List SC->Om
 | .own k::cs=>oN (o.frz k) cs
 |_::cs=>oN o cs
 | []=>o
def oS (o:Om):SK->SV->Om
 | .c k,.one (.s c)=>oC o k c
 | .st _,.one (.agg cs)=>oN o cs
 | .sw _ ov,.one (.agg cs)=>oOv (oN o (X6 ov cs)) ov cs
 | .ag ks,.one (.agg cs)=>oCs o ks cs
 |_,_=>o
def oSs (σ:List (Nat×SV)) (o:Om):List (Nat×SK)->Om
 | []=>o
 |(x,k)::r=>match look σ x with
  |some s=>oSs σ (oS o k s) r
  |none=>o
def oO (h:List (Nat×TO)) (o:Om) (j:Nat) (k:OK):Om:=
 match aq5 o.om j with
 |some (some i)=>match lookO h i,k with
  | .box cs,.bs _=>oN o cs
  | .box cs,.bw _ ov=>oOv (oN o (X6 ov cs)) ov cs
  | .box cs,.bx ks=>oCs o ks cs
  | .ra cs,.ra ks=>oCs o ks cs
  |_,_=>o
 |_=>o
def oOs (h:List (Nat×TO)) (o:Om):Nat->List OK->Om
 |_,[]=>o
 |j,k::r=>oOs h (oO h o j k) (j+1) r
def asJ:Nat->List (Nat×Option Nat)
 |0=> []
 |p+1=>(p,some p)::asJ p
def aiv (om:List (Nat×Option Nat)):Nat->Nat->List (Option Nat)
 |_,0=> []
 |j,n+1=>(match aq5 om j with|some s=>s|none=>none)::aiv om (j+1) n
def afP (k:Nat):List (Option Nat)->List OK->Bool
 |some _::r,.dd::ks=>afP k r ks
 |some k'::r,_::ks=>Nat.beq k' k||afP k r ks
 |none::r,_::ks=>afP k r ks
 |_,_=>false
def O4:List (Option Nat)->List OK->Bool
 |some _::r,.dd::ks=>O4 r ks
 |some k::r,_::ks=> !(afP k r ks)&&O4 r ks
 |none::r,_::ks=>O4 r ks
 |_,_=>true
def preO:Nat->Nat->List (Option Nat)->Bool
 |0,_,_=>true
 |p+1,i,some k::r=>Nat.beq k i&&preO p (i+1) r
 |_,_,_=>false
def Ua (k:Nat):List (Option Nat)->List OK->Bool
 |some k'::r,.dd::ks=>Ua k r ks
 |some k'::r,_::ks=> !(Nat.beq k' k)&&Ua k r ks
 |none::r,_::ks=>Ua k r ks
 | [],[]=>true
 |_,_=>false
def an7 (h:List (Nat×TO)):List Nat->Om->Om
 | [],o=>o
 |k::r,o=>match lookO h k with
  | .box cs=>an7 h r (oN o cs)
  |_=>an7 h r o
def Y7 (sh:Shape) (p:Nat) (ts:TS):Om:=
 let o:=oOs ts.h (oSs ts.σ ⟨asJ p,[]⟩ sh.slots) 0 sh.objs
 an7 ts.h o.fz o
def dec (sh:Shape) (p:Nat) (ts:TS):Option sh.V:=
 let o:=Y7 sh p ts
 let src:=aiv o.om 0 sh.objs.length
 bif O4 src sh.objs&&preO p 0 src&&o.fz.all (λk=>Ua k src sh.objs)then
  match dSs ts.h o.fz src sh.objs ts.σ sh.slots,dOs ts.h o.fz src sh.objs src sh.objs with
  |some a,some b=>some (a,b)
  |_,_=>none
 else none
end Go.AM
namespace Go.AM
open Go Go.RowKit Go.CP
theorem ND [Fuel] {k:Nat} {l:List Nat} (h:Qg k l=true):k∈l:=mD.1 h
theorem yY [Fuel] {t' t:Ty} {xs:List (den t')} {ys:List (den t)} (h:aaz t' t xs=some ys):(⟨t',xs⟩:(t:Ty)×List (den t))=⟨t,ys⟩:=by
  unfold aaz at h
  split at h
  · rename_i e;subst e;cases h;rfl
  · cases h
theorem Fu [Fuel] {s:Option (Option Nat)} {k:Nat} (h:Ar s k=true):s=some (some k):=by
  unfold Ar at h
  split at h
  · rw [Nat.eq_of_beq_eq_true h]
  · cases h
section
variable {h:List (Nat×TO)} {fz:List Nat} {src:List (Option Nat)} {ko:List OK} {g:Nat->bF} {h':List bF}
structure Fits (h:List (Nat×TO)) (fz:List Nat) (src:List (Option Nat)) (ko:List OK) (g:Nat->bF) (h':List bF):Prop where
  see:∀k,(k∈fz\/some k∈src)->lookO h k≠.dead->g k=(lookO h k).er
  frz:∀k∈fz,∀j:Nat,src[j]? =some (some k)->h'[j]? =some bF.dead
  gh:∀j:Nat,src[j]? =some none->arQ ko[j]? =true→∃z f,h'[j]? =some (.arr z 0 f)
theorem afQ [Fuel] {k:IntKind} {c:SC} {x:Int} (e:dI k c=some x):c= .c (.val (.int k x)):=by
  unfold dI at e
  split at e
  · split at e
    · rename_i hk;subst hk;cases e;rfl
    · cases e
  · cases e
theorem afR [Fuel] {c:SC} {x:Bool} (e:dB c=some x):c= .c (.val (.bool x)):=by
  unfold dB at e
  split at e
  · cases e;rfl
  · cases e
theorem Y8 [Fuel] {c:SC} {x:ByteArray} (e:aq2 c=some x):c= .c (.val (.string x)):=by
  unfold aq2 at e
  split at e
  · cases e;rfl
  · cases e
theorem NG [Fuel] {t:Ty} {o:TO} {xs:List (den t)} (e:dA t o=some xs):o= .arr t xs:=by
  unfold dA at e
  split at e
  · cases yY e;rfl
  · cases e
theorem akb [Fuel] (H:Fits h fz src ko g h') {t:Ty} {c:SC} {x:den t} (e:dT h fz t c=some x):X4 g h' src (· ∈fz) c (.c (abY t x)):=by
  cases t with
  |i k=>rw [afQ e];exact .c (CV.rD _)
  |b=>rw [afR e];exact .c (CV.rD _)
  |s=>rw [Y8 e];exact .c (CV.rD _)
  |n k=>cases e
  | l t =>
    replace e:dLs h fz t c=some x:=e
    unfold dLs at e
    split at e
    · cases yY e;exact .c (CV.rD _)
    · cases yY e;exact .c rfl
    · cases e;exact .c rfl
    · cases e;exact .c rfl
    · rename_i k
      cases hb:Qg k fz with
      |false=>rw [hb]at e;cases e
      | true=>
        rw [hb]at e
        have hl:=NG e
        exact .frz (ND hb) (by rw [H.see k (.inl (ND hb)) (by rw [hl];intro h;cases h),hl];rfl) (H.frz k (ND hb))
    · cases e
theorem ami [Fuel] {t:Ty} {o:TO} {xs:List (den t)} (e:neL t o=some xs):o= .arr t xs/\xs≠ []:=by
  unfold neL at e
  split at e
  · cases yY e;exact⟨rfl,λh=>by cases h⟩
  · cases e
theorem an8 [Fuel] (H:Fits h fz src ko g h') {t:Ty} {c:SC} {x:List (den t)} (e:dLn h fz t c=some x):X4 g h' src (· ∈fz) c (.c (.lsn t x)):=by
  unfold dLn at e
  split at e
  · cases yY e;exact .c (CV.rD _)
  · cases yY e;exact .c rfl
  · cases e;exact .c rfl
  · rename_i k
    cases hb:Qg k fz with
    |false=>rw [hb]at e;cases e
    | true=>
      rw [hb]at e
      obtain⟨hl,hne⟩:=ami e
      exact .frn (ND hb) (by rw [H.see k (.inl (ND hb)) (by rw [hl];intro h;cases h),hl];rfl) (H.frz k (ND hb)) hne
  · cases e
theorem ag4 [Fuel] (H:Fits h fz src ko g h'):∀{ts:List Ty} {cs:List SC} {v:ahT ts},ang h fz ts cs=some v->ag1 g h' src (· ∈fz) cs ((adl ts v).map .c)
  | [],[],v,e=>⟨rfl,λi x' hx=>by simp [adl]at hx⟩
  | [],_::_,v,e=>by cases e
  |_::_,[],v,e=>by cases e
  | t ::r,c::cs,v,e=>by
    unfold ang at e
    split at e
    · rename_i x u h1 h2
      cases e
      obtain⟨q1,q2⟩:=ag4 H h2
      refine⟨by simpa [adl]using q1,λi x' hx=> ?_⟩
      cases i with
      |zero=>simp [adl]at hx;subst hx;exact⟨c,rfl,akb H h1⟩
      |succ i=>simpa using q2 i x' (by simpa [adl]using hx)
    · cases e
theorem Y9 [Fuel] (H:Fits h fz src ko g h') {n:N} {cs:List SC} {x:T n} (e:unN h fz n cs=some x):ag1 g h' src (· ∈fz) cs ((Jz n x).map .c):=by
  unfold unN at e
  split at e
  · rename_i v hv;cases e;rw [Wi];exact ag4 H hv
  · cases e
theorem apK [Fuel] {t:Ty} {c:CV} {x:den t} (e:dX t c=some x):c=abY t x:=by
  cases t with
  |i k=>cases afQ e;rfl
  |b=>cases afR e;rfl
  |s=>cases Y8 e;rfl
  |n k=>cases e
  | l t=>
    replace e:dLX t c=some x:=e
    unfold dLX at e
    split at e
    · cases yY e;rfl
    · cases e
theorem akc [Fuel]:∀{ts:List Ty} {cs:List CV} {v:ahT ts},aq3 ts cs=some v->cs=adl ts v
  | [],[],v,e=>rfl
  | [],_::_,v,e=>by cases e
  |_::_,[],v,e=>by cases e
  | t ::r,c::cs,v,e=>by
    unfold aq3 at e
    split at e
    · rename_i x u h1 h2
      cases e
      rw [apK h1,akc h2];rfl
    · cases e
theorem apL [Fuel] {t:Ty} {cs:List CV} {x:den t} (e:unX t cs=some x):cs=afd t x:=by
  cases t with
  | n k=>
    simp only [unX]at e
    split at e
    · rename_i v hv;cases e;rw [akc hv];exact(Wi _ _).symm
    · cases e
  | _=>
    simp only [unX]at e
    split at e
    · rw [apK e];rfl
    · cases e
theorem aby [Fuel]:∀{js ks:List Nat},aj9 src js ks=true->ks.length=js.length∧∀(i j:Nat),js[i]? =some j→∃k,ks[i]? =some k/\src[j]? =some (some k)
  | [],[],_=>⟨rfl,λi j h=>by simp at h⟩
  | [],_::_,e=>by cases e
  |_::_,[],e=>by cases e
  | j0::js,k0::ks,e=>by
    simp only [aj9,Bool.and_eq_true]at e
    obtain⟨q1,q2⟩:=aby e.2
    refine⟨by simp [q1],λi j hj=> ?_⟩
    cases i with
    |zero=>simp at hj;subst hj;exact⟨k0,rfl,Fu e.1⟩
    |succ i=>simpa using q2 i j (by simpa using hj)
theorem akd [Fuel] (H:Fits h fz src ko g h') {k:CK} {c:SC} {x:VC k} (e:dC h fz src ko k c=some x):X4 g h' src (· ∈fz) c (eC k x):=by
  cases k with
  |ty t=>exact akb H e
  |nty t=>exact an8 H e
  | own j =>
    replace e:apJ src ko j c=some x:=e
    unfold apJ at e
    split at e
    · rename_i k
      cases hb:Ar src[j]? k with
      |false=>rw [hb]at e;cases e
      |true=>exact .own (Fu hb)
    · cases hb:arP src[j]? &&arQ ko[j]? with
      |false=>rw [hb]at e;cases e
      | true=>
        simp only [Bool.and_eq_true]at hb
        have hs:src[j]? =some none:=by
          have:=hb.1;unfold arP at this;split at this
          · assumption
          · cases this
        obtain⟨z,f,ho⟩:=H.gh j hs hb.2
        exact .gh hs ho
    · cases e
  | pb j off=>
    replace e:dPb src j off c=some x:=e
    unfold dPb at e
    split at e
    · rename_i k off'
      cases hb:Nat.beq off off'&&Ar src[j]? k with
      |false=>rw [hb]at e;cases e
      | true=>
        simp only [Bool.and_eq_true]at hb
        have:=Nat.eq_of_beq_eq_true hb.1;subst this
        exact .pb (Fu hb.2)
    · cases e
  | pe j off=>
    replace e:dPe src j off c=some x:=e
    unfold dPe at e
    split at e
    · rename_i k i off'
      cases hb:Nat.beq off off'&&Ar src[j]? k with
      |false=>rw [hb]at e;cases e
      | true=>
        rw [hb]at e;cases e
        simp only [Bool.and_eq_true]at hb
        have:=Nat.eq_of_beq_eq_true hb.1;subst this
        exact .pe (Fu hb.2)
    · cases e
  | rp t=>
    replace e:dRp h fz t c=some x:=e
    unfold dRp at e
    split at e
    · rw [apL e];exact .rp _
    · rename_i k off
      cases hb:(Nat.beq off 0&&Qg k fz)with
      |false=>rw [hb]at e;cases e
      | true=>
        rw [hb]at e
        simp only [cond_true]at e
        rw [Bool.and_eq_true]at hb
        have:=Nat.eq_of_beq_eq_true hb.1;subst this
        have hz:=ND hb.2
        cases t with
        | n n=>
          replace e:(match lookO h k with| .box cs=>unN h fz n cs|_=>none)=some x:=e
          cases hl:lookO h k with
          |arr t xs=>rw [hl]at e;cases e
          |mp es=>rw [hl]at e;cases e
          |ra cs=>rw [hl]at e;cases e
          |ms es=>rw [hl]at e;cases e
          |dead=>rw [hl]at e;cases e
          | box cs=>
            rw [hl]at e
            replace e:unN h fz n cs=some x:=e
            have hf:=Y9 H e
            refine .frp hz (by rw [H.see k (.inl hz) (by rw [hl];intro h;cases h),hl];rfl) (λi y hy=> ?_) (H.frz k hz)
            obtain⟨x',h1,h2⟩:=hf.2 i (.c y) (by rw [List.getElem?_map];show((Jz n x)[i]?).map SC.c=_;rw [show(Jz n x)[i]? =some y from hy];rfl)
            refine⟨x',h1,?_⟩
            cases h2 with
            |c e=>exact .inl ⟨_,rfl,e⟩
            |frz a1 a2 a3=>exact .inr ⟨_,_,_,rfl,a1,a2,a3,.inl rfl⟩
            |frn a1 a2 a3 a4=>exact .inr ⟨_,_,_,rfl,a1,a2,a3,.inr ⟨rfl,a4⟩⟩
        |_=>cases e
    · cases e
  | fn f js=>
    replace e:dFn src f js c=some x:=e
    unfold dFn at e
    split at e
    · rename_i f' ks
      cases hb:Nat.beq f f'&&aj9 src js ks with
      |false=>rw [hb]at e;cases e
      | true=>
        simp only [Bool.and_eq_true]at hb
        have:=Nat.eq_of_beq_eq_true hb.1;subst this
        obtain⟨q1,q2⟩:=aby hb.2
        exact .fn q1 q2
    · cases e
  | mc j=>
    replace e:dMc src j c=some x:=e
    unfold dMc at e
    split at e
    · rename_i k
      cases hb:Ar src[j]? k with
      |false=>rw [hb]at e;cases e
      |true=>exact .mp (Fu hb)
    · cases e
  | fb f j off=>
    replace e:dFb src f j off c=some x:=e
    unfold dFb at e
    split at e
    · rename_i f' k off'
      cases hb:Nat.beq f f'&&Nat.beq off off'&&Ar src[j]? k with
      |false=>rw [hb]at e;cases e
      | true=>
        simp only [Bool.and_eq_true]at hb
        have h1:=Nat.eq_of_beq_eq_true hb.1.1
        have h2:=Nat.eq_of_beq_eq_true hb.1.2
        subst h1;subst h2
        exact .fb (Fu hb.2)
    · cases e
  | nl=>
    replace e:dNl c=some x:=e
    unfold dNl at e
    split at e
    · exact .c rfl
    · cases e
  |bot=>exact .bot _
theorem acn [Fuel] (H:Fits h fz src ko g h'):∀{ks:List CK} {cs:List SC} {v:VCs ks},dCs h fz src ko ks cs=some v->ag1 g h' src (· ∈fz) cs (eCs ks v)
  | [],[],v,e=>⟨rfl,λi x' hx=>by simp [eCs]at hx⟩
  | [],_::_,v,e=>by cases e
  |_::_,[],v,e=>by cases e
  | k ::r,c::cs,v,e=>by
    unfold dCs at e
    split at e
    · rename_i x u h1 h2
      cases e
      obtain⟨q1,q2⟩:=acn H h2
      refine⟨by simpa [eCs]using q1,λi x' hx=> ?_⟩
      cases i with
      |zero=>simp [eCs]at hx;subst hx;exact⟨c,rfl,akd H h1⟩
      |succ i=>simpa using q2 i x' (by simpa [eCs]using hx)
    · cases e
theorem ake [Fuel] (H:Fits h fz src ko g h'):∀{ov:List (Nat×CK)} {cs base:List SC} {v:VOv ov},dOv h fz src ko ov cs=some v->cs.length=base.length→
    (∀(i:Nat) x',base[i]? =some x'->afg i ov=false→∃x,cs[i]? =some x/\X4 g h' src (· ∈fz) x x')->ag1 g h' src (· ∈fz) cs (eOv ov v base)
  | [],cs,base,v,e,hl,hb=>⟨hl,λi x' hx=>hb i x' hx rfl⟩
  | (i0,k)::r,cs,base,v,e,hl,hb=>by
    unfold dOv at e
    split at e
    · rename_i c hc
      split at e
      · rename_i x u h1 h2
        cases e
        show ag1 g h' src (· ∈fz) cs (eOv r u (base.set i0 (eC k x)))
        refine ake H h2 (by simpa using hl) (λi x' hx hk=> ?_)
        by_cases hi:i0=i
        · subst hi
          have hlt:=aR hx
          simp at hlt
          rw [List.getElem?_set_self hlt]at hx
          cases hx
          exact⟨c,hc,akd H h1⟩
        · rw [List.getElem?_set_ne hi]at hx
          refine hb i x' hx ?_
          simp only [afg,Bool.or_eq_false_iff]
          refine⟨?_,hk⟩
          cases hq:Nat.beq i0 i with
          |false=>rfl
          |true=>exact absurd (Nat.eq_of_beq_eq_true hq) hi
      · cases e
    · cases e
theorem abz [Fuel]:∀(ov:List (Nat×CK)) (cs:List SC),(X6 ov cs).length=cs.length∧∀i,afg i ov=false->(X6 ov cs)[i]? =cs[i]?
  | [],cs=>⟨rfl,λi _=>rfl⟩
  | (j,k)::r,cs=>by
    obtain⟨q1,q2⟩:=abz r (cs.set j (.c (.val (.slice none 0 0))))
    refine⟨by simpa [X6]using q1,λi hi=> ?_⟩
    simp only [afg,Bool.or_eq_false_iff]at hi
    show(X6 r _)[i]? =_
    rw [q2 i hi.2,List.getElem?_set_ne]
    intro e;subst e;rw [Nat.beq_refl]at hi;cases hi.1
theorem anh [Fuel] (H:Fits h fz src ko g h') {n:N} {ov:List (Nat×CK)} {cs:List SC} {x:T n×VOv ov} (e:dW h fz src ko n ov cs=some x):ag1 g h' src (· ∈fz) cs (eOv ov x.2 ((Jz n x.1).map .c)):=by
  unfold dW at e
  split at e
  · rename_i y v h1 h2
    cases hn:ag3 ov with
    |false=>rw [hn]at e;cases e
    | true=>
      rw [hn]at e;cases e
      obtain⟨q1,q2⟩:=Y9 H h1
      obtain⟨r1,r2⟩:=abz ov cs
      refine ake H h2 (by rw [<-q1,r1]) (λi x' hx hk=> ?_)
      obtain⟨x,e1,e2⟩:=q2 i x' hx
      rw [r2 i hk]at e1
      exact⟨x,e1,e2⟩
  · cases e
theorem afS [Fuel] {s:SV} {c:SC} (e:cellOf s=some c):s= .one (.s c):=by
  unfold cellOf at e
  split at e
  · cases e;rfl
  · cases e
theorem Qt [Fuel] {s:SV} {c:List SC} (e:UY s=some c):s= .one (.agg c):=by
  unfold UY at e
  split at e
  · cases e;rfl
  · cases e
theorem apM [Fuel] (H:Fits h fz src ko g h') {k:SK} {s:SV} {x:VS k} (e:dS h fz src ko k s=some x):aj4 g h' src (· ∈fz) s (eS k x):=by
  cases k with
  | c k=>
    simp only [dS]at e
    split at e
    · rename_i c hc;rw [afS hc];exact akd H e
    · cases e
  | st n=>
    simp only [dS]at e
    split at e
    · rename_i c hc;rw [Qt hc];exact Y9 H e
    · cases e
  | sw n ov=>
    simp only [dS]at e
    split at e
    · rename_i c hc;rw [Qt hc];exact anh H e
    · cases e
  | ag ks=>
    simp only [dS]at e
    split at e
    · rename_i c hc;rw [Qt hc];exact acn H e
    · cases e
theorem aco [Fuel] (H:Fits h fz src ko g h') {σ:List (Nat×SV)}:∀{ks:List (Nat×SK)} {v:VSs ks},dSs h fz src ko σ ks=some v→∀x s',look (eSs ks v) x=some s'→∃s,look σ x=some s/\aj4 g h' src (· ∈fz) s s'
  | [],v,e,x,s',hx=>by cases hx
  | (y, k)::r,v,e,x,s',hx=>by
    unfold dSs at e
    split at e
    · rename_i s hs
      split at e
      · rename_i a u h1 h2
        cases e
        simp only [eSs,look]at hx
        cases hb:Nat.beq y x with
        | true=>
          rw [hb]at hx;cases hx
          have:=Nat.eq_of_beq_eq_true hb;subst this
          exact⟨s,hs,apM H h1⟩
        |false=>rw [hb]at hx;exact aco H h2 x s' hx
      · cases e
    · cases e
theorem Ws [Fuel] {s:Option Nat} {cs:List SC} (H:Fits h fz src ko g h') (hs:s∈src) (e:ad7 h s=some cs):∃i,s=some i/\g i= .box cs:=by
  unfold ad7 at e
  split at e
  · rename_i i
    split at e
    · rename_i hl;cases e;exact⟨i,rfl,by rw [H.see i (.inr hs) (by rw [hl];intro h;cases h),hl];rfl⟩
    · cases e
  · cases e
theorem apN [Fuel] (H:Fits h fz src ko g h') {s:Option Nat} (hsrc:s∈src) {k:OK} {x:VO k} (e:dO h fz src ko s k=some x):
    eO k x= .dead\/(∃i,s=some i/\aq0 g h' src (· ∈fz) (g i) (eO k x).er)\/(s=none∧∃z f,(eO k x).er= .arr z 0 f):=by
  cases k with
  |dd=>exact .inl rfl
  | ar t=>
    cases s with
    |none=>cases e;exact .inr (.inr ⟨rfl,_,_,rfl⟩)
    | some i=>
      have hl:=NG (show dA t (lookO h i)=some x from e)
      refine .inr (.inl ⟨i,rfl,?_⟩)
      rw [H.see i (.inr hsrc) (by rw [hl];intro h;cases h),hl]
      exact⟨rfl,rfl,rfl⟩
  | mo=>
    replace e:amh h s=some x:=e
    cases s with
    |none=>cases e
    | some i=>
      unfold amh at e
      simp only at e
      split at e
      · rename_i es hl
        cases e
        refine .inr (.inl ⟨i,rfl,?_⟩)
        rw [H.see i (.inr hsrc) (by rw [hl];intro h;cases h),hl]
        exact Eq.refl _
      · cases e
  | ms=>
    replace e:aq4 h s=some x:=e
    cases s with
    |none=>cases e
    | some i=>
      unfold aq4 at e
      simp only at e
      split at e
      · rename_i es hl
        cases e
        refine .inr (.inl ⟨i,rfl,?_⟩)
        rw [H.see i (.inr hsrc) (by rw [hl];intro h;cases h),hl]
        exact Eq.refl _
      · cases e
  | ra ks =>
    simp only [dO]at e
    split at e
    · rename_i cs hl
      unfold arR at hl
      split at hl
      · rename_i i
        split at hl
        · rename_i cs' hk
          cases hl
          refine .inr (.inl ⟨i,rfl,?_⟩)
          rw [H.see i (.inr hsrc) (by rw [hk];intro h;cases h),hk]
          have:=acn H e
          exact⟨rfl,this.1,this⟩
        · cases hl
      · cases hl
    · cases e
  | bs n=>
    simp only [dO]at e
    split at e
    · rename_i cs hl
      obtain⟨i,rfl,hi⟩:=Ws H hsrc hl
      exact .inr (.inl ⟨i,rfl,by rw [hi];exact Y9 H e⟩)
    · cases e
  | bw n ov=>
    simp only [dO]at e
    split at e
    · rename_i cs hl
      obtain⟨i,rfl,hi⟩:=Ws H hsrc hl
      exact .inr (.inl ⟨i,rfl,by rw [hi];exact anh H e⟩)
    · cases e
  | bx ks=>
    simp only [dO]at e
    split at e
    · rename_i cs hl
      obtain⟨i,rfl,hi⟩:=Ws H hsrc hl
      exact .inr (.inl ⟨i,rfl,by rw [hi];exact acn H e⟩)
    · cases e
theorem ani [Fuel]:∀{ss:List (Option Nat)} {ks:List OK} {v:VOs ks},dOs h fz src ko ss ks=some v->ss.length=ks.length∧
    ∀(j:Nat) (o:TO),(eOs ks v)[j]? =some o→∃s k,ss[j]? =some s/\ks[j]? =some k∧∃x:VO k,dO h fz src ko s k=some x/\o=eO k x
  | [],[],v,e=>⟨rfl,λj o ho=>by simp [eOs]at ho⟩
  | [],_::_,v,e=>by cases e
  |_::_,[],v,e=>by cases e
  | s ::ss,k::ks,v,e=>by
    unfold dOs at e
    split at e
    · rename_i a u h1 h2
      cases e
      obtain⟨q1,q2⟩:=ani h2
      refine⟨by simp [q1],λj o ho=> ?_⟩
      cases j with
      |zero=>simp [eOs]at ho;subst ho;exact⟨s,k,rfl,rfl,a,h1,rfl⟩
      |succ j=>simpa using q2 j o (by simpa [eOs]using ho)
    · cases e
theorem LU [Fuel]:∀(ks:List OK) (v:VOs ks),(eOs ks v).length=ks.length
  | [],v=>rfl
  |k::r,v=>by simp [eOs,LU r v.2]
end
theorem wJ [Fuel] {k:Nat}:∀{src:List (Option Nat)} {ks:List OK},Ua k src ks=true→∀(v:VOs ks) (j:Nat),src[j]? =some (some k)->(eOs ks v)[j]? =some TO.dead
  | [],[],_,v,j,hj=>by simp at hj
  | some k'::r,.dd::ks,e,v,j,hj=>by
    cases j with
    |zero=>rfl
    |succ j=>exact wJ (src:=r) (ks:=ks) e v.2 j (by simpa using hj)
  | some k'::r,.bs n::ks,e,v,j,hj=>by
    simp only [Ua,Bool.and_eq_true]at e
    cases j with
    |zero=>simp at hj;subst hj;simp at e
    |succ j=>exact wJ e.2 v.2 j (by simpa using hj)
  | some k'::r,.bw n ov::ks,e,v,j,hj=>by
    simp only [Ua,Bool.and_eq_true]at e
    cases j with
    |zero=>simp at hj;subst hj;simp at e
    |succ j=>exact wJ e.2 v.2 j (by simpa using hj)
  | some k'::r,.bx xs::ks,e,v,j,hj=>by
    simp only [Ua,Bool.and_eq_true]at e
    cases j with
    |zero=>simp at hj;subst hj;simp at e
    |succ j=>exact wJ e.2 v.2 j (by simpa using hj)
  | some k'::r,.ms::ks,e,v,j,hj=>by
    simp only [Ua,Bool.and_eq_true]at e
    cases j with
    |zero=>simp at hj;subst hj;simp at e
    |succ j=>exact wJ e.2 v.2 j (by simpa using hj)
  | some k'::r,.ra xs::ks,e,v,j,hj=>by
    simp only [Ua,Bool.and_eq_true]at e
    cases j with
    |zero=>simp at hj;subst hj;simp at e
    |succ j=>exact wJ e.2 v.2 j (by simpa using hj)
  | some k'::r,.mo::ks,e,v,j,hj=>by
    simp only [Ua,Bool.and_eq_true]at e
    cases j with
    |zero=>simp at hj;subst hj;simp at e
    |succ j=>exact wJ e.2 v.2 j (by simpa using hj)
  | some k'::r,.ar t::ks,e,v,j,hj=>by
    simp only [Ua,Bool.and_eq_true]at e
    cases j with
    |zero=>simp at hj;subst hj;simp at e
    |succ j=>exact wJ e.2 v.2 j (by simpa using hj)
  | none::r,_::ks,e,v,j,hj=>by
    cases j with
    |zero=>simp at hj
    |succ j=>exact wJ (src:=r) (ks:=ks) (by simpa [Ua]using e) v.2 j (by simpa using hj)
  |_::_,[],e,v,j,hj=>by simp [Ua]at e
  | [],_::_,e,v,j,hj=>by simp at hj
theorem xX [Fuel] {k:Nat}:∀{src:List (Option Nat)} {ks:List OK} (v:VOs ks),afP k src ks=false→∀j:Nat,src[j]? =some (some k)->(eOs ks v)[j]? =some TO.dead\/ks.length<=j
  | [],ks,v,_,j,hj=>by simp at hj
  |s::r,[],v,_,j,hj=> .inr (Nat.zero_le _)
  | some k'::r,.dd::ks,v,e,j,hj=>by
    cases j with
    |zero=>exact .inl rfl
    | succ j => rcases xX (ks:=ks) v.2 e j (by simpa using hj)with h|h
                · exact .inl h
                · exact .inr (by simpa using h)
  | none::r,k0::ks,v,e,j,hj=>by
    cases j with
    |zero=>simp at hj
    | succ j => rcases xX (ks:=ks) v.2 (by simpa [afP]using e) j (by simpa using hj)with h|h
                · exact .inl h
                · exact .inr (by simpa using h)
  | some k'::r,.bs n::ks,v,e,j,hj=>by
    simp only [afP,Bool.or_eq_false_iff]at e
    cases j with
    |zero=>simp at hj;subst hj;rw [Nat.beq_refl]at e;cases e.1
    | succ j => rcases xX (ks:=ks) v.2 e.2 j (by simpa using hj)with h|h
                · exact .inl h
                · exact .inr (by simpa using h)
  | some k'::r,.bw n ov::ks,v,e,j,hj=>by
    simp only [afP,Bool.or_eq_false_iff]at e
    cases j with
    |zero=>simp at hj;subst hj;rw [Nat.beq_refl]at e;cases e.1
    | succ j => rcases xX (ks:=ks) v.2 e.2 j (by simpa using hj)with h|h
                · exact .inl h
                · exact .inr (by simpa using h)
  | some k'::r,.bx xs::ks,v,e,j,hj=>by
    simp only [afP,Bool.or_eq_false_iff]at e
    cases j with
    |zero=>simp at hj;subst hj;rw [Nat.beq_refl]at e;cases e.1
    | succ j => rcases xX (ks:=ks) v.2 e.2 j (by simpa using hj)with h|h
                · exact .inl h
                · exact .inr (by simpa using h)
  | some k'::r,.ms::ks,v,e,j,hj=>by
    simp only [afP,Bool.or_eq_false_iff]at e
    cases j with
    |zero=>simp at hj;subst hj;rw [Nat.beq_refl]at e;cases e.1
    | succ j => rcases xX (ks:=ks) v.2 e.2 j (by simpa using hj)with h|h
                · exact .inl h
                · exact .inr (by simpa using h)
  | some k'::r,.ra xs::ks,v,e,j,hj=>by
    simp only [afP,Bool.or_eq_false_iff]at e
    cases j with
    |zero=>simp at hj;subst hj;rw [Nat.beq_refl]at e;cases e.1
    | succ j => rcases xX (ks:=ks) v.2 e.2 j (by simpa using hj)with h|h
                · exact .inl h
                · exact .inr (by simpa using h)
  | some k'::r,.mo::ks,v,e,j,hj=>by
    simp only [afP,Bool.or_eq_false_iff]at e
    cases j with
    |zero=>simp at hj;subst hj;rw [Nat.beq_refl]at e;cases e.1
    | succ j => rcases xX (ks:=ks) v.2 e.2 j (by simpa using hj)with h|h
                · exact .inl h
                · exact .inr (by simpa using h)
  | some k'::r,.ar t::ks,v,e,j,hj=>by
    simp only [afP,Bool.or_eq_false_iff]at e
    cases j with
    |zero=>simp at hj;subst hj;rw [Nat.beq_refl]at e;cases e.1
    | succ j => rcases xX (ks:=ks) v.2 e.2 j (by simpa using hj)with h|h
                · exact .inl h
                · exact .inr (by simpa using h)
theorem Za [Fuel]:∀{src:List (Option Nat)} {ks:List OK} (v:VOs ks),src.length=ks.length->O4 src ks=true→∀(i j k:Nat),src[i]? =some (some k)->src[j]? =some (some k)->(eOs ks v)[i]? ≠some TO.dead->(eOs ks v)[j]? ≠some TO.dead->i=j
  | [],ks,v,_,_,i,j,k,hi,_,_,_=>by simp at hi
  |_::_,[],v,hl,_,i,j,k,_,_,_,_=>by simp at hl
  | s ::r,k0::ks,v,hl,e,i,j,k,hi,hj,di,dj=>by
    have arS:O4 r ks=true:=by
      cases s with
      |none=>simpa [O4]using e
      |some q=>cases k0<;>first|(simpa [O4]using e)|(simp only [O4,Bool.and_eq_true]at e;exact e.2)
    cases i with
    | zero=>
      cases j with
      |zero=>rfl
      | succ j=>
        simp at hi;subst hi
        exfalso
        have hno:afP k r ks=false:=by
          cases k0<;>first|(exact absurd rfl di)|(simp only [O4,Bool.and_eq_true,Bool.not_eq_true']at e;exact e.1)
        have hj:r[j]? =some (some k):=by simpa using hj
        rcases xX v.2 hno j hj with h|h
        · exact dj h
        · have:=aR hj;simp at hl;omega
    | succ i=>
      cases j with
      | zero=>
        simp at hj;subst hj
        exfalso
        have hno:afP k r ks=false:=by
          cases k0<;>first|(exact absurd rfl dj)|(simp only [O4,Bool.and_eq_true,Bool.not_eq_true']at e;exact e.1)
        have hi:r[i]? =some (some k):=by simpa using hi
        rcases xX v.2 hno i hi with h|h
        · exact di h
        · have:=aR hi;simp at hl;omega
      |succ j=>rw [Za v.2 (by simpa using hl) arS i j k (by simpa using hi) (by simpa using hj) di dj]
theorem ad8 [Fuel]:∀{p i:Nat} {src:List (Option Nat)},preO p i src=true→∀j,j<p->src[j]? =some (some (i+j))
  |0,i,src,_,j,hj=>by omega
  |p+1,i,[],e,j,hj=>by simp [preO]at e
  |p+1,i,none::r,e,j,hj=>by simp [preO]at e
  | p+1,i,some k::r,e,j,hj=>by
    simp only [preO,Bool.and_eq_true]at e
    have:=Nat.eq_of_beq_eq_true e.1;subst this
    cases j with
    |zero=>rfl
    |succ j=>rw [List.getElem?_cons_succ,ad8 e.2 j (by omega)];congr 2;omega
theorem Zb [Fuel]:∀(l:List TO) (i k:Nat),lookO (anf i l) k=if i<=k then(l[k - i]?).getD .dead else .dead
  | [],i,k=>by simp [anf,lookO]
  | o ::r,i,k=>by
    simp only [anf,lookO]
    cases hb:Nat.beq i k with
    |true=>have:=Nat.eq_of_beq_eq_true hb;subst this;simp
    | false=>
      have hne:i≠k:=λe=>by subst e;rw [Nat.beq_refl]at hb;cases hb
      rw [cond_false,Zb r (i+1) k]
      by_cases hk:i+1<=k
      · rw [if_pos hk,if_pos (by omega)]
        have:k - i=(k - (i+1))+1:=by omega
        rw [this,List.getElem?_cons_succ]
      · rw [if_neg hk,if_neg (by omega)]
def TS.ok (ts:TS):Prop:=∀k,ts.n<=k->lookO ts.h k= .dead
theorem abA [Fuel] (sh:Shape) (v:sh.V):(enc sh v).ok:=by
  intro k hk
  show lookO (anf 0 (eOs sh.objs v.2)) k= .dead
  rw [Zb,if_pos (Nat.zero_le _),List.getElem?_eq_none (by rw [LU];exact hk)];rfl
theorem apO [Fuel] (l:List TO):erH (anf 0 l) l.length=l.map TO.er:=by
  apply List.ext_getElem?
  intro k
  rw [T9,Zb,if_pos (Nat.zero_le _),List.getElem?_map]
  by_cases hk:k<l.length
  · rw [if_pos hk,Nat.sub_zero,List.getElem?_eq_getElem hk];rfl
  · rw [if_neg hk,List.getElem?_eq_none (by omega)];rfl
theorem akf [Fuel] (sh:Shape) (v:sh.V):(enc sh v).er=⟨eSs sh.slots v.1,(eOs sh.objs v.2).map TO.er⟩:=by
  show(⟨_,erH (anf 0 (eOs sh.objs v.2)) sh.objs.length⟩:St)=_
  rw [<-LU sh.objs v.2,apO];rfl
theorem UZ [Fuel]:∀(om:List (Nat×Option Nat)) (j n:Nat),(aiv om j n).length=n
  |_,_,0=>rfl
  |om,j,n+1=>by simp [aiv,UZ om (j+1) n]
theorem afT [Fuel] {sh:Shape} {p:Nat} {ts:TS} {v:sh.V} {g:Nat->bF} (hg:∀k,(k∈(Y7 sh p ts).fz\/some k∈aiv (Y7 sh p ts).om 0 sh.objs.length)->lookO ts.h k≠.dead->g k=(lookO ts.h k).er) (e:dec sh p ts=some v):
    let o:=Y7 sh p ts
    let src:=aiv o.om 0 sh.objs.length
    let h':=(eOs sh.objs v.2).map TO.er
    Fits ts.h o.fz src sh.objs g h'/\adn p g h' src (· ∈o.fz)/\dSs ts.h o.fz src sh.objs ts.σ sh.slots=some v.1:=by
  intro o src h'
  unfold dec at e
  simp only at e
  cases hb:O4 (aiv (Y7 sh p ts).om 0 sh.objs.length) sh.objs&&preO p 0 (aiv (Y7 sh p ts).om 0 sh.objs.length)&&(Y7 sh p ts).fz.all (λk=>Ua k (aiv (Y7 sh p ts).om 0 sh.objs.length) sh.objs)with
  |false=>rw [hb]at e;cases e
  | true=>
    rw [hb]at e
    simp only [cond_true]at e
    split at e
    · rename_i a b h1 h2
      cases e
      simp only [Bool.and_eq_true]at hb
      obtain⟨⟨b1,b2⟩,b3⟩:=hb
      obtain⟨q1,q2⟩:=ani h2
      have hat:∀(j:Nat) (o':bF),h'[j]? =some o'→∃o,(eOs sh.objs b)[j]? =some o/\o'=o.er:=by
        intro j o' ho
        simp only [h',List.getElem?_map]at ho
        cases hq:(eOs sh.objs b)[j]? with
        |none=>rw [hq]at ho;cases ho
        |some o=>rw [hq]at ho;cases ho;exact⟨o,rfl,rfl⟩
      have F:Fits ts.h o.fz src sh.objs g h':=by
        refine⟨hg,λk hk j hj=> ?_,λj hs har=> ?_⟩
        · have:=wJ ((List.all_eq_true.1 b3) k hk) b j hj
          simp only [h',List.getElem?_map,this];rfl
        · have hjl:j<sh.objs.length:=by have:=aR hs;rwa [UZ]at this
          obtain⟨s,k,e1,e2,x,e3,e4⟩:=q2 j ((eOs sh.objs b)[j]'(by rw [LU];exact hjl)) (List.getElem?_eq_getElem _)
          rw [show(aiv (Y7 sh p ts).om 0 sh.objs.length)[j]? =some none from hs]at e1
          cases e1
          rw [e2]at har
          cases k<;>first|(cases har;done)|skip
          rename_i t
          cases e3
          refine⟨wd t,fE t ([]:List (den t)),?_⟩
          simp only [h',List.getElem?_map,List.getElem?_eq_getElem (show j<(eOs sh.objs b).length by rw [LU];exact hjl),e4]
          rfl
      have Wm:∀j:Nat,h'[j]? ≠some bF.dead->(eOs sh.objs b)[j]? ≠some TO.dead:=by
        intro j hj hd
        apply hj
        simp only [h',List.getElem?_map,hd];rfl
      refine⟨F,⟨by simp only [src,h',UZ,List.length_map,LU],λj o' ho=> ?_,λi j k hi hj di dj=>Za b (by rw [UZ]) b1 i j k hi hj (Wm i di) (Wm j dj),λj hj=>by have:=ad8 b2 j hj;rwa [Nat.zero_add]at this⟩,h1⟩
      obtain⟨o1,ho1,rfl⟩:=hat j o' ho
      obtain⟨s,k,e1,e2,x,e3,rfl⟩:=q2 j o1 ho1
      rcases apN F (List.mem_of_getElem? e1) e3 with e4|⟨i,rfl,e4⟩|⟨rfl,z,f,e4⟩
      · rw [e4];exact .inl rfl
      · exact .inr (.inl ⟨i,e1,e4⟩)
      · exact .inr (.inr ⟨e1,z,f,e4⟩)
    · cases e
theorem akg [Fuel] {ts:TS} (hok:ts.ok):∀k,lookO ts.h k≠.dead->mX ts.er.h k=(lookO ts.h k).er:=by
  intro k hk
  have hlt:k<ts.n:=by
    rcases Nat.lt_or_ge k ts.n with h|h
    · exact h
    · exact absurd (hok k h) hk
  show((erH ts.h ts.n)[k]?).getD .dead=_
  rw [T9,if_pos hlt];rfl
theorem apP [Fuel] {sh:Shape} {p:Nat} {ts:TS} {v:sh.V} (hok:ts.ok) (e:dec sh p ts=some v):Le p ts.er (enc sh v).er:=by
  obtain⟨F,FH,hs⟩:=afT (λk _ hk=>akg hok k hk) e
  rw [akf]
  exact apI (st':=⟨eSs sh.slots v.1,(eOs sh.objs v.2).map TO.er⟩) FH (λx s' hx=>aco F hs x s' hx)
end Go.AM
namespace Go.AM
open Go Go.CP Go.RowKit
section
variable {ρ ρ':Operand->Option SV}
theorem U0 [Fuel] (hρ:∀x s,ρ x=some s->ρ' x=some s):∀{l:List (Nat×Operand)} {r:List (Nat×AV)},partsOf ρ l=some r->partsOf ρ' l=some r
 | [],r,h=>h
 |(i,x)::l,r,h=>by
  simp only [partsOf]at h⊢
  split at h
  ·rename_i v l' h1 h2;rw [hρ x _ h1,U0 hρ h2];exact h
  ·cases h
theorem Zc [Fuel] (hρ:∀x s,ρ x=some s->ρ' x=some s):∀{l:List Operand} {r:List Value},JF ρ l=some r->JF ρ' l=some r
 | [],r,h=>h
 |x::l,r,h=>by
  simp only [JF]at h⊢
  split at h
  ·rename_i v l' h1 h2;rw [hρ x _ h1,Zc hρ h2];exact h
  ·cases h
theorem ag5 [Fuel] (hρ:∀x s,ρ x=some s->ρ' x=some s):∀{l:List Operand} {r:List Nat},Xk ρ l=some r->Xk ρ' l=some r
 | [],r,h=>h
 |x::l,r,h=>by
  simp only [Xk]at h⊢
  split at h
  ·rename_i v l' h1 h2;rw [hρ x _ h1,ag5 hρ h2];exact h
  ·cases h
theorem akh [Fuel] (hρ:∀x s,ρ x=some s->ρ' x=some s):∀{l:List Operand} {r:List SV},YX ρ l=some r->YX ρ' l=some r
 | [],r,h=>h
 |x::l,r,h=>by
  simp only [YX]at h⊢
  split at h
  ·rename_i v l' h1 h2;rw [hρ x _ h1,akh hρ h2];exact h
  ·cases h
theorem acp [Fuel] (hρ:∀x s,ρ x=some s->ρ' x=some s) {x:Option Operand} {r:Option Int} (h:O0 ρ x=some r):O0 ρ' x=some r:=by
 cases x with
 |none=>exact h
 |some x=>
  simp only [O0]at h⊢
  split at h
  ·rename_i h1;rw [hρ x _ h1];exact h
  ·cases h
theorem amj [Fuel] (hρ:∀x s,ρ x=some s->ρ' x=some s) {P:Program} {id:Nat} {get:Nat->bF} {o:Op} {e:Eff} (he:evalOp P id ρ get o=some e):evalOp P id ρ' get o=some e:=by
 have one:∀{x:Operand} {F:SV->Option Eff},(match ρ x with|some v=>F v|none=>none)=some e->(match ρ' x with|some v=>F v|none=>none)=some e:=by
  intro x F h
  cases hx:ρ x with
  |none=>rw [hx]at h;cases h
  |some v=>rw [hx]at h;rw [hρ x v hx];exact h
 cases o with
 |move x=>exact one (F:=λv=>some {r:=v}) he
 |assign x=>exact one (F:=λv=>some {r:=v}) he
 |pick c a b=>
  simp only [evalOp]at he⊢
  split at he
  ·rename_i h1;rw [hρ c _ h1];exact one (F:=λv=>some {r:=v}) he
  ·rename_i h1;rw [hρ c _ h1];exact one (F:=λv=>some {r:=v}) he
  ·cases he
 |box T x=>
  simp only [evalOp]at he⊢
  split at he
  ·rename_i h1;rw [hρ x _ h1];exact he
  ·cases he
 |build t ps=>
  simp only [evalOp]at he⊢
  split at he
  ·rename_i h1;rw [U0 hρ h1];exact he
  ·cases he
 |buildSlice t n ps=>
  simp only [evalOp]at he⊢
  split at he
  ·rename_i h1;rw [U0 hρ h1];exact he
  ·cases he
 |load T a=>
  simp only [evalOp]at he⊢
  split at he
  ·rename_i h1;rw [hρ a _ h1];exact he
  ·cases he
 |store T a v=>
  simp only [evalOp]at he⊢
  split at he
  ·rename_i h1 h2;rw [hρ a _ h1,hρ v _ h2];exact he
  ·cases he
 |nilCheck x=>
  simp only [evalOp]at he⊢
  split at he
  ·rename_i h1;rw [hρ x _ h1];exact he
  ·cases he
 |binOp op t x y u=>
  simp only [evalOp]at he⊢
  split at he
  ·rename_i h1 h2;rw [hρ x _ h1,hρ y _ h2];exact he
  ·cases he
 |unOp op t x=>
  simp only [evalOp]at he⊢
  split at he
  ·rename_i h1;rw [hρ x _ h1];exact he
  ·cases he
 |convert s d x=>
  simp only [evalOp]at he⊢
  split at he
  ·rename_i h1 h2 h3;rw [h1,h2,hρ x _ h3];exact he
  ·rename_i h1 h2 h3;rw [h1,h2,hρ x _ h3];exact he
  ·rename_i h1 h2 h3;rw [h1,h2,hρ x _ h3];exact he
  ·cases he
 |makeFunc fn first caps=>
  simp only [evalOp]at he⊢
  split at he
  ·rename_i h1;rw [ag5 hρ h1];exact he
  ·cases he
 |makeSlice t l c=>
  simp only [evalOp]at he⊢
  split at he
  ·rename_i h1 h2;rw [hρ l _ h1,hρ c _ h2];exact he
  ·cases he
 |slice t x lo hi mx=>
  simp only [evalOp]at he⊢
  split at he
  ·rename_i h1 h2 h3 h4;rw [hρ x _ h1,acp hρ h2,acp hρ h3,acp hρ h4];exact he
  ·cases he
 |fieldAddr s x f=>
  simp only [evalOp]at he⊢
  split at he
  ·rename_i h1;rw [hρ x _ h1];exact he
  ·cases he
 |field s x f=>
  simp only [evalOp]at he⊢
  split at he
  ·rename_i h1 h2;rw [hρ x _ h1,h2];exact he
  ·cases he
 |indexAddr t x i=>
  simp only [evalOp]at he⊢
  split at he
  ·rename_i h1 h2;rw [hρ x _ h1,hρ i _ h2];exact he
  ·cases he
 |index t x i=>
  simp only [evalOp]at he⊢
  split at he
  ·rename_i h1 h2 h3;rw [h1,hρ x _ h2,hρ i _ h3];exact he
  ·cases he
 |extract x i=>
  simp only [evalOp]at he⊢
  split at he
  ·rename_i h1;rw [hρ x _ h1];exact he
  ·cases he
 | call c=>
  simp only [evalOp]at he⊢
  cases hc:c.callee with
  | builtin b=>
   rw [hc]at he
   simp only at he⊢
   unfold GZ at he⊢
   split at he
   ·exact one he
   ·split at he
    ·rename_i h1 h2 h3;rw [hρ _ _ h1,hρ _ _ h2,h3];exact he
    ·rename_i h1 h2 h3;rw [hρ _ _ h1,hρ _ _ h2,h3];exact he
    ·cases he
   ·split at he
    ·rename_i h1 h2;rw [hρ _ _ h1,hρ _ _ h2];exact he
    ·cases he
   ·split at he
    ·rename_i h1;rw [hρ _ _ h1];exact he
    ·cases he
   ·split at he
    ·rename_i h1 h2;rw [hρ _ _ h1,h2];exact he
    ·cases he
   ·split at he
    ·rename_i h1;rw [Zc hρ h1];exact he
    ·cases he
   ·split at he
    ·rename_i h1;rw [Zc hρ h1];exact he
    ·cases he
   ·cases he
  |_=>rw [hc]at he;cases he
 |lookup t x i ok=>
  simp only [evalOp]at he⊢
  unfold adE at he⊢
  split at he
  ·rename_i h1 h2 h3;rw [h1,hρ x _ h2,hρ i _ h3];exact he
  ·cases he
 |mapUpdate t x i v=>
  simp only [evalOp]at he⊢
  unfold ajD at he⊢
  split at he
  ·rename_i h1 h2 h3 h4;rw [h1,hρ x _ h2,hρ i _ h3,hρ v _ h4];exact he
  ·cases he
 |makeMap t r=>cases r<;>exact he
 |_=>exact he
theorem an9 [Fuel] (hρ:∀x s,ρ x=some s->ρ' x=some s) {P:Program} {id:Nat} {get:Nat->bF} {o:Op} {e:Eff} (he:vY P id ρ get o=some e):vY P id ρ' get o=some e:=by
 cases o with
 |load T a=>
  simp only [vY]at he⊢
  split at he
  ·rename_i h1;rw [hρ _ _ h1];exact he
  ·cases he
 |store T a v=>
  simp only [vY]at he⊢
  split at he
  ·rename_i h1 h2;rw [hρ _ _ h1,hρ _ _ h2];exact he
  ·cases he
 |indexAddr t x i=>
  simp only [vY]at he⊢
  split at he
  ·rename_i h1 h2;rw [hρ _ _ h1,hρ _ _ h2];exact he
  ·cases he
 |buildSlice t n ps=>
  simp only [vY]at he⊢
  split at he
  ·rename_i h1;rw [U0 hρ h1];exact he
  ·cases he
 | makeFunc f first caps=>
  simp only [vY]at he⊢
  split at he
  ·split at he
   ·rename_i h1;rw [hρ _ _ h1];exact he
   ·cases he
  ·cases he
 |binOp op t x y u=>
  simp only [vY]at he⊢
  split at he
  ·rename_i h1 h2;rw [hρ _ _ h1,hρ _ _ h2];exact he
  ·cases he
 |makeMap t r=>cases r<;>exact he
 |lookup t x i ok=>
  simp only [vY]at he⊢
  split at he
  ·rename_i h1 h2;rw [hρ _ _ h1,hρ _ _ h2];exact he
  ·cases he
 |mapUpdate t x i v=>
  simp only [vY]at he⊢
  split at he
  ·rename_i h1 h2 h3;rw [hρ _ _ h1,hρ _ _ h2,hρ _ _ h3];exact he
  ·cases he
 |index t x i=>
  simp only [vY]at he⊢
  split at he
  ·rename_i h1 h2 h3;rw [h1,hρ _ _ h2,hρ _ _ h3];exact he
  ·cases he
 |unOp op t x=>
  cases op<;>first|(cases he;done)|skip
  simp only [vY]at he⊢
  split at he
  ·rename_i h1;rw [hρ _ _ h1];exact he
  ·cases he
 | call c=>
  simp only [vY]at he⊢
  split at he
  ·split at he
   ·rename_i h1;rw [hρ _ _ h1];exact he
   ·cases he
  ·split at he
   ·rename_i h1 h2 h3;rw [hρ _ _ h1,hρ _ _ h2,h3];exact he
   ·cases he
  ·cases he
 |_=>exact he
end
end Go.AM
namespace Go.AM
open Go Go.RowKit Go.CP
structure RoS (V β:Type) (F:V->Option β) where
 R:Type
 Fr:V->Option R
 dr:R
 pr:R->V->β
 hF:∀v,F v=(Fr v).bind λx=>some (pr x v)
structure aS where
 f:FuncId
 ps:Shape
 rs:Shape
 β:Type
 F:ps.V->Option β
 g:β->rs.V
 d:ps.V->β
 dk:Bool:=false
 hd:dk=true→∀v,(eOs rs.objs (g (d v)).2).take ps.objs.length=eOs ps.objs v.2:=by intro h;cases h
 ro:Option (RoS ps.V β F):=none
 hr:∀q,ro=some q→∀v x,(eOs rs.objs (g (q.pr x v)).2).take ps.objs.length=eOs ps.objs v.2:=by intro q h;cases h
def anj:SV->AV
 | .one a=>a
 | .tup _=> .s .bot
def aaA:List (Nat×SV)->SV
 | [(_,s)]=> .one (anj s)
 |l=> .tup (l.map λp=>anj p.2)
def bL [Fuel] (P:Program) (S:aS):Prop:=
 (∀(vs:Array Value) (w:World),(callFunc S.f vs).run P w= .ok (.enter S.f vs) w)∧
 ∀v r,S.F v=some r->Jb P S.f ((eSs S.ps.slots v.1).map (·.2)) ((eOs S.ps.objs v.2).map TO.er)
  (λr' h'=>r'=aaA (eSs S.rs.slots (S.g r).1)/\h'=(eOs S.rs.objs (S.g r).2).map TO.er)
structure Cx where
 P:Program
 nt:Nat
 tm:List (Nat×Ty)
 T:List aS
 V:List (Nat×Nat×Nat)
def aoa:List (Nat×Ty)->Nat->Option Ty
 | [],_=>none
 |(j,t)::r,i=>bif Nat.beq j i then some t else aoa r i
def ag6 (f:FuncId):List aS->Option aS
 | []=>none
 |S::r=>bif Nat.beq S.f f then some S else ag6 f r
def ank (a b:Nat):List (Nat×Nat×Nat)->Option Nat
 | []=>none
 |(x,y,i)::r=>bif Nat.beq x a&&Nat.beq y b then some i else ank a b r
def Cx.spec (C:Cx) (site:Nat×Nat) (f:FuncId):Option aS:=
 match ank site.1 site.2 C.V with
 |some i=>C.T[i]?
 |none=>ag6 f C.T
def atU {β:Type} (g:Option Bool) (b:Bool) (k:Option β):Option β:=
 match g with
 |none=>chk b k
 |some g=>chk (!g||b) k
def amk {β:Type} (g:Option Bool):List Bool->Option β->Option β
 | [],k=>k
 |b::r,k=>atU g b (amk g r k)
def aob {α β:Type} (g:Option Bool) (m:Option α) (d:α) (k:α->Option β):Option β:=
 match g with
 |none=>m.bind k
 |some g=>(bif g then m else some d).bind k
def LV (h:List (Nat×TO)) (R:List Nat):Nat->bF:=λk=>bif Qg k R then(lookO h k).er else .dead
def erW (ws:List (Nat×TO)):List (Nat×bF):=ws.map λp=>(p.1,p.2.er)
def toT:List (Nat×bF)->Option (List (Nat×TO))
 | []=>some []
 |(k,.box cs)::r=>match toT r with
  |some l=>some ((k,.box cs)::l)
  |none=>none
 |(k,.dead)::r=>match toT r with
  |some l=>some ((k,.dead)::l)
  |none=>none
 |(k,.mp es)::r=>match toT r with
  |some l=>some ((k,.mp es)::l)
  |none=>none
 |(k,.ms es)::r=>match toT r with
  |some l=>some ((k,.ms es)::l)
  |none=>none
 |(k,.ra 1 n cs)::r=>bif Nat.beq n cs.length then(match toT r with
  |some l=>some ((k,.ra cs)::l)
  |none=>none)else none
 |_=>none
def aq6 (t:Ty) (f:Nat->List CV):Nat->Nat->Option (List (den t))
 |0,_=>some []
 |n+1,j=>match unT t (f j),aq6 t f n (j+1)with
  |some x,some l=>some (x::l)
  |_,_=>none
def aml (h:List (Nat×TO)) (t:Ty):SC->Option (List (den t))
 | .c (.ls t' ys)=>aaz t' t ys
 | .c (.val (.slice none 0 0))=>some []
 | .c .e0=>some []
 | .own k=>dA t (lookO h k)
 | .sl k lo len=>match dA t (lookO h k)with
  |some ys=>some ((ys.drop lo).take len)
  |none=>none
 |_=>none
def aoc (h:List (Nat×TO)) (t:Ty) (id:Nat) (ys:List (den t)):SC->Option (List (Nat×TO))
 | .own k=>match dA t (lookO h k)with
  |some xs=>some [(k,.dead),(id,.arr t (xs++ys))]
  |none=>none
 | .c (.val (.slice none 0 0))=>some [(id,.arr t ys)]
 | .c .e0=>some [(id,.arr t ys)]
 |_=>none
def apQ (t:Ty) (xs:List (den t)):Option Int->Option Int->Option (List (den t))
 |none,some b=>some (xs.take b.toNat)
 |some a,none=>some (xs.drop a.toNat)
 |some a,some b=>some ((xs.take b.toNat).drop a.toNat)
 |none,none=>none
def amm:Option SV->Option SC
 |some (.one (.s c))=>some c
 |_=>none
def aq7 (h:List (Nat×TO)):SC->Option (Nat×Nat×Nat)
 | .own k=>match lookO h k with
  | .arr _ xs=>some (k,0,xs.length)
  |_=>none
 | .sl k lo len=>some (k,lo,len)
 |_=>none
def aod:List (Nat×bF)->Nat->Bool
 | [(_,.arr z _ _)],w=>Nat.beq z w
 | [_,(_,.arr z _ _)],w=>Nat.beq z w
 |_,_=>false
def aki (h:List (Nat×TO)) (t:Ty):List Nat->Option (List (List (den t)))
 | []=>some []
 |k::r=>match dA t (lookO h k),aki h t r with
  |some xs,some l=>some (xs::l)
  |_,_=>none
def aoe:List Nat->List (Nat×TO)->List (Nat×TO)
 | [],l=>l
 |k::r,l=>(k,.dead)::aoe r l
def arT (C:Cx) (σr:List (Nat×SV)) (h:List (Nat×TO)) (id n:Nat) (t:TypeId) (ps:List (Nat×Operand)):Option (List (Nat×TO)):=
 match partsOf (opd σr) ps with
 | some (p::l)=>match Xi 0 (p::l),aoa C.tm t with
  |some ks,some (.l ty)=>match aki h ty ks with
   |some rows=>bif Nat.beq rows.length n then some (aoe ks [(id,.arr (.l ty) rows)])else none
   |none=>none
  |_,_=>none
 |_=>none
def typed (C:Cx) (σr:List (Nat×SV)) (h:List (Nat×TO)) (id:Nat) (op:Op) (e:Eff):Option (SV×List (Nat×TO)):=
 match op with
 | .makeSlice t _ _=>match e.ws,aoa C.tm t with
  | [(_,.arr z n f)],some ty=>match unT ty (f 0)with
   |some x=>bif Nat.beq z (wd ty)then some (e.r,[(id,.arr ty (List.replicate n x))])else none
   |none=>none
  |_,_=>none
 | .buildSlice t n ps=>match arT C σr h id n t ps.toList with
  |some ws=>some (e.r,ws)
  | none=>match e.ws,aoa C.tm t with
   | [(_,.arr z n f)],some ty=>match aq6 ty f n 0 with
    |some xs=>bif Nat.beq z (wd ty)then some (e.r,[(id,.arr ty xs)])else none
    |none=>none
   |_,_=>none
 | .store T a v=>match amm (opd σr a)with
  | some (.pe k i off)=>match lookO h k,opd σr v with
   | .arr t xs,some (.one v)=>match Mv (iq v)with
    |some ys=>match unT t (splice (afd t (xs.getD i default)) off ys)with
     |some x=>some (e.r,[(k,.arr t (xs.set i x))])
     |none=>none
    |none=>none
   |_,_=>none
  |_=>match toT e.ws with
   |some ws=>some (e.r,ws)
   |none=>none
 | .slice _ x lo hi mx=>match amm (opd σr x)with
  | some (.c (.ls t xs))=>match O0 (opd σr) lo,O0 (opd σr) hi,O0 (opd σr) mx with
   |some lo,some hi,some none=>match apQ t xs lo hi with
    |some ys=>some (.one (.s (.c (.ls t ys))),[])
    |none=>none
   |_,_,_=>none
  |_=>match toT e.ws with
   |some ws=>some (e.r,ws)
   |none=>none
 | .call c=>match c.callee,c.args.toList,c.argTypes.toList with
  | .builtin .append,[s,x],[t,_]=>match aoa C.tm t,amm (opd σr s),amm (opd σr x)with
   | some ty,_,some (.c (.val (.int _ _)))=>match e.ws with
    | [(_,.arr z n f)]=>match unT ty (f 0)with
     |some x=>bif Nat.beq z (wd ty)then some (e.r,[(id,.arr ty (List.replicate n x))])else none
     |none=>none
    |_=>none
   | some ty,some s,some x=>match aml h ty x with
    |some ys=>match aoc h ty id ys s with
     |some ws=>bif aod e.ws (wd ty)then some (e.r,ws)else none
     |none=>none
    |none=>none
   |_,_,_=>none
  | .builtin .copy,[s,x],t::_=>match aoa C.tm t,amm (opd σr s),amm (opd σr x)with
   | some ty,some s,some x=>match aq7 h s,aml h ty x with
    |some (k,lo,len),some ys=>match dA ty (lookO h k)with
     |some xs=>some (e.r,[(k,.arr ty (ajc lo len xs ys))])
     |none=>none
    |_,_=>none
   |_,_,_=>none
  | .builtin .clear,[s],t::_=>match aoa C.tm t,amm (opd σr s),mY C.P t with
   | some ty,some s,some (_,_,z)=>match unT ty (z.toList.map .val),aq7 h s with
    |some x,some (k,lo,len)=>match dA ty (lookO h k)with
     |some xs=>some (e.r,[(k,.arr ty (ajc lo len xs (List.replicate len x)))])
     |none=>none
    |_,_=>none
   |_,_,_=>none
  |_,_,_=>match toT e.ws with
   |some ws=>some (e.r,ws)
   |none=>none
 |_=>match toT e.ws with
  |some ws=>some (e.r,ws)
  |none=>none
def acr:List (Option Nat)->Option (List Nat)
 | []=>some []
 |some k::r=>match acr r with
  |some l=>some (k::l)
  |none=>none
 |none::_=>none
def TO.ren (ρ:Nat->Option Nat):TO->TO
 | .box cs=> .box (cs.map (SC.ren ρ))
 | .ra cs=> .ra (cs.map (SC.ren ρ))
 |o=>o
def YB:List Nat->List TO->List (Nat×TO)
 |k::K,o::h=>(k,o)::YB K h
 |_,_=> []
def ad9:List Nat->List (Nat×TO)
 | []=> []
 |k::r=>(k,.dead)::ad9 r
def akj:Ty->Bool
 | .l _=>false
 | .n _=>false
 |_=>true
def Zd:Ty->Bool
 | .l _=>false
 | .n k=>(lvN k).all akj
 |_=>true
def CK.plain:CK->Bool
 | .ty t=>akj t
 | .nty _=>false
 | .rp _=>false
 |_=>true
def ovP (ov:List (Nat×CK)):Nat->List Ty->Bool
 |_,[]=>true
 |i,t::r=>(akj t||afg i ov)&&ovP ov (i+1) r
def ag7 (n:N) (ov:List (Nat×CK)):Bool:=ovP ov 0 (lvN n)&&ov.all (λp=>p.2.plain)
def SK.plain:SK->Bool
 | .c k=>k.plain
 | .st n=>Zd (.n n)
 | .sw n ov=>ag7 n ov
 | .ag ks=>ks.all CK.plain
def OK.plain:OK->Bool
 | .bs n=>Zd (.n n)
 | .bw n ov=>ag7 n ov
 | .bx ks=>ks.all CK.plain
 | .ar t=>Zd t
 | .mo=>true
 | .ra ks=>ks.all CK.plain
 | .ms=>true
 | .dd=>true
def Shape.plain (sh:Shape):Bool:=sh.slots.all (λp=>p.2.plain)&&sh.objs.all OK.plain
def wQ:Nat->List (Nat×SK)->Bool
 |_,[]=>true
 |i,(x,_)::r=>Nat.beq x i&&wQ (i+1) r
def Qu (id:Nat):Nat->List Nat
 |0=> []
 |n+1=>id::Qu (id+1) n
def aof:List OK->Bool
 | []=>true
 | .dd::_=>false
 |_::r=>aof r
def exC:SC->Bool
 | .c (.val (.slice _ _ _))=>false
 | .c .e0=>false
 | .c (.lsn _ _)=>false
 | .c _=>true
 |_=>false
def exK:CK->SC->Bool
 | .ty _,c=>exC c
 | .pb _ _,_=>true
 | .own _,.own _=>true
 | .mc _,_=>true
 |_,_=>false
def aog:List CK->List SC->Bool
 |k::ks,c::cs=>exK k c&&aog ks cs
 | [],[]=>true
 |_,_=>false
def aq8:List (Nat×CK)->List SC->Bool
 | [],_=>true
 |(i,k)::r,cs=>(match cs[i]? with
  |some c=>exK k c
  |none=>false)&&aq8 r cs
def aq9 (ov:List (Nat×CK)):Nat->List SC->Bool
 |_,[]=>true
 |i,c::r=>(afg i ov||exC c)&&aq9 ov (i+1) r
def exO:OK->TO->Bool
 | .bs _,.box cs=>cs.all exC
 | .bw _ ov,.box cs=>aq9 ov 0 cs&&aq8 ov cs
 | .bx ks,.box cs=>aog ks cs
 | .ra ks,.ra cs=>aog ks cs
 | .mo,.mp _=>true
 | .ms,.ms _=>true
 | .ar _,_=>true
 |_,_=>false
def afU (h:List (Nat×TO)):List Nat->List OK->Bool
 |k::K,o::os=>exO o (lookO h k)&&afU h K os
 | [],[]=>true
 |_,_=>false
def amn {β:Type} (S:aS) (g:Option Bool) (K L:List Nat) (dd R:List Nat) (k:SV->List (Nat×TO)->List (Nat×TO)->List Nat->Option β) (ro:Bool) (r:S.β):Option β:=
 let os:=(eOs S.rs.objs (S.g r).2).map (TO.ren (at_ (K++L)))
 k ((aaA (eSs S.rs.slots (S.g r).1)).ren (at_ (K++L))) (bif ro||g.isNone then []else YB K (os.take S.ps.objs.length))
  ((bif ro then YB L (os.drop S.ps.objs.length)else bif g.isNone then YB (K++L) os else YB L (os.drop S.ps.objs.length))++ad9 dd) R
def aoh {β:Type} (C:Cx) (S:aS) (g:Option Bool) (id:Nat) (h:List (Nat×TO)) (args:List SV) (k:SV->List (Nat×TO)->List (Nat×TO)->List Nat->Option β):Option β:=
 let ts:TS:=⟨X5 0 args,h,0⟩
 match dec S.ps 0 ts with
 |none=>none
 | some v=>
  let o:=Y7 S.ps 0 ts
  match acr (aiv o.om 0 S.ps.objs.length)with
  |none=>none
  | some K=>
   let L:=Qu id (S.rs.objs.length - S.ps.objs.length)
   let KL:=K++L
   let kill:= !S.rs.plain
   let R:=K++o.fz
   let get:=LV h R
   let objs:=nJ get R
   bif wQ 0 S.ps.slots&&Nat.beq args.length S.ps.slots.length&&Nat.ble S.ps.objs.length S.rs.objs.length&&nodupB KL&&o.fz.all (λk=> !(Qg k KL))&&UM objs&&aof S.ps.objs&&aof (S.rs.objs.drop S.ps.objs.length)&&L.all (λk=> !(Qg k R)&&Nat.blt k (id+64))
     &&(g.isNone||Nat.beq K.length 0||(S.ro.isSome&&afU h K S.ps.objs)||(S.dk&&afU h K S.ps.objs))then
    match S.ro with
    |some q=>aob g (q.Fr v) q.dr λx=>amn S g K L (bif kill then o.fz else []) R k (afU h K S.ps.objs) (q.pr x v)
    |none=>aob g (S.F v) (S.d v) (amn S g K L (bif kill then o.fz else []) R k false)
   else none
def tX {β:Type} (C:Cx) (g:Option Bool) (id:Nat) (σr:List (Nat×SV)) (h:List (Nat×TO)) (op:Op) (k:SV->List (Nat×TO)->List (Nat×TO)->List Nat->Option β):Option β:=
 match vY C.P id (opd σr) (LV h (readsOf σr op none)) op with
 |none=>none
 |some e=>match toT e.ws with
  |some ws=>bif CB id (LV h (readsOf σr op none)) (erW ws)then amk g e.bs (k e.r [] ws [])else none
  |none=>none
def tOp {β:Type} (C:Cx) (site:Nat×Nat) (g:Option Bool) (id:Nat) (σr:List (Nat×SV)) (h:List (Nat×TO)) (op:Op) (k:SV->List (Nat×TO)->List (Nat×TO)->List Nat->Option β):Option β:=
 let dflt:Option β:=
  match evalOp C.P id (opd σr) (LV h (readsOf σr op none)) op with
  |none=>tX C g id σr h op k
  |some e=>match typed C σr h id op e with
   |none=>none
   |some (r,ws)=>bif CB id (LV h (readsOf σr op none)) (erW ws)then amk g e.bs (k r [] ws [])else none
 match op with
 | .call c=>match c.callee with
  | .value fo=>match opd σr fo,YX (opd σr) c.args.toList with
   | some fv,some as'=>match adT fv as' with
    |some (f,all)=>match C.spec site f with
     |some S=>bif Nat.beq S.f f then aoh C S g id h all k else none
     |none=>none
    |none=>none
   |_,_=>none
  |_=>dflt
 |_=>dflt
theorem apR [Fuel]:Fits [] [] [] [] (λ_=> .dead) []:=
 ⟨λk _ h=>absurd rfl h,λk hk=>absurd hk List.not_mem_nil,λj hj=>(by simp at hj)⟩
theorem X4.cc [Fuel] {g:Nat->bF} {h':List bF} {src:List (Option Nat)} {Z:Nat->Prop} {x y:CV} (h:X4 g h' src Z (.c x) (.c y)):x.eqv y:=by cases h;assumption
theorem aea [Fuel] {g:Nat->bF} {h':List bF} {src:List (Option Nat)} {Z:Nat->Prop}:∀{xs ys:List CV},ag1 g h' src Z (xs.map .c) (ys.map .c)->al4 xs ys
 | [],[],_=>trivial
 | [],_::_,h=>by have:=h.1;simp at this
 |_::_,[],h=>by have:=h.1;simp at this
 |x::xs,y::ys,h=>by
  refine⟨?_,aea (xs:=xs) (ys:=ys) ⟨by have:=h.1;simpa using this,λi x' hx=>by simpa using h.2 (i+1) x' (by simpa using hx)⟩⟩
  obtain⟨a,h1,h2⟩:=h.2 0 (.c y) rfl
  simp at h1;subst h1;exact h2.cc
theorem Ze [Fuel] {t:Ty} {cs:List CV} {x:den t} (e:unT t cs=some x):al4 cs (afd t x):=by
 have one:∀{t:Ty} {x:den t} {c:CV},dT [] [] t (.c c)=some x->al4 [c] [abY t x]:=λe=>⟨(akb apR e).cc,trivial⟩
 cases t with
 |n k=>
  have e:unN [] [] k (cs.map .c)=some x:=e
  exact aea (Y9 apR e)
 |i k=>
  match cs,e with
  | [c],e=>exact one (show dT [] [] (.i k) (.c c)=some x from e)
  | [],e=>exact absurd (show(none:Option _)=some x from e) (by simp)
  |_::_::_,e=>exact absurd (show(none:Option _)=some x from e) (by simp)
 |b=>
  match cs,e with
  | [c],e=>exact one (show dT [] [] .b (.c c)=some x from e)
  | [],e=>exact absurd (show(none:Option _)=some x from e) (by simp)
  |_::_::_,e=>exact absurd (show(none:Option _)=some x from e) (by simp)
 |s=>
  match cs,e with
  | [c],e=>exact one (show dT [] [] .s (.c c)=some x from e)
  | [],e=>exact absurd (show(none:Option _)=some x from e) (by simp)
  |_::_::_,e=>exact absurd (show(none:Option _)=some x from e) (by simp)
 |l t=>
  match cs,e with
  | [c],e=>exact one (show dT [] [] (.l t) (.c c)=some x from e)
  | [],e=>exact absurd (show(none:Option _)=some x from e) (by simp)
  |_::_::_,e=>exact absurd (show(none:Option _)=some x from e) (by simp)
theorem aeb [Fuel] {t:Ty} {f:Nat->List CV}:∀{n j:Nat} {l:List (den t)},aq6 t f n j=some l->l.length=n∧∀i,i<n->al4 (f (j+i)) (afd t (l.getD i default))
 |0,j,l,e=>by cases e;exact⟨rfl,λi hi=>by omega⟩
 | n+1,j,l,e=>by
  unfold aq6 at e
  split at e
  ·rename_i x u h1 h2
   cases e
   obtain⟨q1,q2⟩:=aeb h2
   refine⟨by simp [q1],λi hi=> ?_⟩
   cases i with
   |zero=>exact Ze h1
   |succ i=>
    have:=q2 i (by omega)
    rw [show j+1+i=j+(i+1)by omega]at this
    simpa using this
  ·cases e
theorem NH [Fuel]:∀{l:List (Nat×bF)} {ws:List (Nat×TO)},toT l=some ws->erW ws=l
 | [],ws,h=>by cases h;rfl
 |(k,.box cs)::r,ws,h=>by
  simp only [toT]at h
  split at h
  ·rename_i l h1;cases h;simp only [erW,List.map_cons];rw [show r=erW l from(NH h1).symm];rfl
  ·cases h
 |(k,.dead)::r,ws,h=>by
  simp only [toT]at h
  split at h
  ·rename_i l h1;cases h;simp only [erW,List.map_cons];rw [show r=erW l from(NH h1).symm];rfl
  ·cases h
 |(k,.mp es)::r,ws,h=>by
  simp only [toT]at h
  split at h
  ·rename_i l h1;cases h;simp only [erW,List.map_cons];rw [show r=erW l from(NH h1).symm];rfl
  ·cases h
 |(k,.arr z n f)::r,ws,h=>by simp [toT]at h
 |(k,.ms es)::r,ws,h=>by
  simp only [toT]at h
  split at h
  ·rename_i l h1;cases h;simp only [erW,List.map_cons];rw [show r=erW l from(NH h1).symm];rfl
  ·cases h
 | (k,.ra z n cs)::r,ws,h=>by
  unfold toT at h
  split at h
  all_goals first|(cases h;done)|skip
  all_goals (rename_i he;cases he)
  cases hb:Nat.beq n cs.length with
  |false=>rw [hb]at h;cases h
  | true=>
   rw [hb]at h
   simp only [cond_true]at h
   split at h
   ·rename_i l h1
    have:=Nat.eq_of_beq_eq_true hb
    cases h;simp only [erW,List.map_cons];rw [show r=erW l from(NH h1).symm,this];rfl
   ·cases h
theorem K9 [Fuel] {h:List (Nat×TO)} {R:List Nat} {k:Nat} {t:Ty} {xs:List (den t)} {z n:Nat} {f:Nat->List CV} (hg:LV h R k= .arr z n f) (hl:lookO h k= .arr t xs):z=wd t/\n=xs.length/\f=fE t xs:=by
 unfold LV at hg
 cases hb:Qg k R with
 |false=>rw [hb]at hg;cases hg
 |true=>rw [hb,hl]at hg;cases hg;exact⟨rfl,rfl,rfl⟩
theorem G7 [Fuel] {s:Option SV} {c:SC} (h:amm s=some c):s=some (.one (.s c)):=by
 unfold amm at h
 split at h
 ·cases h;rfl
 ·cases h
theorem apS [Fuel] {t:Ty} {xs:List (den t)} {i j:Nat} {x:den t} (hj:j<xs.length):fE t (xs.set i x) j=if i=j then afd t x else fE t xs j:=by
 unfold fE
 simp only [List.getD_eq_getElem?_getD,List.getElem?_set]
 by_cases h:i=j
 ·subst h;simp [hj]
 ·simp [h]
theorem akk [Fuel] {t:Ty} {xs ys:List (den t)} {j:Nat}:fE t (xs++ys) j=if j<xs.length then fE t xs j else fE t ys (j - xs.length):=by
 unfold fE
 simp only [List.getD_eq_getElem?_getD]
 by_cases h:j<xs.length
 ·rw [if_pos h,List.getElem?_append_left h]
 ·rw [if_neg h,List.getElem?_append_right (Nat.le_of_not_lt h)]
theorem ag8 [Fuel] {α:Type} {lo len:Nat} {xs ys:List α} (h:lo+len<=xs.length):(ajc lo len xs ys).length=xs.length:=by
 unfold ajc;simp;omega
theorem anl [Fuel] {t:Ty} {xs ys:List (den t)} {lo len j:Nat} (h:lo+len<=xs.length):fE t (ajc lo len xs ys) j=if lo<=j/\j<lo+min ys.length len then fE t ys (j - lo)else fE t xs j:=by
 have hl:(xs.take lo).length=lo:=by rw [List.length_take];omega
 have hl2:(ys.take len).length=min ys.length len:=by rw [List.length_take,Nat.min_comm]
 unfold ajc
 rw [akk,hl,akk,hl2]
 unfold fE
 simp only [List.getD_eq_getElem?_getD,List.getElem?_take,List.getElem?_drop]
 by_cases h1:j<lo
 ·rw [if_pos h1,if_pos h1,if_neg (by omega)]
 ·rw [if_neg h1]
  by_cases h2:j - lo<min ys.length len
  ·rw [if_pos h2,if_pos (by omega),if_pos (by omega)]
  ·rw [if_neg h2,if_neg (by omega)]
   have:lo+min ys.length len+(j - lo - min ys.length len)=j:=by omega
   rw [this]
theorem akl [Fuel] {h:List (Nat×TO)} {R:List Nat} {s:SC} {k lo len k' lo' len':Nat} (h1:aq7 h s=some (k,lo,len)) (h2:vw (LV h R) s= .sl k' lo' len'):k'=k/\lo'=lo/\len'=len:=by
 unfold aq7 at h1
 split at h1
 ·rename_i q
  split at h1
  ·rename_i t xs hl
   cases h1
   simp only [vw]at h2
   split at h2
   ·rename_i z n f hg
    cases h2
    obtain⟨_,e,_⟩:=K9 hg hl
    exact⟨rfl,rfl,e⟩
   ·cases h2
  ·cases h1
 ·cases h1;cases h2;exact⟨rfl,rfl,rfl⟩
 ·cases h1
theorem acs [Fuel] {k k':Nat} {o o':bF} (hk:k=k') (h:o.eqv o'):agV [(k,o)] [(k',o')]:=⟨hk,h,trivial⟩
theorem src_ok [Fuel] {h:List (Nat×TO)} {R:List Nat} {z k:Nat} {g:Nat->List CV} {cs:List Bool} {x:SC} {ty:Ty} {ys:List (den ty)} (hs:LP z (LV h R) x=some (k,g,cs)) (ht:aml h ty x=some ys) (hc:∀b∈cs,b=true):
  k=ys.length∧∀i,i<k->g i=fE ty ys i:=by
 unfold aml at ht
 split at ht
 ·rename_i t' xs
  cases yY ht
  simp only [LP]at hs
  cases hb:Nat.beq z (wd ty)with
  |false=>rw [hb]at hs;cases hs
  |true=>rw [hb]at hs;cases hs;exact⟨rfl,λ_ _=>rfl⟩
 ·cases ht;simp only [LP,Tg,apc]at hs;cases hs;exact⟨rfl,λi hi=>absurd hi (Nat.not_lt_zero i)⟩
 ·cases ht;simp only [LP,Tg,apc]at hs;cases hs;exact⟨rfl,λi hi=>absurd hi (Nat.not_lt_zero i)⟩
 ·rename_i k'
  have hl:=NG ht
  simp only [LP]at hs
  split at hs
  ·rename_i z' n f hg
   obtain⟨rfl,rfl,rfl⟩:=K9 hg hl
   cases hb:Nat.beq z (wd ty)with
   |false=>rw [hb]at hs;cases hs
   |true=>rw [hb]at hs;cases hs;exact⟨rfl,λ_ _=>rfl⟩
  ·cases hs
 ·rename_i k' lo len
  split at ht
  ·rename_i xs hxs
   cases ht
   have hl:=NG hxs
   simp only [LP,Tg]at hs
   split at hs
   ·rename_i z' n f hg
    obtain⟨rfl,rfl,rfl⟩:=K9 hg hl
    cases hb:Nat.beq z (wd ty)with
    |false=>rw [hb]at hs;cases hs
    |true=>
     rw [hb]at hs;cases hs
     have hle:lo+k<=xs.length:=of_decide_eq_true (hc _ (by simp))
     refine⟨by simp;omega,λi hi=> ?_⟩
     unfold fE
     simp only [List.getD_eq_getElem?_getD,List.getElem?_take,List.getElem?_drop];rw [if_pos hi]
   ·cases hs
  ·cases ht
 ·cases ht
theorem apT [Fuel] {h:List (Nat×TO)} {R:List Nat} {id z n k:Nat} {f g:Nat->List CV} {cs:List Bool} {w1:List (Nat×bF)} {s:SC} {ty:Ty} {ys:List (den ty)} {ws:List (Nat×TO)}
  (hd:YK z (LV h R) s=some (n,f,cs,w1)) (ht:aoc h ty id ys s=some ws) (hz:aod (w1++ [(id,.arr z (n+k) (app n f g))]) (wd ty)=true) (hk:k=ys.length) (hg:∀i,i<k->g i=fE ty ys i):
  agV (w1++ [(id,.arr z (n+k) (app n f g))]) (erW ws):=by
 unfold aoc at ht
 split at ht
 ·rename_i k'
  split at ht
  ·rename_i xs hxs
   cases ht
   have hl:=NG hxs
   simp only [YK]at hd
   split at hd
   ·rename_i z' n' f' hgt
    obtain⟨rfl,rfl,rfl⟩:=K9 hgt hl
    cases hb:Nat.beq z (wd ty)with
    |false=>rw [hb]at hd;cases hd
    |true=>
     rw [hb]at hd;cases hd
     have:=Nat.eq_of_beq_eq_true hb;subst this
     refine⟨rfl,trivial,rfl,⟨rfl,by simp [hk],λi hi=> ?_⟩,trivial⟩
     rw [akk]
     simp only [app]
     split
     ·exact Aq _
     ·rw [hg _ (by omega)];exact Aq _
   ·cases hd
  ·cases ht
 ·cases ht
  simp only [YK,aqT]at hd
  cases hd
  have:=Nat.eq_of_beq_eq_true (show Nat.beq z (wd ty)=true from hz);subst this
  refine acs rfl ⟨rfl,by simp [hk],λi hi=> ?_⟩
  simp only [app,Nat.not_lt_zero,if_false,Nat.sub_zero]
  rw [hg i (by omega)];exact Aq _
 ·cases ht
  simp only [YK,aqT]at hd
  cases hd
  have:=Nat.eq_of_beq_eq_true (show Nat.beq z (wd ty)=true from hz);subst this
  refine acs rfl ⟨rfl,by simp [hk],λi hi=> ?_⟩
  simp only [app,Nat.not_lt_zero,if_false,Nat.sub_zero]
  rw [hg i (by omega)];exact Aq _
 ·cases ht
theorem abB [Fuel] {h:List (Nat×TO)} {R:List Nat} {t:Ty}:∀{ks:List Nat} {rows:List (List (den t))},aki h t ks=some rows->(∀k∈ks,Xj (LV h R k)=true)→
  (ks.map λk=>rdO (LV h R k))=rows.map λr=>CV.rd (wd t) r.length (fE t r)
 | [],rows,hr,_=>by simp only [aki,Option.some.injEq]at hr;subst hr;rfl
 | k::ks,rows,hr,ha=>by
  simp only [aki]at hr
  split at hr
  ·rename_i xs l h1 h2
   cases hr
   have hk:=ha k List.mem_cons_self
   have hl:=NG h1
   rw [List.map_cons,List.map_cons,abB h2 (λq hq=>ha q (List.mem_cons_of_mem _ hq))]
   congr 1
   cases hg:LV h R k with
   |arr z n f=>
    obtain⟨rfl,rfl,rfl⟩:=K9 hg hl
    rfl
   |box cs=>rw [hg]at hk;cases hk
   |mp es=>rw [hg]at hk;cases hk
   |ra z1 n1 cs1=>rw [hg]at hk;cases hk
   |ms es1=>rw [hg]at hk;cases hk
   |dead=>rw [hg]at hk;cases hk
  ·cases hr
theorem ag9 [Fuel] {a:List (Nat×bF)} {b:List (Nat×TO)} (hab:agV a (erW b)):∀(ks:List Nat),agV (X0 ks++a) (erW (aoe ks b))
 | []=>hab
 |k::ks=>⟨rfl,trivial,ag9 hab ks⟩
theorem apU [Fuel] {C:Cx} {σr:List (Nat×SV)} {h:List (Nat×TO)} {R:List Nat} {id n:Nat} {t:TypeId} {ps:Array (Nat×Operand)} {e:Eff} {ws:List (Nat×TO)}
  (he:evalOp C.P id (opd σr) (LV h R) (.buildSlice t n ps)=some e) (hl:arT C σr h id n t ps.toList=some ws):agV e.ws (erW ws):=by
 unfold arT at hl
 simp only [evalOp]at he
 split at hl
 ·rename_i p l hp
  rw [hp]at he
  simp only at he
  unfold abb at he
  split at hl
  ·rename_i ks ty hks hty
   rw [hks]at he
   simp only at he
   split at hl
   ·rename_i rows hrows
    cases hn:Nat.beq rows.length n with
    |false=>rw [hn]at hl;cases hl
    | true=>
     rw [hn]at hl;cases hl
     have hn:=Nat.eq_of_beq_eq_true hn
     unfold ajA at he
     split at he
     ·cases he
     ·rename_i i z hei
      cases hb:(Nat.beq i.size 1&&Nat.beq ks.length n&&Nat.ble (n*i.size) 16777216&&ks.all (λk=>Xj (LV h R k)))with
      |false=>rw [hb]at he;cases he
      | true=>
       rw [hb]at he;cases he
       simp only [Bool.and_eq_true]at hb
       obtain⟨⟨⟨b1,b2⟩,b3⟩,b4⟩:=hb
       have b1:=Nat.eq_of_beq_eq_true b1
       have hsp:=abB hrows (List.all_eq_true.1 b4)
       have key:agV [(id,bF.arr i.size n (λj=>((ks.map λk=>rdO (LV h R k)).drop (j*i.size)).take i.size))] (erW [(id,TO.arr (.l ty) rows)]):= ?_
       ·exact ag9 key ks
       refine acs rfl ⟨b1,hn.symm,λj hj=> ?_⟩
       rw [hsp,b1]
       have hj':j<rows.length:=by omega
       have e1:((rows.map λr=>CV.rd (wd ty) r.length (fE ty r)).drop (j*1)).take 1= [CV.rd (wd ty) (rows.getD j default).length (fE ty (rows.getD j default))]:=by
        rw [Nat.mul_one,List.drop_eq_getElem_cons (by simpa using hj')]
        simp [List.getD_eq_getElem?_getD,hj']
       show al4 (((rows.map λr=>CV.rd (wd ty) r.length (fE ty r)).drop (j*1)).take 1) _
       rw [e1]
       exact⟨⟨rfl,rfl,λ_ _=>rfl⟩,trivial⟩
   ·cases hl
  ·cases hl
 ·cases hl
theorem amo [Fuel] {C:Cx} {σr:List (Nat×SV)} {h:List (Nat×TO)} {id:Nat} {op:Op} {e:Eff} {r:SV} {ws:List (Nat×TO)} {R:List Nat}
  (he:evalOp C.P id (opd σr) (LV h R) op=some e) (hb:∀b∈e.bs,b=true) (ht:typed C σr h id op e=some (r,ws)):e.r.eqv r/\agV e.ws (erW ws):=by
 have same:∀{s:SV},s.eqv s:=λ{s}=>by
  cases s with
  | one x=>cases x with
   |s x=>exact x.rD
   |agg xs=>
    show al5 xs xs
    induction xs with
    |nil=>trivial
    |cons x xs ih=>exact⟨x.rD,ih⟩
  | tup xs=>
   show aqX xs xs
   induction xs with
   |nil=>trivial
   | cons x xs ih=>
    refine⟨?_,ih⟩
    cases x with
    |s x=>exact x.rD
    |agg ys=>
     show al5 ys ys
     clear ih
     induction ys with
     |nil=>trivial
     |cons y ys ih=>exact⟨y.rD,ih⟩
 have dflt:(match toT e.ws with|some ws=>some (e.r,ws)|none=>none)=some (r,ws)->e.r.eqv r/\agV e.ws (erW ws):=by
  intro ht
  split at ht
  ·rename_i w hw;cases ht;rw [NH hw];exact⟨same,YZ _⟩
  ·cases ht
 unfold typed at ht
 split at ht
 ·-- make
  rename_i t l c
  split at ht
  ·rename_i k z n f ty hws hty
   split at ht
   ·rename_i x hx
    cases hz:Nat.beq z (wd ty)with
    |false=>rw [hz]at ht;cases ht
    | true=>
     rw [hz]at ht;cases ht
     have hz:=Nat.eq_of_beq_eq_true hz
     refine⟨same,?_⟩
     rw [hws]
     simp only [evalOp]at he
     split at he
     ·unfold agF at he
      split at he
      ·cases he
      ·cases he
       cases hws
       refine acs rfl ⟨hz,by simp,λi hi=> ?_⟩
       have:=Ze hx
       unfold fE
       simp only [List.getD_eq_getElem?_getD,List.getElem?_replicate]
       rw [if_pos hi];exact this
     ·cases he
   ·cases ht
  ·cases ht
 ·-- a literal
  rename_i t l ps
  split at ht
  ·rename_i ws' hlit
   cases ht
   exact⟨same,apU he hlit⟩
  ·split at ht
   ·rename_i k z n f ty hws hty
    split at ht
    ·rename_i xs hx
     cases hz:Nat.beq z (wd ty)with
     |false=>rw [hz]at ht;cases ht
     | true =>
      rw [hz]at ht;cases ht
      have hz:=Nat.eq_of_beq_eq_true hz
      refine⟨same,?_⟩
      rw [hws]
      have hk:k=id:=by
       simp only [evalOp]at he
       split at he
       ·unfold abb at he
        split at he
        ·unfold ajA at he
         split at he
         ·cases he
         ·rename_i ks0 _ _ _ _ i0 z0 _
          cases hb0:(Nat.beq i0.size 1&&Nat.beq ks0.length l&&Nat.ble (l*i0.size) 16777216&&ks0.all (λk=>Xj (LV h R k)))with
          |false=>rw [hb0]at he;cases he
          |true=>
           rw [hb0]at he
           cases he
           cases ks0 with
           |nil=>cases hws;rfl
           |cons k0 r0=>simp [X0]at hws
        ·unfold Cv at he
         split at he
         ·cases he
         ·rename_i i zz _
          cases hb2:Nat.ble (l*i.size) 16777216 with
          |false=>rw [hb2]at he;cases he
          | true=>
           rw [hb2]at he
           simp only [cond_true]at he
           split at he
           ·split at he
            ·cases he;cases hws;rfl
            ·cases he
           ·cases he
       ·cases he
      obtain⟨q1,q2⟩:=aeb hx
      exact acs hk ⟨hz,q1.symm,λi hi=>by have:=q2 i hi;rwa [Nat.zero_add]at this⟩
    ·cases ht
   ·cases ht
 ·-- a store
  rename_i T a v
  split at ht
  ·rename_i k i off hp
   split at ht
   ·rename_i t xs v' hl hv
    split at ht
    ·rename_i ys hys
     split at ht
     ·rename_i x hx
      cases ht
      have hp:=G7 hp
      simp only [evalOp,hp,hv]at he
      unfold YJ at he
      split at he
      ·cases he
      ·rename_i inf apd
       cases hb2:(Nat.beq (iq v').length inf.size&&(iq v').all SC.scalar)with
       |false=>rw [hb2]at he;cases he
       | true=>
        rw [hb2]at he
        simp only [cond_true,hys]at he
        split at he
        ·rename_i z n f xs' hg hxs
         cases hxs
         cases hb3:Nat.ble (off+inf.size) z with
         |false=>rw [hb3]at he;cases he
         |true=>
          rw [hb3]at he;cases he
          obtain⟨rfl,rfl,rfl⟩:=K9 hg hl
          refine⟨rfl,acs rfl ⟨rfl,by simp,λj hj=> ?_⟩⟩
          rw [apS hj]
          simp only [upd]
          by_cases hij:j=i
          ·subst hij;rw [if_pos rfl,if_pos rfl];exact Ze hx
          ·rw [if_neg hij,if_neg (λh=>hij h.symm)];exact Aq _
        ·cases he
     ·cases ht
    ·cases ht
   ·cases ht
  ·exact dflt ht
 ·-- a part of a list
  rename_i t x lo hi mx
  split at ht
  ·rename_i ty xs hp
   have hp:=G7 hp
   split at ht
   ·rename_i lo' hi' h1 h2 h3
    split at ht
    ·rename_i ys hys
     cases ht
     simp only [evalOp,hp,h1,h2,h3]at he
     unfold ab3 RO at he
     split at he
     ·split at he
      ·cases he
      ·rename_i ie hie
       simp only [vw]at he
       cases hz:Nat.beq (wd ty) ie.size with
       |false=>rw [hz]at he;cases he
       | true=>
        rw [hz]at he
        simp only [cond_true]at he
        cases lo' with
        | none=>
         cases hi' with
         |none=>cases hys
         |some b=>
          cases hys;cases he
          have hb2:0<=b/\b<=xs.length:=of_decide_eq_true (hb _ (by simp))
          refine⟨⟨rfl,by simp;omega,λi hi=> ?_⟩,trivial⟩
          unfold fE
          simp only [List.getD_eq_getElem?_getD,List.getElem?_take];rw [if_pos hi]
        | some a=>
         cases hi' with
         |none=>
          cases hys;cases he
          have hb2:0<=a/\a<=(xs.length:Int)/\(xs.length:Int)<=xs.length:=of_decide_eq_true (hb _ (by simp))
          refine⟨⟨rfl,by simp,λi hi=> ?_⟩,trivial⟩
          unfold fE
          simp only [List.getD_eq_getElem?_getD,List.getElem?_drop]
         |some b=>
          cases hys;cases he
          have hb2:0<=a/\a<=b/\b<=xs.length:=of_decide_eq_true (hb _ (by simp))
          refine⟨⟨rfl,by simp;omega,λi hi=> ?_⟩,trivial⟩
          replace hi:i<b.toNat - a.toNat:=hi
          unfold fE
          simp only [List.getD_eq_getElem?_getD,List.getElem?_take,List.getElem?_drop];rw [if_pos (by omega)]
     ·cases he
     ·cases he
    ·cases ht
   ·cases ht
  ·exact dflt ht
 ·-- append
  rename_i c
  split at ht
  ·rename_i s x t u alM hargs hts
   split at ht
   ·rename_i ty kx nx hty hx
    split at ht
    ·rename_i k z n f hws
     split at ht
     ·rename_i x0 hx0
      cases hz:Nat.beq z (wd ty)with
      |false=>rw [hz]at ht;cases ht
      | true=>
       rw [hz]at ht;cases ht
       have hz:=Nat.eq_of_beq_eq_true hz
       refine⟨same,?_⟩
       have hx:=G7 hx
       simp only [evalOp,alM,hargs,hts,GZ,hx]at he
       rw [hws]
       split at he
       ·rename_i s3 x3 e3 q1 q2 q3
        cases q2
        unfold RJ at he
        split at he
        ·cases he
        ·split at he
         ·rename_i hd hsr
          simp only [LP,Tg,apc]at hsr
          cases hsr
         ·cases he
       ·rename_i k3 n3 q3 q1 q2 _
        unfold agC at he
        split at he
        ·cases he
        ·rename_i i3 z3 hei
         cases he
         cases hws
         refine acs rfl ⟨hz,by simp,λi hi=> ?_⟩
         have:=Ze hx0
         unfold fE
         simp only [List.getD_eq_getElem?_getD,List.getElem?_replicate]
         rw [if_pos hi];exact this
       ·cases he
     ·cases ht
    ·cases ht
   ·rename_i ty s' x' arU hty hs hx
    split at ht
    ·rename_i ys hys
     split at ht
     ·rename_i ws' hws
      cases hz:aod e.ws (wd ty)with
      |false=>rw [hz]at ht;cases ht
      | true=>
       rw [hz]at ht;cases ht
       have hs:=G7 hs
       have hx:=G7 hx
       simp only [evalOp,alM,hargs,hts,GZ,hs,hx]at he
       split at he
       ·rename_i s3 x3 e3 q1 q2 q3
        cases q1;cases q2
        unfold RJ at he
        split at he
        ·cases he
        ·rename_i i3 z3 hei
         split at he
         ·rename_i n f c1 w1 k g c2 hd hsr
          cases he
          have hb2:∀b∈c2,b=true:=λb hb'=>hb b (by simp [hb'])
          obtain⟨hk,hg⟩:=src_ok hsr hys hb2
          exact⟨same,apT hd hws hz hk hg⟩
         ·cases he
       ·rename_i k3 n3 q3 q1 q2 _
        cases q2
        exact(arU _ _ rfl).elim
       ·cases he
     ·cases ht
    ·cases ht
   ·cases ht
  ·-- copy
   rename_i s x t u alM hargs hts
   split at ht
   ·rename_i ty s' x' hty hs hx
    split at ht
    ·rename_i k lo len ys hsl hys
     split at ht
     ·rename_i xs hxs
      cases ht
      have hs:=G7 hs
      have hx:=G7 hx
      have hlk:=NG hxs
      simp only [evalOp,alM,hargs,hts,GZ,hs,hx]at he
      unfold agD Wj at he
      split at he
      ·cases he
      ·rename_i i3 z3 hei
       split at he
       ·rename_i k' lo' len' mm g c2 hvw hsr
        obtain⟨rfl,rfl,rfl⟩:=akl hsl hvw
        split at he
        ·rename_i z4 n4 f4 hg4
         obtain⟨rfl,rfl,rfl⟩:=K9 hg4 hlk
         cases hz:Nat.beq (wd ty) i3.size with
         |false=>rw [hz]at he;cases he
         |true=>
          rw [hz]at he;cases he
          have hb2:∀b∈c2,b=true:=λb hb'=>hb b (by simp [hb'])
          have hle:lo'+len'<=xs.length:=of_decide_eq_true (hb _ (by simp))
          have hz:=Nat.eq_of_beq_eq_true hz
          rw [<-hz]at hsr
          obtain⟨hk,hg⟩:=src_ok hsr hys hb2
          refine⟨same,acs rfl ⟨rfl,(ag8 hle).symm,λi hi=> ?_⟩⟩
          rw [anl hle,<-hk]
          unfold cpy
          split
          ·rw [hg _ (by omega)];exact Aq _
          ·exact Aq _
        ·cases he
       ·cases he
     ·cases ht
    ·cases ht
   ·cases ht
  ·-- clear
   rename_i s t u alM hargs hts
   split at ht
   ·rename_i ty s' e0 i0 z0 hty hs atV
    split at ht
    ·rename_i x k lo len hx hsl
     split at ht
     ·rename_i xs hxs
      cases ht
      have hs:=G7 hs
      have hlk:=NG hxs
      simp only [evalOp,alM,hargs,hts,GZ,hs]at he
      unfold ab2 RN at he
      rw [atV]at he
      simp only at he
      split at he
      ·rename_i k' lo' len' hvw
       obtain⟨rfl,rfl,rfl⟩:=akl hsl hvw
       split at he
       ·rename_i z4 n4 f4 hg4
        obtain⟨rfl,rfl,rfl⟩:=K9 hg4 hlk
        cases hz:Nat.beq (wd ty) i0.size with
        |false=>rw [hz]at he;cases he
        | true=>
         rw [hz]at he;cases he
         have hle:lo'+len'<=xs.length:=of_decide_eq_true (hb _ (by simp))
         refine⟨same,acs rfl ⟨rfl,(ag8 hle).symm,λi hi=> ?_⟩⟩
         rw [anl hle]
         unfold cpy
         simp only [List.length_replicate,Nat.min_self]
         split
         ·rename_i hq
          have:fE ty (List.replicate len' x) (i - lo')=afd ty x:=by
           unfold fE;simp only [List.getD_eq_getElem?_getD,List.getElem?_replicate];rw [if_pos (by omega)];rfl
          rw [this];exact Ze hx
         ·exact Aq _
       ·cases he
      ·cases he
     ·cases ht
    ·cases ht
   ·cases ht
  ·exact dflt ht
 ·exact dflt ht
end Go.AM
namespace Go.AM
open Go Go.RowKit Go.CP
def Does [Fuel] (P:Program) (id:Nat) (σA:List (Nat×SV)) (hA:List bF) (op:Op) (r:SV) (ws:List (Nat×TO)) (ks:List Nat):Prop:=
 ∃orc eff,oG P id (opd σA) (Nw hA (readsOf σA op orc)) op orc=some eff/\(∀q∈eff.cs,q)/\eff.r=r/\eff.ws=erW ws/\afJ orc=ks/\CB id (Nw hA (readsOf σA op orc)) eff.ws=true
theorem aha [Fuel] {β:Type} {b:Bool} {k:Option β} {r:β} (h:chk b k=some r):b=true/\k=some r:=by
 cases b with
 |true=>exact⟨rfl,h⟩
 |false=>cases h
theorem U1 [Fuel] {β:Type} {g:Option Bool} {k:Option β} {r:β}:∀{bs:List Bool},amk g bs k=some r->k=some r/\((g=none\/g=some true)→∀b∈bs,b=true)
 | [],h=>⟨h,λ_ b hb=>absurd hb List.not_mem_nil⟩
 | b::bs,h=>by
  cases g with
  |none=>
   obtain⟨h1,h2⟩:=aha (show chk b (amk none bs k)=some r from h)
   obtain⟨q1,q2⟩:=U1 h2
   refine⟨q1,λhg b' hb'=> ?_⟩
   cases hb' with
   |head=>exact h1
   |tail _ hb'=>exact q2 hg b' hb'
  | some g=>
   obtain⟨h1,h2⟩:=aha (show chk (!g||b) (amk (some g) bs k)=some r from h)
   obtain⟨q1,q2⟩:=U1 h2
   refine⟨q1,λhg b' hb'=> ?_⟩
   rcases hg with hg|hg
   ·cases hg
   ·cases hg
    cases hb' with
    |head=>simpa using h1
    |tail _ hb'=>exact q2 (.inr rfl) b' hb'
theorem abC [Fuel] {α β:Type} {g:Option Bool} {m:Option α} {d:α} {k:α->Option β} {r:β} (h:aob g m d k=some r):∃a,k a=some r/\((g=none\/g=some true)->m=some a)/\(g=some false->d=a):=by
 cases g with
 |none=>
  obtain⟨a,h1,h2⟩:=GY (show m.bind k=some r from h)
  exact⟨a,h2,λ_=>h1,λh=>by cases h⟩
 | some g=>
  obtain⟨a,h1,h2⟩:=GY (show(bif g then m else some d).bind k=some r from h)
  refine⟨a,h2,λhg=> ?_,λhg=> ?_⟩
  ·rcases hg with hg|hg
   ·cases hg
   ·cases hg;exact h1
  ·cases hg;exact Option.some.inj h1
theorem Ub [Fuel] {id:Nat} {get get':Nat->bF} (hg:∀k,(get k).live->get' k=get k):∀{ws:List (Nat×bF)},CB id get ws=true->CB id get' ws=true
 | [],_=>rfl
 |(k,o)::r,h=>by
  simp only [CB,Bool.and_eq_true,Bool.or_eq_true]at h⊢
  refine⟨?_,Ub hg h.2⟩
  rcases h.1 with h1|h1
  ·exact .inl h1
  ·right;rw [hg k (Wo h1)];exact h1
section
variable {h:List (Nat×TO)} {hA:List bF}
theorem akm [Fuel] {R:List Nat} {k:Nat} (hl:(LV h R k).live):Qg k R=true/\lookO h k≠.dead/\LV h R k=(lookO h k).er:=by
 unfold LV at hl⊢
 cases hb:Qg k R with
 |false=>rw [hb]at hl;exact hl.elim
 |true=>rw [hb]at hl;exact⟨rfl,λe=>by rw [e]at hl;exact hl,rfl⟩
theorem acu [Fuel] (hh:∀k,lookO h k≠.dead->mX hA k=(lookO h k).er) {R R':List Nat} (hR:∀k∈R,k∈R'):∀k,(LV h R k).live->Nw hA R' k=LV h R k:=by
 intro k hl
 obtain⟨h1,h2,h3⟩:=akm hl
 rw [h3,<-hh k h2]
 unfold Nw
 rw [mD.2 (hR k (mD.1 h1))];rfl
end
theorem ahb [Fuel] {σr σA:List (Nat×SV)} (hm:∀p∈σr,p∈σA):∀k∈σr.flatMap (λp=>p.2.refs),k∈σA.flatMap (λp=>p.2.refs):=by
 intro k hk
 obtain⟨p,h1,h2⟩:=List.mem_flatMap.1 hk
 exact List.mem_flatMap.2 ⟨p,hm p h1,h2⟩
theorem acv [Fuel] {σr σA:List (Nat×SV)} (hl:∀x s,look σr x=some s->look σA x=some s):∀x s,opd σr x=some s->opd σA x=some s:=by
 intro x s hx
 cases x with
 |tmp t=>exact hl t s hx
 |_=>exact hx
theorem aoi [Fuel] {C:Cx} {σr σA:List (Nat×SV)} {h:List (Nat×TO)} {hA:List bF} {id:Nat} {op:Op} {e:Eff} {r:SV} {ws:List (Nat×TO)}
  (hl:∀x s,look σr x=some s->look σA x=some s) (hm:∀p∈σr,p∈σA) (hh:∀k,lookO h k≠.dead->mX hA k=(lookO h k).er)
  (he:evalOp C.P id (opd σr) (LV h (readsOf σr op none)) op=some e) (hb:∀b∈e.bs,b=true) (ht:typed C σr h id op e=some (r,ws))
  (hk:CB id (LV h (readsOf σr op none)) (erW ws)=true):Does C.P id σA hA op r ws []:=by
 have hR:∀k∈readsOf σr op none,k∈readsOf σA op (some (.ovo r (erW ws))):=by
  intro k hk
  unfold readsOf at hk⊢
  cases hu:JG op with
  |true=>rw [hu]at hk;exact ahb hm k hk
  |false=>rw [hu]at hk;cases hk
 have hg:=acu hh hR
 have he':=amj (acv hl) (Nv hg he)
 obtain⟨q1,q2⟩:=amo he hb ht
 refine⟨some (.ovo r (erW ws)),{r:=r,ws:=erW ws,cs:=bsP e.bs++ [e.r.eqv r,agV e.ws (erW ws)]},?_,λq hq=> ?_,rfl,rfl,rfl,Ub hg hk⟩
 ·simp only [oG,he']
 ·simp only [List.mem_append,List.mem_cons,List.not_mem_nil,or_false]at hq
  rcases hq with hq|rfl|rfl
  ·obtain⟨b,hb',rfl⟩:=List.mem_map.1 hq;exact hb b hb'
  ·exact q1
  ·exact q2
theorem atW [Fuel] {C:Cx} {σr σA:List (Nat×SV)} {h:List (Nat×TO)} {hA:List bF} {id:Nat} {op:Op} {e:Eff} {ws:List (Nat×TO)}
  (hl:∀x s,look σr x=some s->look σA x=some s) (hm:∀p∈σr,p∈σA) (hh:∀k,lookO h k≠.dead->mX hA k=(lookO h k).er)
  (he:vY C.P id (opd σr) (LV h (readsOf σr op none)) op=some e) (hb:∀b∈e.bs,b=true) (ht:toT e.ws=some ws)
  (hk:CB id (LV h (readsOf σr op none)) (erW ws)=true):Does C.P id σA hA op e.r ws []:=by
 have hR:∀k∈readsOf σr op none,k∈readsOf σA op (some .xo):=by
  intro k hk
  unfold readsOf at hk⊢
  cases hu:JG op with
  |true=>rw [hu]at hk;exact ahb hm k hk
  |false=>rw [hu]at hk;cases hk
 have hg:=acu hh hR
 have he':=an9 (acv hl) (abl hg he)
 have hw:=NH ht
 refine⟨some .xo,{r:=e.r,ws:=e.ws,cs:=bsP e.bs},?_,λq hq=> ?_,rfl,hw.symm,rfl,by rw [hw]at hk;exact Ub hg hk⟩
 ·simp only [oG,he']
 ·obtain⟨b,hb',rfl⟩:=List.mem_map.1 hq;exact hb b hb'
theorem Xq [Fuel]:∀{l:List (Option Nat)} {K:List Nat},acr l=some K->l=K.map some
 | [],K,h=>by cases h;rfl
 |some k::r,K,h=>by
  simp only [acr]at h
  split at h
  ·rename_i l hl;cases h;rw [Xq hl];rfl
  ·cases h
 |none::r,K,h=>by cases h
theorem afV [Fuel]:∀{ks:List (Nat×SK)} {i:Nat} (v:VSs ks),wQ i ks=true→∀(j:Nat) s',((eSs ks v).map (·.2))[j]? =some s'->look (eSs ks v) (i+j)=some s'
 | [],i,v,_,j,s',h=>by simp [eSs]at h
 | (x,k)::r,i,v,hk,j,s',h=>by
  simp only [wQ,Bool.and_eq_true]at hk
  have:=Nat.eq_of_beq_eq_true hk.1;subst this
  cases j with
  |zero=>simp [eSs]at h;simp [eSs,look,h]
  |succ j=>
   have:=afV v.2 hk.2 j s' (by simpa [eSs]using h)
   simp only [eSs,look]
   cases hb:Nat.beq x (x+(j+1))with
   |true=>have:=Nat.eq_of_beq_eq_true hb;omega
   |false=>rw [cond_false,show x+(j+1)=x+1+j by omega];exact this
theorem Zf [Fuel]:∀(ks:List (Nat×SK)) (v:VSs ks),(eSs ks v).length=ks.length
 | [],v=>rfl
 |(x,k)::r,v=>by simp [eSs,Zf r v.2]
theorem akn [Fuel] {α β:Type} {R:α->β->Prop}:∀{l:List α} {r:List β},l.length=r.length->(∀(i:Nat) b,r[i]? =some b→∃a,l[i]? =some a/\R a b)->K7 R l r
 | [],[],_,_=> .nil
 | [],_::_,h,_=>by simp at h
 |_::_,[],h,_=>by simp at h
 |a::l,b::r,h,hp=>by
  obtain⟨a',h1,h2⟩:=hp 0 b rfl
  simp at h1;subst h1
  exact .cons h2 (akn (by simpa using h) (λi b hb=>by simpa using hp (i+1) b (by simpa using hb)))
theorem afW [Fuel] (a b:List (Nat×TO)):erW (a++b)=erW a++erW b:=by simp [erW]
theorem ahc [Fuel]:∀l:List Nat,erW (ad9 l)=aax l
 | []=>rfl
 |k::r=>by show(k,bF.dead)::erW (ad9 r)=_;rw [ahc r];rfl
theorem apV [Fuel] (ρ:Nat->Option Nat) (o:TO):(o.ren ρ).er=o.er.ren ρ:=by
 cases o with
 |ra cs=>show bF.ra 1 (cs.map (SC.ren ρ)).length _=bF.ra 1 cs.length _;rw [List.length_map]
 |_=>rfl
theorem ako [Fuel] (ρ:Nat->Option Nat):∀(K:List Nat) (l:List TO),erW (YB K (l.map (TO.ren ρ)))=ad5 K ((l.map TO.er).map (bF.ren ρ))
 | [],l=>by cases l<;>rfl
 |k::K,[]=>rfl
 |k::K,o::l=>by
  simp only [List.map_cons,YB,ad5]
  show(k,(o.ren ρ).er)::erW (YB K (l.map (TO.ren ρ)))=_
  rw [ako ρ K l,apV]
theorem aec [Fuel]:∀{ks:List OK} (v:VOs ks),aof ks=true->((eOs ks v).map TO.er).all al6=true
 | [],v,_=>rfl
 |k::r,v,h=>by
  simp only [eOs,List.map_cons,List.all_cons,Bool.and_eq_true]
  cases k<;>first|(exact⟨rfl,aec v.2 h⟩)|(simp [aof]at h)
theorem ahd [Fuel]:∀(ks:List OK) (v:VOs ks) (n:Nat),∃u,(eOs ks v).drop n=eOs (ks.drop n) u
 |ks,v,0=>⟨v,rfl⟩
 | [],v,n+1=>⟨v,rfl⟩
 |k::r,v,n+1=>ahd r v.2 n
theorem abD [Fuel]:∀(id n:Nat),(Qu id n).length=n
 |_,0=>rfl
 |id,n+1=>by simp [Qu,abD (id+1) n]
theorem aed [Fuel]:∀{id n k:Nat},k∈Qu id n->id<=k
 |id,0,k,h=>by cases h
 |id,n+1,k,h=>by
  cases h with
  |head=>exact Nat.le_refl _
  |tail _ h=>have:=aed h;omega
theorem Wt [Fuel] {get:Nat->bF} {k:Nat}:∀{R:List Nat},aau k (nJ get R)=Qg k R
 | []=>rfl
 |j::r=>by simp only [nJ,aau,Qg,Wt]
theorem Uc [Fuel] {get:Nat->bF} {k:Nat}:∀{R:List Nat},k∈R->JH (nJ get R) k=get k
 | j::r,h=>by
  simp only [nJ,JH]
  cases hb:Nat.beq j k with
  |true=>have:=Nat.eq_of_beq_eq_true hb;subst this;rfl
  |false=>
   cases h with
   |head=>rw [Nat.beq_refl]at hb;cases hb
   |tail _ h=>exact Uc h
theorem ahe [Fuel] {id:Nat} {objs:List (Nat×bF)}:∀{ws:List (Nat×bF)},(∀k o,(k,o)∈ws->aau k objs=true\/(id<=k/\k<id+64))->adU id objs ws=true
 | [],_=>rfl
 |(k,o)::r,h=>by
  simp only [adU,Bool.and_eq_true,Bool.or_eq_true]
  refine⟨?_,ahe (λk o ho=>h k o (List.mem_cons_of_mem _ ho))⟩
  rcases h k o (List.mem_cons_self ..)with h1|⟨h1,h2⟩
  ·exact .inl h1
  ·exact .inr ⟨Nat.ble_eq_true_of_le h1,by simp only [Nat.blt];exact Nat.ble_eq_true_of_le h2⟩
theorem aee [Fuel] {id:Nat} {get:Nat->bF}:∀{ws:List (Nat×bF)},(∀k o,(k,o)∈ws->(get k).live\/(id<=k/\k<id+64))->CB id get ws=true
 | [],_=>rfl
 | (k,o)::r,h=>by
  simp only [CB,Bool.and_eq_true,Bool.or_eq_true]
  refine⟨?_,aee (λk o ho=>h k o (List.mem_cons_of_mem _ ho))⟩
  rcases h k o (List.mem_cons_self ..)with h1|⟨h1,h2⟩
  ·right;cases hg:get k with
   |dead=>rw [hg]at h1;exact h1.elim
   |_=>rfl
  ·exact .inl ⟨Nat.ble_eq_true_of_le h1,by simp only [Nat.blt];exact Nat.ble_eq_true_of_le h2⟩
theorem Wu [Fuel] {t:Ty} (x:den t) (h:akj t=true):(abY t x).isVal=true:=by
 cases t<;>first|rfl|cases h
theorem abE [Fuel]:∀{ts:List Ty} (v:ahT ts),ts.all akj=true→∀x∈adl ts v,x.isVal=true
 | [],v,_,x,hx=>by cases hx
 |t::r,v,h,x,hx=>by
  simp only [List.all_cons,Bool.and_eq_true]at h
  cases hx with
  |head=>exact Wu v.1 h.1
  |tail _ hx=>exact abE v.2 h.2 x hx
theorem Wv [Fuel] {k:N} (x:T k) (h:Zd (.n k)=true):∀y∈Jz k x,y.isVal=true:=by
 rw [<-am6 k x,Wi]
 exact abE _ h
theorem aiw [Fuel] {t:Ty} (x:den t) (h:Zd t=true):∀y∈afd t x,y.isVal=true:=by
 cases t with
 |n k=>exact Wv x h
 |l t=>cases h
 |_=>intro y hy;cases hy with
  |head=>rfl
  |tail _ hy=>cases hy
theorem aef [Fuel] {cs:List CV} (h:∀y∈cs,y.isVal=true):(cs.map SC.c).all SC.plain=true:=by
 rw [List.all_eq_true]
 intro x hx
 obtain⟨y,hy,rfl⟩:=List.mem_map.1 hx
 exact h y hy
theorem acw [Fuel] {k:CK} (x:VC k) (h:k.plain=true):(eC k x).plain=true:=by
 cases k<;>first|rfl|(exact Wu x h)|cases h
theorem U2 [Fuel]:∀{ks:List CK} (v:VCs ks),ks.all CK.plain=true->(eCs ks v).all SC.plain=true
 | [],v,_=>rfl
 |k::r,v,h=>by
  simp only [List.all_cons,Bool.and_eq_true]at h
  simp only [eCs,List.all_cons,Bool.and_eq_true]
  exact⟨acw v.1 h.1,U2 v.2 h.2⟩
theorem aeg [Fuel]:∀{ov:List (Nat×CK)} (v:VOv ov) (cs:List SC),(ov.all λp=>p.2.plain)=true->(∀(i:Nat) c,cs[i]? =some c->afg i ov=true\/c.plain=true)->(eOv ov v cs).all SC.plain=true
 | [],v,cs,_,h=>by
  rw [eOv,List.all_eq_true]
  intro x hx
  obtain⟨i,hi⟩:=List.mem_iff_getElem?.1 hx
  rcases h i x hi with h|h
  ·cases h
  ·exact h
 | (i,k)::r,v,cs,ha,h=>by
  simp only [List.all_cons,Bool.and_eq_true]at ha
  refine aeg v.2 (cs.set i (eC k v.1)) ha.2 (λj c hj=> ?_)
  rw [List.getElem?_set]at hj
  by_cases e:i=j
  ·rw [if_pos e]at hj
   split at hj
   ·cases hj;exact .inr (acw v.1 ha.1)
   ·cases hj
  ·rw [if_neg e]at hj
   rcases h j c hj with h|h
   ·simp only [afg,Bool.or_eq_true]at h
    rcases h with h|h
    ·exact absurd (Nat.eq_of_beq_eq_true h) e
    ·exact .inl h
   ·exact .inr h
theorem akp [Fuel] {ov:List (Nat×CK)}:∀{ts:List Ty} {j:Nat} (v:ahT ts),ovP ov j ts=true→∀(i:Nat) c,((adl ts v).map SC.c)[i]? =some c->afg (j+i) ov=true\/c.plain=true
 | [],j,v,_,i,c,hc=>by simp [adl]at hc
 | t::r,j,v,h,i,c,hc=>by
  simp only [ovP,Bool.and_eq_true,Bool.or_eq_true]at h
  cases i with
  |zero=>
   simp only [adl,List.map_cons,List.getElem?_cons_zero]at hc
   cases hc
   rcases h.1 with h|h
   ·exact .inr (Wu v.1 h)
   ·exact .inl h
  |succ i=>
   simp only [adl,List.map_cons,List.getElem?_cons_succ]at hc
   have:=akp v.2 h.2 i c hc
   rwa [show j+1+i=j+(i+1)by omega]at this
theorem abF [Fuel] {n:N} {ov:List (Nat×CK)} (x:T n) (v:VOv ov) (h:ag7 n ov=true):(eOv ov v ((Jz n x).map SC.c)).all SC.plain=true:=by
 simp only [ag7,Bool.and_eq_true]at h
 refine aeg v _ h.2 (λi c hc=> ?_)
 rw [<-am6 n x,Wi]at hc
 have:=akp _ h.1 i c hc
 rwa [Nat.zero_add]at this
theorem amq [Fuel] {k:SK} (x:VS k) (h:k.plain=true):(anj (eS k x)).plain=true:=by
 cases k with
 |c k=>exact acw x h
 |st n=>exact aef (Wv x h)
 |sw n ov=>exact abF x.1 x.2 h
 |ag ks=>exact U2 x h
theorem aeh [Fuel]:∀{ks:List (Nat×SK)} (v:VSs ks),(ks.all λp=>p.2.plain)=true→∀p∈eSs ks v,(anj p.2).plain=true
 | [],v,_,p,hp=>by cases hp
 |(x,k)::r,v,h,p,hp=>by
  simp only [List.all_cons,Bool.and_eq_true]at h
  cases hp with
  |head=>exact amq v.1 h.1
  |tail _ hp=>exact aeh v.2 h.2 p hp
theorem afX [Fuel] {l:List (Nat×SV)} (h:∀p∈l,(anj p.2).plain=true):(aaA l).plain=true:=by
 unfold aaA
 split
 ·exact h _ (List.mem_cons_self ..)
 ·show(l.map λp=>anj p.2).all AV.plain=true
  rw [List.all_eq_true]
  intro a ha
  obtain⟨p,hp,rfl⟩:=List.mem_map.1 ha
  exact h p hp
theorem aei [Fuel]:∀{ks:List OK} (v:VOs ks),ks.all OK.plain=true→∀o∈(eOs ks v).map TO.er,o.plain
 | [],v,_,o,ho=>by cases ho
 | k::r,v,h,o,ho=>by
  simp only [List.all_cons,Bool.and_eq_true]at h
  cases ho with
  |head=>
   have h1:=h.1
   cases k with
   |bs n=>exact aef (Wv v.1 h1)
   |bw n ov=>exact abF v.1.1 v.1.2 h1
   |bx ks=>exact U2 v.1 h1
   |ar t=>exact λi _ x hx=>aiw _ h1 x hx
   |mo=>trivial
   |ra ks=>exact U2 v.1 h1
   |ms=>trivial
   |dd=>trivial
  |tail _ ho=>exact aei v.2 h.2 o ho
theorem aej [Fuel] {k:Nat} {o:bF} {K:List Nat} {l:List bF} (h:(k,o)∈ad5 K l):k∈K:=by
 obtain⟨j,hj,_⟩:=UU.1 h
 exact List.mem_of_getElem? hj
theorem Ww [Fuel]:∀(K L:List Nat) (l:List TO),YB K (l.take K.length)++YB L (l.drop K.length)=YB (K++L) l
 | [],L,l=>rfl
 |k::K,L,[]=>by cases L<;>rfl
 |k::K,L,o::l=>by
  simp only [List.length_cons,List.take_succ_cons,List.drop_succ_cons,List.cons_append,YB]
  rw [Ww K L l]
theorem afY [Fuel] (ρ:Nat->Option Nat):∀{cs:List SC},cs.all exC=true->cs.map (SC.ren ρ)=cs
 | [],_=>rfl
 |c::cs,h=>by
  simp only [List.all_cons,Bool.and_eq_true]at h
  rw [List.map_cons,afY ρ h.2]
  cases c<;>first|rfl|(simp [exC]at h)
theorem akq [Fuel] {h:List (Nat×TO)} {fz:List Nat} {t:Ty} {c:SC} {x:den t} (hx:exC c=true) (e:dT h fz t c=some x):c= .c (abY t x):=by
 cases t with
 |i k=>exact afQ e
 |b=>exact afR e
 |s=>exact Y8 e
 |n k=>cases e
 |l t=>
  replace e:dLs h fz t c=some x:=e
  unfold dLs at e
  split at e
  ·cases yY e;rfl
  ·cases hx
  ·cases hx
  ·cases hx
  ·cases hx
  ·cases e
theorem anm [Fuel] {h:List (Nat×TO)} {fz:List Nat}:∀{ts:List Ty} {cs:List SC} {v:ahT ts},cs.all exC=true->ang h fz ts cs=some v->cs=(adl ts v).map .c
 | [],[],v,_,_=>rfl
 | [],_::_,v,_,e=>by cases e
 |_::_,[],v,_,e=>by cases e
 | t::r,c::cs,v,hx,e=>by
  simp only [List.all_cons,Bool.and_eq_true]at hx
  unfold ang at e
  split at e
  ·rename_i x u h1 h2
   cases e
   rw [akq hx.1 h1,anm hx.2 h2];rfl
  ·cases e
theorem ano [Fuel] {h:List (Nat×TO)} {fz:List Nat} {src:List (Option Nat)} {ko:List OK} {ρ:Nat->Option Nat} (hρ:∀j k,Ar src[j]? k=true->ρ j=some k) {k:CK} {c:SC} {x:VC k} (hx:exK k c=true) (h1:dC h fz src ko k c=some x):(eC k x).ren ρ=c:=by
 cases k with
 |ty t=>
  have:=akq (show exC c=true from hx) (show dT h fz t c=some x from h1)
  rw [this];rfl
 | pb j off=>
  replace h1:dPb src j off c=some x:=h1
  unfold dPb at h1
  split at h1
  ·rename_i k' off'
   cases hb:(Nat.beq off off'&&Ar src[j]? k')with
   |false=>rw [hb]at h1;cases h1
   |true=>
    rw [Bool.and_eq_true]at hb
    have:=Nat.eq_of_beq_eq_true hb.1
    subst this
    show SC.ren ρ (.pb j off)= .pb k' off
    rw [SC.ren,hρ j k' hb.2]
  ·cases h1
 | own j=>
  replace h1:apJ src ko j c=some x:=h1
  unfold apJ at h1
  split at h1
  ·rename_i k'
   cases hb:Ar src[j]? k' with
   |false=>rw [hb]at h1;cases h1
   |true=>
    show SC.ren ρ (.own j)= .own k'
    rw [SC.ren,hρ j k' hb]
  ·cases hx
  ·cases h1
 | mc j=>
  replace h1:dMc src j c=some x:=h1
  unfold dMc at h1
  split at h1
  ·rename_i k'
   cases hb:Ar src[j]? k' with
   |false=>rw [hb]at h1;cases h1
   |true=>
    show SC.ren ρ (.mp j)= .mp k'
    rw [SC.ren,hρ j k' hb]
  ·cases h1
 |nty t=>cases hx
 |pe j off=>cases hx
 |rp t=>cases hx
 |fn f js=>cases hx
 |nl=>cases hx
 |fb f j off=>cases hx
 |bot=>cases hx
theorem akr [Fuel] {h:List (Nat×TO)} {fz:List Nat}:∀{ts:List Ty} {cs:List SC} {v:ahT ts},ang h fz ts cs=some v->(adl ts v).length=cs.length∧∀(i:Nat) c,cs[i]? =some c->exC c=true->((adl ts v).map SC.c)[i]? =some c
 | [],[],v,_=>⟨rfl,λi c hc=>by simp at hc⟩
 | [],_::_,v,e=>by cases e
 |_::_,[],v,e=>by cases e
 | t::r,c::cs,v,e=>by
  unfold ang at e
  split at e
  ·rename_i x u h1 h2
   cases e
   obtain⟨q1,q2⟩:=akr h2
   refine⟨by show(abY t x::adl r u).length=_;simp [q1],λi c' hc hx=> ?_⟩
   show((abY t x::adl r u).map SC.c)[i]? =some c'
   cases i with
   |zero=>
    simp only [List.getElem?_cons_zero,Option.some.injEq]at hc
    subst hc
    rw [akq hx h1];rfl
   |succ i=>simpa using q2 i c' (by simpa using hc) hx
  ·cases e
theorem amr [Fuel] {i j:Nat} {ov:List (Nat×CK)}:∀{cs:List SC},afg j ov=false->(X6 ov cs)[j]? =cs[j]? :=by
 induction ov with
 |nil=>intro cs _;rfl
 |cons a r ih=>
  intro cs hk
  obtain⟨i,k⟩:=a
  simp only [afg,Bool.or_eq_false_iff]at hk
  simp only [X6]
  rw [ih hk.2,List.getElem?_set,if_neg]
  intro h
  have:=hk.1
  rw [h,Nat.beq_refl]at this;cases this
theorem aek [Fuel] {ov:List (Nat×CK)}:∀{cs:List SC},(X6 ov cs).length=cs.length:=by
 induction ov with
 |nil=>intro cs;rfl
 |cons a r ih=>intro cs;obtain⟨i,k⟩:=a;simp only [X6];rw [ih,List.length_set]
theorem aks [Fuel] {h:List (Nat×TO)} {fz:List Nat} {src:List (Option Nat)} {ko:List OK} {ρ:Nat->Option Nat} (hρ:∀j k,Ar src[j]? k=true->ρ j=some k):∀{ov:List (Nat×CK)} {cs base:List SC} {v:VOv ov},dOv h fz src ko ov cs=some v->aq8 ov cs=true->base.length=cs.length→
  (∀(i:Nat),afg i ov=false->(base.map (SC.ren ρ))[i]? =cs[i]?)->(eOv ov v base).map (SC.ren ρ)=cs
 | [],cs,base,v,_,_,_,hb=>List.ext_getElem? λi=>hb i rfl
 | (i,k)::r,cs,base,v,e,hx,hl,hb=>by
  unfold dOv at e
  split at e
  ·rename_i c hc
   split at e
   ·rename_i x u h1 h2
    cases e
    simp only [aq8,hc,Bool.and_eq_true]at hx
    show(eOv r u (base.set i (eC k x))).map (SC.ren ρ)=cs
    refine aks hρ h2 hx.2 (by rw [List.length_set];exact hl) (λj hj=> ?_)
    rw [List.map_set]
    rw [List.getElem?_set]
    by_cases hij:i=j
    ·subst hij
     rw [if_pos rfl,if_pos (by rw [List.length_map,hl];exact aR hc),hc,ano hρ hx.1 h1]
    ·rw [if_neg hij]
     refine hb j ?_
     simp only [afg,Bool.or_eq_false_iff]
     refine⟨?_,hj⟩
     cases hq:Nat.beq i j with
     |true=>exact absurd (Nat.eq_of_beq_eq_true hq) hij
     |false=>rfl
   ·cases e
  ·cases e
theorem ael [Fuel] {ov:List (Nat×CK)}:∀{cs:List SC} {i:Nat},aq9 ov i cs=true→∀(j:Nat) c,cs[j]? =some c->afg (i+j) ov=false->exC c=true
 | [],i,_,j,c,hc,_=>by simp at hc
 | c0::r,i,hx,j,c,hc,hk=>by
  simp only [aq9,Bool.and_eq_true,Bool.or_eq_true]at hx
  cases j with
  |zero=>
   simp only [List.getElem?_cons_zero,Option.some.injEq]at hc
   subst hc
   rcases hx.1 with h|h
   ·rw [Nat.add_zero]at hk;rw [hk]at h;cases h
   ·exact h
  |succ j=>exact ael hx.2 j c (by simpa using hc) (by rw [show i+1+j=i+(j+1)by omega];exact hk)
theorem afZ [Fuel] {h:List (Nat×TO)} {fz:List Nat} {src:List (Option Nat)} {ko:List OK} {ρ:Nat->Option Nat} (hρ:∀j k,Ar src[j]? k=true->ρ j=some k):∀{ks:List CK} {cs:List SC} {v:VCs ks},aog ks cs=true->dCs h fz src ko ks cs=some v->(eCs ks v).map (SC.ren ρ)=cs
 | [],[],v,_,_=>rfl
 | [],_::_,v,_,e=>by cases e
 |_::_,[],v,_,e=>by cases e
 | k::ks,c::cs,v,hx,e=>by
  simp only [aog,Bool.and_eq_true]at hx
  unfold dCs at e
  split at e
  ·rename_i x u h1 h2
   cases e
   show(eC k x).ren ρ::(eCs ks u).map (SC.ren ρ)=c::cs
   rw [afZ hρ hx.2 h2]
   congr 1
   exact ano hρ hx.1 h1
  ·cases e
theorem apW [Fuel] {h:List (Nat×TO)} {fz:List Nat} {src:List (Option Nat)} {ko:List OK} {i:Nat} {k:OK} {x:VO k} {ρ:Nat->Option Nat} (hρ:∀j k,Ar src[j]? k=true->ρ j=some k) (hx:exO k (lookO h i)=true) (e:dO h fz src ko (some i) k=some x):(eO k x).ren ρ=lookO h i:=by
 cases k with
 |ar t=>exact(NG (show dA t (lookO h i)=some x from e)).symm
 | bs n=>
  simp only [dO,ad7]at e
  cases hl:lookO h i with
  | box cs=>
   rw [hl]at e hx
   replace hx:cs.all exC=true:=hx
   replace e:unN h fz n cs=some x:=e
   unfold unN at e
   split at e
   ·rename_i v hv
    cases e
    have:=anm hx hv
    show TO.box (((Jz n (mkN n v)).map .c).map (SC.ren ρ))=_
    rw [Wi,<-this,afY ρ hx]
   ·cases e
  |arr t xs=>rw [hl]at hx;cases hx
  |mp es=>rw [hl]at hx;cases hx
  |ra cs=>rw [hl]at hx;cases hx
  |ms es=>rw [hl]at hx;cases hx
  |dead=>rw [hl]at hx;cases hx
 | bw n ov=>
  simp only [dO,ad7]at e
  cases hl:lookO h i with
  | box cs=>
   rw [hl]at e hx
   simp only [exO,Bool.and_eq_true]at hx
   replace e:dW h fz src ko n ov cs=some x:=e
   unfold dW at e
   split at e
   ·rename_i y u h1 h2
    cases hn:ag3 ov with
    |false=>rw [hn]at e;cases e
    | true=>
     rw [hn]at e
     cases e
     unfold unN at h1
     split at h1
     ·rename_i w hw
      cases h1
      obtain⟨q1,q2⟩:=akr hw
      show TO.box ((eOv ov u ((Jz n (mkN n w)).map .c)).map (SC.ren ρ))=_
      rw [Wi]
      congr 1
      refine aks hρ h2 hx.2 (by rw [List.length_map,q1,aek]) (λj hj=> ?_)
      rcases Nat.lt_or_ge j cs.length with hlt|hge
      ·have hcj:cs[j]? =some cs[j]:=List.getElem?_eq_getElem hlt
       have hex:=ael hx.1 j cs[j] hcj (by rw [Nat.zero_add];exact hj)
       have:=q2 j cs[j] (by rw [amr (i:=0) hj];exact hcj) hex
       rw [List.getElem?_map,this,hcj]
       have h3:=afY ρ (cs:= [cs[j]]) (by simp [hex])
       simpa using h3
      ·rw [List.getElem?_eq_none hge,List.getElem?_eq_none]
       rw [List.length_map,List.length_map,q1,aek];exact hge
     ·cases h1
   ·cases e
  |arr t xs=>rw [hl]at hx;cases hx
  |mp es=>rw [hl]at hx;cases hx
  |ra cs=>rw [hl]at hx;cases hx
  |ms es=>rw [hl]at hx;cases hx
  |dead=>rw [hl]at hx;cases hx
 | bx ks=>
  simp only [dO,ad7]at e
  cases hl:lookO h i with
  |box cs=>
   rw [hl]at e hx
   replace hx:aog ks cs=true:=hx
   replace e:dCs h fz src ko ks cs=some x:=e
   show TO.box ((eCs ks x).map (SC.ren ρ))=_
   rw [afZ hρ hx e]
  |arr t xs=>rw [hl]at hx;cases hx
  |mp es=>rw [hl]at hx;cases hx
  |ra cs=>rw [hl]at hx;cases hx
  |ms es=>rw [hl]at hx;cases hx
  |dead=>rw [hl]at hx;cases hx
 |mo=>
  simp only [dO,amh]at e
  cases hl:lookO h i with
  |mp es=>rw [hl]at e;cases e;rfl
  |arr t xs=>rw [hl]at hx;cases hx
  |box cs=>rw [hl]at hx;cases hx
  |ra cs=>rw [hl]at hx;cases hx
  |ms es=>rw [hl]at hx;cases hx
  |dead=>rw [hl]at hx;cases hx
 |ms=>
  simp only [dO,aq4]at e
  cases hl:lookO h i with
  |ms es=>rw [hl]at e;cases e;rfl
  |arr t xs=>rw [hl]at hx;cases hx
  |box cs=>rw [hl]at hx;cases hx
  |ra cs=>rw [hl]at hx;cases hx
  |mp es=>rw [hl]at hx;cases hx
  |dead=>rw [hl]at hx;cases hx
 | ra ks=>
  simp only [dO,arR]at e
  cases hl:lookO h i with
  |ra cs=>
   rw [hl]at e hx
   replace hx:aog ks cs=true:=hx
   replace e:dCs h fz src ko ks cs=some x:=e
   show TO.ra ((eCs ks x).map (SC.ren ρ))=_
   rw [afZ hρ hx e]
  |arr t xs=>rw [hl]at hx;cases hx
  |mp es=>rw [hl]at hx;cases hx
  |ms es=>rw [hl]at hx;cases hx
  |box cs=>rw [hl]at hx;cases hx
  |dead=>rw [hl]at hx;cases hx
 |dd=>cases h:lookO h i<;>rw [h]at hx<;>cases hx
theorem acy [Fuel] {h:List (Nat×TO)} {fz:List Nat} {src:List (Option Nat)} {ko:List OK} {ρ:Nat->Option Nat} (hρ:∀j k,Ar src[j]? k=true->ρ j=some k):∀{K:List Nat} {ks:List OK} {v:VOs ks},afU h K ks=true->dOs h fz src ko (K.map some) ks=some v→
  ∀p∈YB K ((eOs ks v).map (TO.ren ρ)),lookO h p.1=p.2
 | [],[],v,_,_,p,hp=>by cases hp
 | [],_::_,v,hx,_,p,hp=>by cases hx
 |_::_,[],v,hx,_,p,hp=>by cases hx
 | k::K,o::os,v,hx,e,p,hp=>by
  simp only [afU,Bool.and_eq_true]at hx
  simp only [List.map_cons]at e
  unfold dOs at e
  split at e
  ·rename_i a u h1 h2
   cases e
   simp only [eOs,List.map_cons,YB]at hp
   cases hp with
   |head=>show lookO h k=(eO o a).ren ρ;exact(apW hρ hx.1 h1).symm
   |tail _ hp=>exact acy hρ hx.2 h2 p hp
  ·cases e
theorem aem [Fuel] {α:Type} {b:Bool} {x:Option α} {v:α} (h:(bif b then x else none)=some v):x=some v:=by
 cases b with
 |true=>exact h
 |false=>cases h
theorem aoj [Fuel] {S:aS} {h:List (Nat×TO)} {args:List SV} {K L:List Nat} {v:S.ps.V} {g:Bool} (hsrc:aiv (Y7 S.ps 0 ⟨X5 0 args,h,0⟩).om 0 S.ps.objs.length=K.map some) (hv:dec S.ps 0 ⟨X5 0 args,h,0⟩=some v)
  (hc:((some g).isNone||Nat.beq K.length 0||(S.dk&&afU h K S.ps.objs))=true):
  ∀p∈YB K (((eOs S.rs.objs (S.g (S.d v)).2).map (TO.ren (at_ (K++L)))).take S.ps.objs.length),lookO h p.1=p.2:=by
 simp only [Option.isNone_some,Bool.false_or,Bool.or_eq_true,Bool.and_eq_true]at hc
 intro p hp
 rcases hc with hc|⟨hd,hx⟩
 ·have:=List.eq_nil_of_length_eq_zero (Nat.eq_of_beq_eq_true hc)
  subst this
  cases hp
 ·rw [<-List.map_take,S.hd hd v]at hp
  unfold dec at hv
  simp only at hv
  have hv:=aem hv
  split at hv
  ·rename_i a b h1 h2
   cases hv
   rw [hsrc]at h2
   refine acy (λj k hk=> ?_) hx h2 p hp
   rw [List.getElem?_map]at hk
   show(K++L)[j]? =some k
   cases hj:K[j]? with
   |none=>rw [hj]at hk;cases hk
   |some k'=>
    rw [hj]at hk
    have:=Nat.eq_of_beq_eq_true (show Nat.beq k' k=true from hk)
    subst this
    rw [List.getElem?_append_left (List.getElem?_eq_some_iff.1 hj).1]
    exact hj
  ·cases hv
theorem Xr [Fuel]:∀{A:List (Nat×bF)} {h:List bF},(∀k o,(k,o)∈A->h[k]? =some o)->bD h A=h
 | [],h,_=>rfl
 | (k,o)::r,h,hA=>by
  have e:h.set k o=h:=by
   apply List.ext_getElem?
   intro i
   rw [List.getElem?_set]
   by_cases hk:k=i
   ·subst hk
    have:=hA k o (List.mem_cons_self ..)
    rw [if_pos rfl,if_pos (aR this),this]
   ·rw [if_neg hk]
  show bD (h.set k o) r=h
  rw [e]
  exact Xr λk o hk=>hA k o (List.mem_cons_of_mem _ hk)
theorem acf.drop [Fuel] {P:Program} {f:FuncId} {args:List SV} {objs:List (Nat×bF)} {r:SV} {A B:List (Nat×bF)} (h:acf P f args objs r (A++B)) (hA:∀k o,(k,o)∈A->(k,o)∈objs):acf P f args objs r B:=by
 refine⟨h.1,λX w m h0 vs H ho hn ha=> ?_⟩
 have h1:=h.2 X w m h0 vs H ho (λk o hk=>by
  rcases List.mem_append.1 hk with hk|hk
  ·exact .inl ⟨o,hA k o hk⟩
  ·exact hn k o hk) ha
 rw [NC,Xr (λk o hk=>ho k o (hA k o hk))]at h1
 exact h1
theorem ams [Fuel] {β:Type} {C:Cx} {S:aS} (hS:bL C.P S) {g:Option Bool} {id:Nat} {h:List (Nat×TO)} {hA:List bF} {σA:List (Nat×SV)} {c:Call} {fo:Operand} {fv:SV} {as' all:List SV} {k:SV->List (Nat×TO)->List (Nat×TO)->List Nat->Option β} {res:β}
  (hh:∀k,lookO h k≠.dead->mX hA k=(lookO h k).er) (hc:c.callee= .value fo) (hfo:opd σA fo=some fv) (has:YX (opd σA) c.args.toList=some as') (hfn:adT fv as'=some (S.f,all))
  (e:aoh C S g id h all k=some res):
  ∃r wk ws ks,k r wk ws ks=some res/\(g=some false→∀p∈wk,lookO h p.1=p.2)/\((g=none\/g=some true)->Does C.P id σA hA (.call c) r (wk++ws) ks):=by
 unfold aoh at e
 simp only at e
 split at e
 ·cases e
 ·rename_i v hv
  split at e
  ·cases e
  ·rename_i K hK
   have hsrc:=Xq hK
   cases hcond:(wQ 0 S.ps.slots&&Nat.beq all.length S.ps.slots.length&&Nat.ble S.ps.objs.length S.rs.objs.length&&nodupB (K++Qu id (S.rs.objs.length - S.ps.objs.length))&&
     (Y7 S.ps 0 ⟨X5 0 all,h,0⟩).fz.all (λk=> !(Qg k (K++Qu id (S.rs.objs.length - S.ps.objs.length))))&&UM (nJ (LV h (K++(Y7 S.ps 0 ⟨X5 0 all,h,0⟩).fz)) (K++(Y7 S.ps 0 ⟨X5 0 all,h,0⟩).fz))&&aof S.ps.objs&&aof (S.rs.objs.drop S.ps.objs.length)&&
     (Qu id (S.rs.objs.length - S.ps.objs.length)).all (λk=> !(Qg k (K++(Y7 S.ps 0 ⟨X5 0 all,h,0⟩).fz))&&Nat.blt k (id+64))&&(g.isNone||Nat.beq K.length 0||(S.ro.isSome&&afU h K S.ps.objs)||(S.dk&&afU h K S.ps.objs)))with
   |false=>rw [hcond]at e;cases e
   | true=>
    rw [hcond]at e
    simp only [cond_true]at e
    have aul:K.length=S.ps.objs.length:=by have:=congrArg List.length hsrc;rw [UZ,List.length_map]at this;exact this.symm
    obtain⟨r,ro,hk,hF,hro,hF0⟩:∃(r:S.β) (ro:Bool),amn S g K (Qu id (S.rs.objs.length - S.ps.objs.length)) (bif !S.rs.plain then(Y7 S.ps 0 ⟨X5 0 all,h,0⟩).fz else []) (K++(Y7 S.ps 0 ⟨X5 0 all,h,0⟩).fz) k ro r=some res∧
      ((g=none\/g=some true)->S.F v=some r)∧
      (ro=true->afU h K S.ps.objs=true/\(eOs S.rs.objs (S.g r).2).take S.ps.objs.length=eOs S.ps.objs v.2)∧
      (ro=false->g=some false->K= []\/(S.d v=r/\(S.dk&&afU h K S.ps.objs)=true)):=by
     have hl:(g.isNone||Nat.beq K.length 0||(S.ro.isSome&&afU h K S.ps.objs)||(S.dk&&afU h K S.ps.objs))=true:=by
      simp only [Bool.and_eq_true]at hcond;exact hcond.2
     have hnil:Nat.beq K.length 0=true->K= []:=λh=>List.eq_nil_of_length_eq_zero (Nat.eq_of_beq_eq_true h)
     clear hcond
     cases hq:S.ro with
     |none=>
      rw [hq]at e hl
      obtain⟨r,hk,hF,hF0⟩:=abC e
      refine⟨r,false,hk,hF,(λh=>by cases h),λ_ hg=> ?_⟩
      have hd:=hF0 hg
      subst hg
      simp only [Option.isNone_some,Bool.false_or,Option.isSome_none,Bool.false_and,Bool.or_false,Bool.or_eq_true]at hl
      rcases hl with hl|hl
      ·exact .inl (hnil hl)
      ·exact .inr ⟨hd,hl⟩
     |some q=>
      rw [hq]at e hl
      obtain⟨x,hk,hF,_⟩:=abC e
      refine⟨q.pr x v,afU h K S.ps.objs,hk,λhg=>by rw [q.hF v,hF hg];rfl,λhe=>⟨he,S.hr q hq v x⟩,λhe hg=> ?_⟩
      subst hg
      rw [he]at hl
      simp only [Option.isNone_some,Bool.false_or,Bool.and_false,Bool.or_false]at hl
      exact .inl (hnil hl)
    unfold amn at hk
    refine⟨_,_,_,_,hk,λhg=> ?_,λhg=> ?_⟩
    ·cases ro with
     |true=>intro p hp;cases hp
     | false=>
      subst hg
      simp only [Option.isNone_some,Bool.or_false,cond_false]
      rcases hF0 rfl rfl with h0|⟨h0,h1⟩
      ·subst h0;intro p hp;cases hp
      ·subst h0
       exact aoj (g:=false) hsrc hv (by rw [h1];simp)
    have hF:=hF hg
    clear e hk hF0
    simp only [Bool.and_eq_true]at hcond
    obtain⟨⟨⟨⟨⟨⟨⟨⟨⟨c1,c2⟩,c3⟩,c4⟩,c5⟩,c6⟩,c7⟩,c8⟩,c9⟩,_⟩:=hcond
    have hsame:afU h K S.ps.objs=true→∀p∈YB K ((eOs S.ps.objs v.2).map (TO.ren (at_ (K++Qu id (S.rs.objs.length - S.ps.objs.length))))),lookO h p.1=p.2:=by
     intro hx
     have hv':=hv
     unfold dec at hv'
     simp only at hv'
     have hv':=aem hv'
     split at hv'
     ·rename_i a b h1 h2
      cases hv'
      rw [hsrc]at h2
      refine acy (λj k hk=> ?_) hx h2
      rw [List.getElem?_map]at hk
      show(K++_)[j]? =some k
      cases hj:K[j]? with
      |none=>rw [hj]at hk;cases hk
      |some k'=>
       rw [hj]at hk
       have:=Nat.eq_of_beq_eq_true (show Nat.beq k' k=true from hk)
       subst this
       rw [List.getElem?_append_left (List.getElem?_eq_some_iff.1 hj).1]
       exact hj
     ·cases hv'
    have c2:=Nat.eq_of_beq_eq_true c2
    have c3:=Nat.le_of_ble_eq_true c3
    have hfit:=afT (g:=JH (nJ (Nw hA (K++(Y7 S.ps 0 ⟨X5 0 all,h,0⟩).fz)) (K++(Y7 S.ps 0 ⟨X5 0 all,h,0⟩).fz))) (ts:=⟨X5 0 all,h,0⟩) (by
     intro k hkR hne
     have asK:k∈K++(Y7 S.ps 0 ⟨X5 0 all,h,0⟩).fz:=by
      rcases hkR with h1|h1
      ·exact List.mem_append_right _ h1
      ·rw [hsrc]at h1
       obtain⟨q,hq,he⟩:=List.mem_map.1 h1
       cases he;exact List.mem_append_left _ hq
     rw [Uc asK]
     unfold Nw
     rw [mD.2 asK]
     exact hh k hne) hv
    simp only at hfit
    generalize hfz:(Y7 S.ps 0 ⟨X5 0 all,h,0⟩).fz=fz at*
    generalize hLd:Qu id (S.rs.objs.length - S.ps.objs.length)=L at*
    rw [hsrc]at hfit
    obtain⟨F,FH,hs⟩:=hfit
    generalize hR:K++fz=R at*
    have hlive:∀k∈R,(LV h R k).live:=by
     intro k hk
     have:(k,LV h R k)∈nJ (LV h R) R:=by
      clear c6 FH F hs
      have:∀(l:List Nat),k∈l->(k,LV h R k)∈nJ (LV h R) l:=by
       intro l
       induction l with
       |nil=>intro hl;cases hl
       |cons a l ih=>
        intro hl
        cases hl with
        |head=>exact List.mem_cons_self ..
        |tail _ hl=>exact List.mem_cons_of_mem _ (ih hl)
      exact this R hk
     exact Nu c6 k _ this
    have hcut:∀k∈R,Nw hA R k=LV h R k:=λk hk=>acu hh (λ_ h=>h) k (hlive k hk)
    have an2:nJ (Nw hA R) R=nJ (LV h R) R:=by
     have:∀(l:List Nat),(∀k∈l,k∈R)->nJ (Nw hA R) l=nJ (LV h R) l:=by
      intro l
      induction l with
      |nil=>intro _;rfl
      |cons a l ih=>
       intro hl
       simp only [nJ]
       rw [hcut a (hl a (List.mem_cons_self ..)),ih (λk hk=>hl k (List.mem_cons_of_mem _ hk))]
     exact this R (λ_ h=>h)
    have hgR:∀k∈R,JH (nJ (Nw hA R) R) k=LV h R k:=λk hk=>by rw [Uc hk,hcut k hk]
    have hKR:∀k∈K,k∈R:=λk hk=>by rw [<-hR];exact List.mem_append_left _ hk
    have hfR:∀k∈fz,k∈R:=λk hk=>by rw [<-hR];exact List.mem_append_right _ hk
    have hLn:∀k∈L,k ∉ R/\id<=k/\k<id+64:=by
     intro k hk
     have:=(List.all_eq_true.1 c9) k hk
     simp only [Bool.and_eq_true,Bool.not_eq_true']at this
     refine⟨λhr=> ?_,aed (hLd▸hk),?_⟩
     ·rw [mD.2 hr]at this;cases this.1
     ·have h2:=this.2;simp only [Nat.blt]at h2;exact Nat.le_of_ble_eq_true h2
    have hargs:K7 (aj4 (JH (nJ (Nw hA R) R)) ((eOs S.ps.objs v.2).map TO.er) (K.map some) (· ∈fz)) all ((eSs S.ps.slots v.1).map (·.2)):=by
     refine akn (by rw [List.length_map,Zf];exact c2) (λi b hb=> ?_)
     have h1:=afV v.1 c1 i b hb
     rw [Nat.zero_add]at h1
     obtain⟨s,h2,h3⟩:=aco F hs i b h1
     exact⟨s,(UR h2).2,h3⟩
    have hKl:K.length=S.ps.objs.length:=by
     have:=FH.len
     rw [List.length_map,List.length_map,LU]at this
     exact this
    have hk2:(K++L).length=((eOs S.rs.objs (S.g r).2).map TO.er).length:=by
     rw [List.length_append,List.length_map,LU,<-hLd,abD,hKl];omega
    have hP:=aj8 (objs:=nJ (Nw hA R) R) K L fz (!S.rs.plain) hS.1 (hS.2 v r hF) FH hargs hk2 c4
     (λk hk=>⟨λhm=>(by have:=(List.all_eq_true.1 c5) k hk;rw [mD.2 hm]at this;cases this),by rw [hgR k (hfR k hk)];exact hlive k (hfR k hk)⟩)
     (λk hk=>by rw [hgR k (hKR k hk)];exact hlive k (hKR k hk))
     (by
      obtain⟨u,hu⟩:=ahd S.rs.objs (S.g r).2 K.length
      rw [<-List.map_drop,hu]
      exact aec u (by rw [hKl];exact c8))
     (λk hk=>by
      rw [Wt]
      cases hb:Qg k R with
      |false=>rfl
      |true=>exact absurd (mD.1 hb) (hLn k hk).1)
     (by
      cases hp:S.rs.plain with
      |false=>exact .inl rfl
      |true=>
       right
       simp only [Shape.plain,Bool.and_eq_true]at hp
       exact⟨afX (aeh _ hp.1),aei _ hp.2⟩)
    have hws:erW (YB (K++L) ((eOs S.rs.objs (S.g r).2).map (TO.ren (at_ (K++L))))++ad9 (bif !S.rs.plain then fz else []))=ad5 (K++L) (((eOs S.rs.objs (S.g r).2).map TO.er).map (bF.ren (at_ (K++L))))++aax (bif !S.rs.plain then fz else []):=by
     rw [afW,ako,ahc]
    have hkeys:∀k o,(k,o)∈ad5 (K++L) (((eOs S.rs.objs (S.g r).2).map TO.er).map (bF.ren (at_ (K++L))))++aax (bif !S.rs.plain then fz else [])->k∈R\/(id<=k/\k<id+64):=by
     intro k o hm
     rcases List.mem_append.1 hm with hm|hm
     ·rcases List.mem_append.1 (aej hm)with h1|h1
      ·exact .inl (hKR k h1)
      ·exact .inr (hLn k h1).2
     ·have:=(Y6 hm).1
      cases hp:S.rs.plain with
      |false=>rw [hp]at this;exact .inl (hfR k this)
      |true=>rw [hp]at this;exact absurd this List.not_mem_nil
    rw [<-hws]at hP hkeys
    clear hws
    generalize SV.ren (at_ (K++L)) (aaA (eSs S.rs.slots (S.g r).1))=rr at hP⊢
    have fin:∀W:List (Nat×TO),acf C.P S.f all (nJ (Nw hA R) R) rr (erW W)->(∀k o,(k,o)∈erW W->k∈R\/(id<=k/\k<id+64))->Does C.P id σA hA (.call c) rr W R:=by
     intro W hP hkeys
     have hrd:readsOf σA (.call c) (some (.call rr R (erW W)))=R:=by unfold readsOf;simp only [JG,hc,cond_false,afJ]
     refine⟨some (.call rr R (erW W)),{r:=rr,ws:=erW W,cs:= [acf C.P S.f all (nJ (Nw hA R) R) rr (erW W)]},?_,λq hq=> ?_,rfl,rfl,rfl,?_⟩
     ·rw [hrd]
      simp only [oG,hc,hfo,has,hfn]
      rw [an2,c6,Bool.and_true,ahe (λk o hm=>by
       rcases hkeys k o hm with h1|h1
       ·left;rw [Wt];exact mD.2 h1
       ·exact .inr h1)]
      rfl
     ·simp only [List.mem_cons,List.not_mem_nil,or_false]at hq
      subst hq
      exact hP
     ·rw [hrd]
      refine aee (λk o hm=> ?_)
      rcases hkeys k o hm with h1|h1
      ·left;rw [hcut k h1];exact hlive k h1
      ·exact .inr h1
    have htk:((eOs S.rs.objs (S.g r).2).map (TO.ren (at_ (K++L)))).length=(K++L).length:=by rw [hk2,List.length_map,List.length_map]
    cases ro with
    | false=>
     have atX:(bif false||g.isNone then([]:List (Nat×TO))else YB K (((eOs S.rs.objs (S.g r).2).map (TO.ren (at_ (K++L)))).take S.ps.objs.length))++
       ((bif false then YB L (((eOs S.rs.objs (S.g r).2).map (TO.ren (at_ (K++L)))).drop S.ps.objs.length)else bif g.isNone then YB (K++L) ((eOs S.rs.objs (S.g r).2).map (TO.ren (at_ (K++L))))else YB L (((eOs S.rs.objs (S.g r).2).map (TO.ren (at_ (K++L)))).drop S.ps.objs.length))++ad9 (bif !S.rs.plain then fz else []))=
       YB (K++L) ((eOs S.rs.objs (S.g r).2).map (TO.ren (at_ (K++L))))++ad9 (bif !S.rs.plain then fz else []):=by
      cases g with
      |none=>rfl
      |some g=>simp only [Option.isNone_some,Bool.or_false,cond_false];rw [<-List.append_assoc,<-hKl,Ww]
     rw [atX]
     exact fin _ hP hkeys
    | true=>
     obtain⟨hx,htake⟩:=hro rfl
     rw [<-Ww,hKl,List.append_assoc,afW]at hP hkeys
     show Does C.P id σA hA (.call c) rr ([]++(YB L (((eOs S.rs.objs (S.g r).2).map (TO.ren (at_ (K++L)))).drop S.ps.objs.length)++ad9 (bif !S.rs.plain then fz else []))) R
     rw [List.nil_append]
     refine fin _ (acf.drop hP (λk o hk=> ?_)) (λk o hk=>hkeys k o (List.mem_append_right _ hk))
     rw [<-List.map_take,htake]at hk
     obtain⟨p,hp,hpe⟩:=List.mem_map.1 hk
     cases hpe
     have hl:=hsame hx p hp
     have hpK:p.1∈K:=by
      have:∀(K:List Nat) (l:List TO) (p:Nat×TO),p∈YB K l->p.1∈K:=by
       intro K
       induction K with
       |nil=>intro l p hp;cases hp
       | cons a K ih=>
        intro l p hp
        cases l with
        |nil=>cases hp
        |cons o l=>
         cases hp with
         |head=>exact List.mem_cons_self ..
         |tail _ hp=>exact List.mem_cons_of_mem _ (ih l p hp)
      exact this _ _ _ hp
     have hR':=hKR p.1 hpK
     have:∀(l:List Nat),p.1∈l->(p.1,Nw hA R p.1)∈nJ (Nw hA R) l:=by
      intro l
      induction l with
      |nil=>intro hl;cases hl
      |cons a l ih=>
       intro hl
       cases hl with
       |head=>exact List.mem_cons_self ..
       |tail _ hl=>exact List.mem_cons_of_mem _ (ih hl)
     have h2:=this R hR'
     rw [hcut p.1 hR',show LV h R p.1=(lookO h p.1).er from by unfold LV;rw [mD.2 hR'];rfl,hl]at h2
     exact h2
theorem anp [Fuel] {β:Type} {C:Cx} (hT:∀S∈C.T,bL C.P S) {site:Nat×Nat} {g:Option Bool} {id:Nat} {σr σA:List (Nat×SV)} {h:List (Nat×TO)} {hA:List bF} {op:Op} {k:SV->List (Nat×TO)->List (Nat×TO)->List Nat->Option β} {res:β}
  (hl:∀x s,look σr x=some s->look σA x=some s) (hm:∀p∈σr,p∈σA) (hh:∀k,lookO h k≠.dead->mX hA k=(lookO h k).er)
  (e:tOp C site g id σr h op k=some res):∃r wk ws ks,k r wk ws ks=some res/\(g=some false→∀p∈wk,lookO h p.1=p.2)/\((g=none\/g=some true)->Does C.P id σA hA op r (wk++ws) ks):=by
 have hx:tX C g id σr h op k=some res→∃r wk ws ks,k r wk ws ks=some res/\(g=some false→∀p∈wk,lookO h p.1=p.2)/\((g=none\/g=some true)->Does C.P id σA hA op r (wk++ws) ks):=by
  intro e
  unfold tX at e
  split at e
  ·cases e
  ·rename_i ef he
   split at e
   ·rename_i ws ht
    cases hk:CB id (LV h (readsOf σr op none)) (erW ws)with
    |false=>rw [hk]at e;cases e
    |true=>
     rw [hk]at e
     obtain⟨h1,h2⟩:=U1 (show amk g ef.bs (k ef.r [] ws [])=some res from e)
     exact⟨ef.r,[],ws,[],h1,λ_ p hp=>(absurd hp List.not_mem_nil),λhg=>atW hl hm hh he (h2 hg) ht hk⟩
   ·cases e
 have hd:(match evalOp C.P id (opd σr) (LV h (readsOf σr op none)) op with
  |none=>tX C g id σr h op k
  |some e=>match typed C σr h id op e with
   |none=>none
   |some (r,ws)=>bif CB id (LV h (readsOf σr op none)) (erW ws)then amk g e.bs (k r [] ws [])else none)=some res→∃r wk ws ks,k r wk ws ks=some res/\(g=some false→∀p∈wk,lookO h p.1=p.2)/\((g=none\/g=some true)->Does C.P id σA hA op r (wk++ws) ks):=by
  intro e
  split at e
  ·exact hx e
  ·rename_i ef he
   split at e
   ·cases e
   ·rename_i r ws ht
    cases hk:CB id (LV h (readsOf σr op none)) (erW ws)with
    |false=>rw [hk]at e;cases e
    |true=>
     rw [hk]at e
     obtain⟨h1,h2⟩:=U1 (show amk g ef.bs (k r [] ws [])=some res from e)
     exact⟨r,[],ws,[],h1,λ_ p hp=>(absurd hp List.not_mem_nil),λhg=>aoi hl hm hh he (h2 hg) ht hk⟩
 unfold tOp at e
 simp only at e
 split at e
 ·rename_i c
  split at e
  ·rename_i fo hfo
   split at e
   ·rename_i fv as' h1 h2
    split at e
    ·rename_i f all h3
     split at e
     ·rename_i S hS
      cases hf:Nat.beq S.f f with
      |false=>rw [hf]at e;cases e
      | true=>
       rw [hf]at e
       simp only [cond_true]at e
       have:=Nat.eq_of_beq_eq_true hf;subst this
       have hmem:S∈C.T:=by
        unfold Cx.spec at hS
        split at hS
        ·exact List.mem_of_getElem? hS
        ·have:∀(f:FuncId) (l:List aS),ag6 f l=some S->S∈l:=by
          intro f l
          induction l with
          |nil=>intro h;cases h
          |cons a l ih=>
           intro h
           simp only [ag6]at h
           cases hb:Nat.beq a.f f with
           |true=>rw [hb]at h;cases h;exact List.mem_cons_self ..
           |false=>rw [hb]at h;exact List.mem_cons_of_mem _ (ih h)
         exact this _ _ hS
       exact ams (hT S hmem) hh hfo (acv hl _ _ h1) (akh (acv hl) h2) h3 e
     ·cases e
    ·cases e
   ·cases e
  ·exact hd e
 ·exact hd e
end Go.AM
namespace Go.AM
open Go Go.RowKit Go.CP
abbrev Path:=List (Nat×Bool)
structure RS where
 σ:List (Nat×Path×SV)
 h:List (Nat×Path×TO)
def lkP:List (Nat×Path×SV)->Nat->Option (Path×SV)
 | [],_=>none
 |(i,q)::r,t=>bif Nat.beq i t then some q else lkP r t
def lkH:List (Nat×Path×TO)->Nat->Option (Path×TO)
 | [],_=>none
 |(i,q)::r,t=>bif Nat.beq i t then some q else lkH r t
def eqE:Nat×Bool->Nat×Bool->Bool
 |(a,x),(b,y)=>Nat.beq a b&&(x==y)
def atY (e:Nat×Bool) (π:Path):Bool:=π.any (eqE e)
def aen (π' π:Path):Bool:=π'.all λe=>atY e π
def aje (π:Path):List (Nat×Path×TO)->List (Nat×TO)
 | []=> []
 |(k,π',o)::r=>(k,bif aen π' π then o else .dead)::aje π r
def akt (σ:List (Nat×Path×SV)) (π:Path):List Nat->List (Nat×SV)
 | []=> []
 |x::r=>match lkP σ x with
  |some (π',s)=>bif aen π' π then(x,s)::akt σ π r else akt σ π r
  |none=>akt σ π r
def aaB (σ:List (Nat×Path×SV)):List Nat->List Nat
 | []=> []
 |x::r=>match lkP σ x with
  |some (_,s)=>s.refs++aaB σ r
  |none=>aaB σ r
def MB:SV->Option Bool
 | .one (.s (.c (.val (.bool b))))=>some b
 |_=>none
def apX (σ:List (Nat×Path×SV)):Path->Option (Option Bool)
 | []=>some none
 | (d,w)::r=>match lkP σ d with
  | some (_,s)=>match MB s with
   |some b=>match apX σ r with
    |some none=>some (some (bif w then b else !b))
    |some (some g)=>some (some (g&&(bif w then b else !b)))
    |none=>none
   |none=>none
  |none=>none
def aok (ops:Array Oper) (σ:List (Nat×Path×SV)):Option (Nat×Bool)->Option (Path×Option Bool)
 |none=>some ([],none)
 | some (j,want)=>match(ops[j]?).bind (·.dst)with
  | some d=>match lkP σ d with
   |some (π,_)=>match apX σ ((d,want)::π)with
    |some g=>some ((d,want)::π,g)
    |none=>none
   |none=>none
  |none=>none
def alP (σ:List (Nat×Path×SV)) (π:Path):Operand->Option SV
 | .tmp t=>match lkP σ t with
  |some (π',s)=>bif aen π' π then some s else none
  |none=>none
 | .const v=>some (.one (adC v))
 |_=>none
def aku (c:Bool):SV->SV->Option SV
 | .one (.s (.c (.val (.bool a)))),.one (.s (.c (.val (.bool b))))=>some (mkv (.bool (bif c then a else b)))
 | .one (.s (.c (.val (.int k a)))),.one (.s (.c (.val (.int k' b))))=>if k=k' then some (mkv (.int k (bif c then a else b)))else none
 |_,_=>none
def amt (σ:List (Nat×Path×SV)) (π:Path) (c a b:Operand):Option SV:=
 match c with
 | .tmp t=>match alP σ π c,alP σ ((t,true)::π) a,alP σ ((t,false)::π) b with
  |some cv,some av,some bv=>match MB cv with
   |some cb=>aku cb av bv
   |none=>none
  |_,_,_=>none
 |_=>none
def noD (d:Nat) (π:Path):Bool:=π.all λe=> !(Nat.beq e.1 d)
def ajf (σ:List (Nat×Path×SV)) (d:Option Nat) (π:Path) (s:SV):List (Nat×Path×SV):=
 match d with
 |some d=>(d,π,s)::σ
 |none=>σ
def alQ (d:Option Nat) (σ:List (Nat×Path×SV)) (h:List (Nat×Path×TO)) (π:Path):Bool:=
 match d with
 |some d=>noD d π&&σ.all (λp=>noD d p.2.1)&&h.all (λp=>noD d p.2.1)
 |none=>true
def wsP (N:Nat) (π:Path):List (Nat×Path×TO)->List (Nat×TO)->Option (List (Nat×Path×TO))
 |h,[]=>some h
 |h,(k,o)::r=>bif Nat.blt k N then(match lkH h k with
  |some (π',_)=>bif aen π π'&&aen π' π then wsP N π ((k,π',o)::h) r else none
  |none=>wsP N π ((k,π,o)::h) r)else none
def wkP (N:Nat) (π:Path):List (Nat×Path×TO)->List (Nat×TO)->Option (List (Nat×Path×TO))
 |h,[]=>some h
 |h,(k,o)::r=>bif Nat.blt k N then(match lkH h k with
  |some (π',_)=>bif aen π' π then wkP N π ((k,π',o)::h) r else none
  |none=>none)else none
def apk:List (Nat×Path×SV)->List (Nat×SV)
 | []=> []
 |(x,[],s)::r=>(x,s)::del (apk r) x
 |(x,_::_,_)::r=>del (apk r) x
def alR:List (Nat×Path×TO)->List (Nat×TO)
 | []=> []
 |(k,[],o)::r=>(k,o)::alR r
 |(k,_::_,_)::r=>(k,.dead)::alR r
def knT (gs:List Nat) (ops:Array Oper) (t:Nat):Bool:=gs.any λj=>match(ops[j]?).bind (·.dst)with
 |some d=>Nat.beq d t
 |none=>false
def knB (σ:List (Nat×Path×SV)) (t:Nat):Option Bool:=
 match lkP σ t with
 |some ([],s)=>MB s
 |_=>none
def akv (gs:List Nat) (ops:Array Oper) (σ:List (Nat×Path×SV)):Option (Nat×Bool)->Option Bool
 | some (j,want)=>bif Qg j gs then(match(ops[j]?).bind (·.dst)with
  |some d=>match knB σ d with
   |some b=>some (bif want then b else !b)
   |none=>none
  |none=>none)else none
 |none=>none
def amu (gs:List Nat) (ops:Array Oper) (σ:List (Nat×Path×SV)) (π:Path) (c a b:Operand):Option SV:=
 match c with
 | .tmp t=>bif knT gs ops t then(match knB σ t with
  |some cb=>bif cb then alP σ π a else alP σ π b
  |none=>none)else amt σ π c a b
 |_=>amt σ π c a b
section
variable {β:Type} (C:Cx) (rid:Nat) (ops:Array Oper) (base:Nat) (gs:List Nat)
def anq :List Oper->Nat->RS->List (List Nat×List Nat)->(RS->List (List Nat×List Nat)->Option β)->Option β
 | [],_,rs,fp,k=>k rs fp
 | o :: r,i,rs,fp,k=>
  bif aav C.nt o.dst then
   let main:Path->Option Bool->Option β:=λπ g=>
    let next:SV->List (Nat×TO)->List (Nat×TO)->List Nat->Option β:=λs wk ws ks=>
     let cont:SV->Option β:=λs=>
      match wkP (base+64*ops.size) π rs.h wk with
      |none=>none
      |some h1=>
      match wsP (base+64*ops.size) π h1 ws with
      |none=>none
      | some h'=>bif alQ o.dst rs.σ h' π&&nodupB (wk.map (·.1))then
        anq r (i+1) ⟨ajf rs.σ o.dst π s,h'⟩ (fp++ [(bif JG o.op then aaB rs.σ (o.looksAt ops)else ks,(wk++ws).map (·.1))]) k
       else none
     bif Qg i gs then(match MB s with
      |some b=>bif b then cont (mkv (.bool true))else cont (mkv (.bool false))
      |none=>none)else cont s
    match o.op with
    | .pick c a b=>match amu gs ops rs.σ π c a b with
     |some s=>next s [] [] []
     |none=>none
    |op=>tOp C (rid,i) g (base+64*i) (akt rs.σ π (o.looksAt ops)) (aje π rs.h) op next
   match akv gs ops rs.σ o.guard with
   | some gb=>bif gb then main [] none else
     (bif alQ o.dst rs.σ rs.h []then anq r (i+1) ⟨ajf rs.σ o.dst [] (mkv undef),rs.h⟩ (fp++ [([],[])]) k else none)
   |none=>match aok ops rs.σ o.guard with
    |none=>none
    |some (π,g)=>main π g
  else none
end
def aaC {β:Type} (C:Cx) (gs:List Nat) (id:Nat) (ops:Array Oper) (any:Bool) (ts:TS) (k:TS->Option β):Option β:=
 anq C id ops ts.n gs ops.toList 0 ⟨ts.σ.map (λp=>(p.1,[],p.2)),ts.h.map (λp=>(p.1,[],p.2))⟩ [] λrs fp=>
  bif !any||(C.P.follows .mixedOrders&&aci ops fp)then k ⟨apk rs.σ,alR rs.h,ts.n+64*ops.size⟩else none
def onE (σ:List (Nat×Path×SV)) (e:Nat×Bool):Bool:=
 match lkP σ e.1 with
 |some (_,s)=>match MB s with
  |some b=>b==e.2
  |none=>false
 |none=>false
def on (σ:List (Nat×Path×SV)) (π:Path):Bool:=π.all (onE σ)
theorem JJ [Fuel] {s:SV} {b:Bool} (h:MB s=some b):s=mkv (.bool b):=by
 unfold MB at h
 split at h
 ·cases h;rfl
 ·cases h
theorem amv [Fuel] {a b:Nat×Bool} (h:eqE a b=true):a=b:=by
 obtain⟨a,x⟩:=a;obtain⟨b,y⟩:=b
 simp only [eqE,Bool.and_eq_true,beq_iff_eq]at h
 have:=Nat.eq_of_beq_eq_true h.1;subst this;rw [h.2]
theorem abG [Fuel] {σ:List (Nat×Path×SV)} {π' π:Path} (h:aen π' π=true) (ho:on σ π=true):on σ π'=true:=by
 unfold on at ho⊢
 rw [List.all_eq_true]at ho⊢
 intro e he
 have:=(List.all_eq_true.1 h) e he
 obtain⟨e',he',h2⟩:=List.any_eq_true.1 this
 rw [amv h2];exact ho e' he'
theorem af2 [Fuel] {σ:List (Nat×Path×SV)} {d:Option Nat} {π:Path} {s:SV} {x:Nat}:lkP (ajf σ d π s) x=if d=some x then some (π,s)else lkP σ x:=by
 cases d with
 |none=>simp [ajf]
 | some d=>
  simp only [ajf,lkP]
  cases hb:Nat.beq d x with
  |true=>have:=Nat.eq_of_beq_eq_true hb;subst this;simp
  |false=>
   have:d≠x:=λe=>by subst e;rw [Nat.beq_refl]at hb;cases hb
   simp [this]
theorem apY [Fuel] {σ:List (Nat×Path×SV)} {d:Option Nat} {π π':Path} {s:SV} (h:∀x,d=some x->noD x π'=true):on (ajf σ d π s) π'=on σ π':=by
 unfold on
 rw [Bool.eq_iff_iff,List.all_eq_true,List.all_eq_true]
 have:∀e∈π',onE (ajf σ d π s) e=onE σ e:=by
  intro e he
  unfold onE
  rw [af2,if_neg]
  intro hd
  have:=(List.all_eq_true.1 (h e.1 hd)) e he
  simp at this
 exact⟨λhh e he=>by rw [<-this e he];exact hh e he,λhh e he=>by rw [this e he];exact hh e he⟩
structure Rep (N:Nat) (rs:RS) (σA:List (Nat×SV)) (hA:List bF):Prop where
 slot:∀x π s,lkP rs.σ x=some (π,s)->look σA x=some (bif on rs.σ π then s else mkv undef)
 back:∀x s,look σA x=some s→∃π s',lkP rs.σ x=some (π,s')
 len:hA.length=N
 heap:∀k,k<N->hA[k]? =some (match lkH rs.h k with|some (π,o)=>(bif on rs.σ π then o.er else .dead)|none=> .dead)
 far:∀k,N<=k→∀π o,lkH rs.h k=some (π,o)->o= .dead
theorem U3 [Fuel] {h:List (Nat×Path×TO)} {k x:Nat} {q:Path×TO}:lkH ((k,q)::h) x=if k=x then some q else lkH h x:=by
 simp only [lkH]
 cases hb:Nat.beq k x with
 |true=>have:=Nat.eq_of_beq_eq_true hb;subst this;simp
 |false=>
  have:k≠x:=λe=>by subst e;rw [Nat.beq_refl]at hb;cases hb
  simp [this]
theorem Zg [Fuel] {π:Path}:∀{h:List (Nat×Path×TO)} {k:Nat},lookO (aje π h) k=match lkH h k with|some (π',o)=>(bif aen π' π then o else .dead)|none=> .dead
 | [],k=>rfl
 |(j,π',o)::r,k=>by
  simp only [aje,lookO,lkH]
  cases hb:Nat.beq j k with
  |true=>rfl
  |false=>exact Zg
theorem akw [Fuel] {N:Nat} {π:Path}:∀{ws:List (Nat×TO)} {rs:RS} {σA:List (Nat×SV)} {hA:List bF} {h':List (Nat×Path×TO)},Rep N rs σA hA->wsP N π rs.h ws=some h'→
  Rep N ⟨rs.σ,h'⟩ σA (bif on rs.σ π then bD hA (erW ws)else hA)
 | [],rs,σA,hA,h',R,e=>by
  simp only [wsP,Option.some.injEq]at e
  subst e
  cases on rs.σ π<;>exact R
 | (k, o)::ws,rs,σA,hA,h',R,e=>by
  simp only [wsP]at e
  cases hkN:Nat.blt k N with
  |false=>rw [hkN]at e;cases e
  | true=>
   rw [hkN]at e
   simp only [cond_true]at e
   have hkN:k<N:=by simp only [Nat.blt]at hkN;exact Nat.le_of_ble_eq_true hkN
   -- one write
   have one:∀π1,on rs.σ π1=on rs.σ π->(on rs.σ π=false→∀π' o',lkH rs.h k=some (π',o')->on rs.σ π'=false)->Rep N ⟨rs.σ,(k,π1,o)::rs.h⟩ σA (bif on rs.σ π then hA.set k o.er else hA):=by
    intro π1 h1 h2
    refine⟨R.slot,R.back,?_,λj hj=> ?_,λj hj π' o' hl=> ?_⟩
    ·cases on rs.σ π<;>simp [R.len]
    ·simp only [U3]
     by_cases hkj:k=j
     ·subst hkj
      simp only [if_true,h1]
      cases ho:on rs.σ π with
      |true=>simp only [cond_true];rw [List.getElem?_set_self (by rw [R.len];exact hkN)]
      |false=>
       simp only [cond_false]
       rw [R.heap k hkN]
       cases hl:lkH rs.h k with
       |none=>rfl
       |some q=>obtain⟨π',o'⟩:=q;simp only [h2 ho π' o' hl,cond_false]
     ·simp only [if_neg hkj]
      have:=R.heap j hj
      cases ho:on rs.σ π with
      |true=>simp only [cond_true];rw [List.getElem?_set_ne hkj];exact this
      |false=>exact this
    ·simp only [U3]at hl
     rw [if_neg (by omega)]at hl
     exact R.far j hj π' o' hl
   split at e
   ·rename_i π' o' hl
    cases hb:aen π π'&&aen π' π with
    |false=>rw [hb]at e;cases e
    | true=>
     rw [hb]at e
     simp only [Bool.and_eq_true]at hb
     have heq:on rs.σ π'=on rs.σ π:=by
      cases h1:on rs.σ π with
      |true=>exact abG hb.2 h1
      |false=>
       cases h2:on rs.σ π' with
       |false=>rfl
       |true=>rw [abG hb.1 h2]at h1;cases h1
     have R1:=one π' heq (λh0 π2 o2 hl2=>by rw [hl]at hl2;cases hl2;rw [heq];exact h0)
     have:=akw (ws:=ws) R1 e
     cases ho:on rs.σ π with
     |true=>rw [ho]at this;simp only [cond_true]at this⊢;exact this
     |false=>rw [ho]at this;simpa using this
   ·rename_i hl
    have R1:=one π rfl (λ_ π2 o2 hl2=>by rw [hl]at hl2;cases hl2)
    have:=akw (ws:=ws) R1 e
    cases ho:on rs.σ π with
    |true=>rw [ho]at this;simp only [cond_true]at this⊢;exact this
    |false=>rw [ho]at this;simpa using this
theorem anr [Fuel] {N:Nat} {π:Path} {h0:List (Nat×TO)}:∀{ws:List (Nat×TO)} {rs:RS} {σA:List (Nat×SV)} {hA:List bF} {h':List (Nat×Path×TO)},Rep N rs σA hA->wkP N π rs.h ws=some h'->nodupB (ws.map (·.1))=true→
  (on rs.σ π=false→∀p∈ws,∀π' o,lkH rs.h p.1=some (π',o)->aen π' π=true->o=p.2)→
  Rep N ⟨rs.σ,h'⟩ σA (bif on rs.σ π then bD hA (erW ws)else hA)
 | [],rs,σA,hA,h',R,e,_,_=>by
  simp only [wkP,Option.some.injEq]at e
  subst e
  cases on rs.σ π<;>exact R
 | (k, o)::ws,rs,σA,hA,h',R,e,hnd,hkeep=>by
  simp only [wkP]at e
  cases hkN:Nat.blt k N with
  |false=>rw [hkN]at e;cases e
  | true =>
   rw [hkN]at e
   simp only [cond_true]at e
   have hkN:k<N:=by simp only [Nat.blt]at hkN;exact Nat.le_of_ble_eq_true hkN
   split at e
   ·rename_i π' o' hl
    cases hb:aen π' π with
    |false=>rw [hb]at e;cases e
    | true=>
     rw [hb]at e
     simp only [cond_true]at e
     simp only [List.map_cons,nodupB,Bool.and_eq_true,Bool.not_eq_true']at hnd
     have R1:Rep N ⟨rs.σ,(k,π',o)::rs.h⟩ σA (bif on rs.σ π then hA.set k o.er else hA):=by
      refine⟨R.slot,R.back,?_,λj hj=> ?_,λj hj π2 o2 hl2=> ?_⟩
      ·cases on rs.σ π<;>simp [R.len]
      ·simp only [U3]
       by_cases hkj:k=j
       ·subst hkj
        simp only [if_true]
        cases ho:on rs.σ π with
        |true=>simp only [cond_true,abG hb ho];rw [List.getElem?_set_self (by rw [R.len];exact hkN)]
        |false=>
         simp only [cond_false]
         rw [R.heap k hkN,hl]
         have:=hkeep ho (k,o) (List.mem_cons_self ..) π' o' hl hb
         simp only at this
         subst this
         rfl
       ·simp only [if_neg hkj]
        have:=R.heap j hj
        cases ho:on rs.σ π with
        |true=>simp only [cond_true];rw [List.getElem?_set_ne hkj];exact this
        |false=>exact this
      ·simp only [U3]at hl2
       rw [if_neg (by omega)]at hl2
       exact R.far j hj π2 o2 hl2
     have:=anr (h0:=h0) (ws:=ws) R1 e hnd.2 (λho p hp π2 o2 hl2 hs=>by
      have hne:k≠p.1:=λhe=>by
       have:Qg k (ws.map (·.1))=true:=mD.2 (by rw [he];exact List.mem_map.2 ⟨p,hp,rfl⟩)
       rw [this]at hnd;cases hnd.1
      simp only [U3,if_neg hne]at hl2
      exact hkeep ho p (List.mem_cons_of_mem _ hp) π2 o2 hl2 hs)
     cases ho:on rs.σ π with
     |true=>rw [ho]at this;simp only [cond_true]at this⊢;exact this
     |false=>rw [ho]at this;simpa using this
   ·cases e
theorem akx [Fuel] {d:Option Nat} {σ:List (Nat×Path×SV)} {h:List (Nat×Path×TO)} {π:Path} (e:alQ d σ h π=true):∀x,d=some x->noD x π=true/\(∀y π' s,lkP σ y=some (π',s)->noD x π'=true)/\(∀y π' o,lkH h y=some (π',o)->noD x π'=true):=by
 rintro x rfl
 simp only [alQ,Bool.and_eq_true]at e
 refine⟨e.1.1,λy π' s hl=> ?_,λy π' o hl=> ?_⟩
 ·have hs:=e.1.2
  clear e
  induction σ with
  |nil=>cases hl
  |cons a r ih=>
   simp only [List.all_cons,Bool.and_eq_true]at hs
   obtain⟨i,q⟩:=a
   simp only [lkP]at hl
   cases hb:Nat.beq i y with
   |true=>rw [hb]at hl;cases hl;exact hs.1
   |false=>rw [hb]at hl;exact ih hl hs.2
 ·have hs:=e.2
  clear e
  induction h with
  |nil=>cases hl
  |cons a r ih=>
   simp only [List.all_cons,Bool.and_eq_true]at hs
   obtain⟨i,q⟩:=a
   simp only [lkH]at hl
   cases hb:Nat.beq i y with
   |true=>rw [hb]at hl;cases hl;exact hs.1
   |false=>rw [hb]at hl;exact ih hl hs.2
theorem aky [Fuel] {N:Nat} {rs:RS} {σA:List (Nat×SV)} {hA:List bF} {d:Option Nat} {π:Path} {s:SV} (R:Rep N rs σA hA) (hd:alQ d rs.σ rs.h π=true):
  Rep N ⟨ajf rs.σ d π s,rs.h⟩ (Sv σA d (bif on rs.σ π then s else mkv undef)) hA:=by
 have H:=akx hd
 have hon:∀π',(∀x,d=some x->noD x π'=true)->on (ajf rs.σ d π s) π'=on rs.σ π':=λπ' h=>apY h
 refine⟨λx π' s' hl=> ?_,λx s' hx=> ?_,R.len,λk hk=> ?_,R.far⟩
 ·simp only [af2]at hl
  rw [uN]
  split at hl
  ·rename_i hdx
   cases hl
   rw [if_pos hdx,hon π (λx h=>(H x h).1)]
  ·rename_i hdx
   rw [if_neg hdx,hon π' (λy h=>(H y h).2.1 x π' s' hl)]
   exact R.slot x π' s' hl
 ·rw [uN]at hx
  simp only [af2]
  split at hx
  ·rename_i hdx;rw [if_pos hdx];exact⟨π,s,rfl⟩
  ·rename_i hdx;rw [if_neg hdx];exact R.back x s' hx
 ·rw [R.heap k hk]
  cases hl:lkH rs.h k with
  |none=>rfl
  |some q=>obtain⟨π',o⟩:=q;simp only [hon π' (λy h=>(H y h).2.2 k π' o hl)]
theorem af3 [Fuel] {σ:List (Nat×SV)} {x:Nat} {s:SV}:∀{L:List Nat},x∈L->look σ x=some s->(x,s)∈cut σ L
 | y::L,hm,hl=>by
  simp only [cut]
  cases hm with
  |head=>rw [hl];exact List.mem_cons_self ..
  |tail _ hm=>
   cases look σ y with
   |none=>exact af3 hm hl
   |some u=>exact List.mem_cons_of_mem _ (af3 hm hl)
theorem Zh [Fuel] {σ:List (Nat×SV)} {x:Nat} {s:SV}:∀{L:List Nat},(x,s)∈cut σ L->x∈L/\look σ x=some s
 | [],h=>by cases h
 | y::L,h=>by
  simp only [cut]at h
  cases hy:look σ y with
  |none=>rw [hy]at h;exact⟨List.mem_cons_of_mem _ (Zh h).1,(Zh h).2⟩
  |some u=>
   rw [hy]at h
   cases h with
   |head=>exact⟨List.mem_cons_self ..,hy⟩
   |tail _ h=>exact⟨List.mem_cons_of_mem _ (Zh h).1,(Zh h).2⟩
theorem NI [Fuel] {σ:List (Nat×Path×SV)} {π:Path} {x:Nat} {s:SV}:∀{L:List Nat},(x,s)∈akt σ π L->x∈L∧∃π',lkP σ x=some (π',s)/\aen π' π=true
 | [],h=>by cases h
 | y::L,h=>by
  simp only [akt]at h
  split at h
  ·rename_i π' u hl
   cases hb:aen π' π with
   |true=>
    rw [hb]at h
    cases h with
    |head=>exact⟨List.mem_cons_self ..,π',hl,hb⟩
    |tail _ h=>exact⟨List.mem_cons_of_mem _ (NI h).1,(NI h).2⟩
   |false=>rw [hb]at h;exact⟨List.mem_cons_of_mem _ (NI h).1,(NI h).2⟩
  ·exact⟨List.mem_cons_of_mem _ (NI h).1,(NI h).2⟩
theorem ahf [Fuel] {x:Nat} {s:SV}:∀{σ:List (Nat×SV)},look σ x=some s->(x,s)∈σ
 |(i,u)::r,h=>by
  simp only [look]at h
  cases hb:Nat.beq i x with
  |true=>rw [hb]at h;cases h;have:=Nat.eq_of_beq_eq_true hb;subst this;exact List.mem_cons_self ..
  |false=>rw [hb]at h;exact List.mem_cons_of_mem _ (ahf h)
theorem Zi [Fuel] {σ:List (Nat×Path×SV)} {x k:Nat} {π:Path} {s:SV}:∀{L:List Nat},x∈L->lkP σ x=some (π,s)->k∈s.refs->k∈aaB σ L
 | y::L,hm,hl,hk=>by
  simp only [aaB]
  cases hm with
  |head=>rw [hl];exact List.mem_append_left _ hk
  |tail _ hm=>
   split
   ·exact List.mem_append_right _ (Zi hm hl hk)
   ·exact Zi hm hl hk
section
variable {N:Nat} {rs:RS} {σA:List (Nat×SV)} {hA:List bF}
theorem Rep.sub [Fuel] (R:Rep N rs σA hA) {π:Path} (ho:on rs.σ π=true) {L:List Nat}:(∀p∈akt rs.σ π L,p∈cut σA L)∧∀x s,look (akt rs.σ π L) x=some s->look (cut σA L) x=some s:=by
 have key:∀x s,(x,s)∈akt rs.σ π L->x∈L/\look σA x=some s:=by
  intro x s hm
  obtain⟨h1,π',h2,h3⟩:=NI hm
  refine⟨h1,?_⟩
  rw [R.slot x π' s h2,abG h3 ho];rfl
 exact⟨λp hp=>af3 (key p.1 p.2 hp).1 (key p.1 p.2 hp).2,λx s hl=>by
  obtain⟨h1,h2⟩:=key x s (ahf hl)
  rw [uz _ _ _ h1];exact h2⟩
theorem Rep.see [Fuel] (R:Rep N rs σA hA) {π:Path} (ho:on rs.σ π=true):∀k,lookO (aje π rs.h) k≠.dead->mX hA k=(lookO (aje π rs.h) k).er:=by
 intro k hk
 rw [Zg]at hk⊢
 cases hl:lkH rs.h k with
 |none=>rw [hl]at hk;exact absurd rfl hk
 | some q=>
  obtain⟨π',o⟩:=q
  rw [hl]at hk
  simp only at hk⊢
  cases hb:aen π' π with
  |false=>rw [hb]at hk;exact absurd rfl hk
  | true=>
   rw [hb]at hk
   simp only [cond_true]at hk⊢
   have hkN:k<N:=by
    rcases Nat.lt_or_ge k N with h|h
    ·exact h
    ·exact absurd (R.far k h π' o hl) hk
   unfold mX
   rw [R.heap k hkN,hl]
   simp only [abG hb ho,cond_true,Option.getD_some]
theorem af4 [Fuel] {σ:List (Nat×Path×SV)}:∀{π:Path} {g:Option Bool},apX σ π=some g->(on σ π=true->g=none\/g=some true)/\(on σ π=false->g=some false)
 | [],g,e=>by cases e;exact⟨λ_=> .inl rfl,λh=>by cases h⟩
 | (d,w)::r,g,e=>by
  simp only [apX]at e
  split at e
  ·rename_i π' s hl
   split at e
   ·rename_i b hb
    have hon:on σ ((d,w)::r)=((b==w)&&on σ r):=by
     show(onE σ (d,w)&&on σ r)=_
     unfold onE;rw [hl];simp only [hb]
    rw [hon]
    split at e
    ·rename_i hr
     cases e
     have:=af4 hr
     cases ho:on σ r with
     |false=>have:=this.2 ho;cases this
     |true=>cases b<;>cases w<;>simp
    ·rename_i g' hr
     cases e
     have:=af4 hr
     cases ho:on σ r with
     |false=>have:=this.2 ho;cases this;simp
     |true=>
      rcases this.1 ho with h|h
      ·cases h
      ·cases h;cases b<;>cases w<;>simp
    ·cases e
   ·cases e
  ·cases e
theorem amw [Fuel] (R:Rep N rs σA hA) {ops:Array Oper} {o:Oper} {π:Path} {g:Option Bool} (e:aok ops rs.σ o.guard=some (π,g)):
  ajU ops (cut σA (o.looksAt ops)) o.guard=some (on rs.σ π)/\(on rs.σ π=true->g=none\/g=some true)/\(on rs.σ π=false->g=some false):=by
 cases hg:o.guard with
 |none=>rw [hg]at e;cases e;exact⟨rfl,λ_=> .inl rfl,λh=>by cases h⟩
 | some q=>
  obtain⟨j,want⟩:=q
  rw [hg]at e
  simp only [aok]at e
  split at e
  ·rename_i d hd
   split at e
   ·rename_i π' s hl
    split at e
    ·rename_i g' hga
     cases e
     refine⟨?_,af4 hga⟩
     obtain⟨b,hb⟩:∃b,MB s=some b:=by
      simp only [apX,hl]at hga
      cases hq:MB s with
      |none=>rw [hq]at hga;cases hga
      |some b=>exact⟨b,rfl⟩
     have hs:=JJ hb
     subst hs
     have hL:d∈o.looksAt ops:=by unfold Oper.looksAt;rw [hg];simp [hd]
     have hlk:=R.slot d π' _ hl
     have hon:on rs.σ ((d,want)::π')=((b==want)&&on rs.σ π'):=by
      show(onE rs.σ (d,want)&&on rs.σ π')=_
      unfold onE;rw [hl];rfl
     simp only [ajU,hd]
     rw [uz _ _ _ hL,hlk,hon]
     cases hp:on rs.σ π' with
     |true=>simp [mkv]
     |false=>simp [mkv,undef]
    ·cases e
   ·cases e
  ·cases e
theorem Zj [Fuel] (R:Rep N rs σA hA) {π:Path} {x:Operand} {s:SV} (e:alP rs.σ π x=some s) {L:List Nat} (hL:∀t,x= .tmp t->t∈L) (ho:on rs.σ π=true):opd (cut σA L) x=some s:=by
 cases x with
 | tmp t=>
  simp only [alP]at e
  split at e
  ·rename_i π' s' hl
   cases hb:aen π' π with
   |false=>rw [hb]at e;cases e
   |true=>
    rw [hb]at e;cases e
    simp only [opd]
    rw [uz _ _ _ (hL t rfl),R.slot t π' s hl,abG hb ho];rfl
  ·cases e
 |const v=>exact e
 |_=>cases e
theorem ant [Fuel] (R:Rep N rs σA hA) {t:Nat} {b:Bool} (e:knB rs.σ t=some b):look σA t=some (mkv (.bool b)):=by
 unfold knB at e
 split at e
 ·rename_i s hl
  have:=R.slot t [] s hl
  rw [this,JJ e];rfl
 ·cases e
theorem akz [Fuel] (R:Rep N rs σA hA) {gs:List Nat} {ops:Array Oper} {o:Oper} {b:Bool} (e:akv gs ops rs.σ o.guard=some b):ajU ops (cut σA (o.looksAt ops)) o.guard=some b:=by
 cases hg:o.guard with
 |none=>rw [hg]at e;cases e
 | some q=>
  obtain⟨j,want⟩:=q
  rw [hg]at e
  simp only [akv]at e
  cases hm:Qg j gs with
  |false=>rw [hm]at e;cases e
  | true=>
   rw [hm]at e
   simp only [cond_true]at e
   split at e
   ·rename_i d hd
    split at e
    ·rename_i b' hb
     cases e
     have hL:d∈o.looksAt ops:=by unfold Oper.looksAt;rw [hg];simp [hd]
     simp only [ajU,hd]
     rw [uz _ _ _ hL,ant R hb]
     simp only [mkv]
     cases b'<;>cases want<;>rfl
    ·cases e
   ·cases e
theorem akA [Fuel] (R:Rep N rs σA hA) {P:Program} {id:Nat} {ops:Array Oper} {o:Oper} {c a b:Operand} (hop:o.op= .pick c a b) {π:Path} {s:SV} (e:amt rs.σ π c a b=some s) (ho:on rs.σ π=true):
  Does P id (cut σA (o.looksAt ops)) hA (.pick c a b) s [] []:=by
 have hL:∀x,(x=c\/x=a\/x=b)→∀t,x= .tmp t->t∈o.looksAt ops:=by
  intro x hx t ht
  unfold Oper.looksAt
  rw [hop]
  apply List.mem_append_left
  rw [List.mem_filterMap]
  refine⟨x,?_,by rw [ht]⟩
  simp [Op.operands];exact hx
 unfold amt at e
 split at e
 ·rename_i t
  split at e
  ·rename_i cv av bv h1 h2 h3
   split at e
   ·rename_i cb hcb
    have:=JJ hcb;subst this
    have hc:=Zj R h1 (hL _ (.inl rfl)) ho
    have asL:∀w,cb=w->on rs.σ ((t,w)::π)=true:=by
     intro w hw
     show(onE rs.σ (t,w)&&on rs.σ π)=true
     rw [ho,Bool.and_true]
     simp only [alP]at h1
     split at h1
     ·rename_i π' s' hl
      cases hb:aen π' π with
      |false=>rw [hb]at h1;cases h1
      |true=>
       rw [hb]at h1;cases h1
       unfold onE;rw [hl];simp [MB,mkv,hw]
     ·cases h1
    have hm:∀w v,aku cb av bv=some s->cb=w->v=(bif w then av else bv)->v=s:=by
     intro w v hm hw hv
     subst hw
     unfold aku at hm
     split at hm
     ·cases hm;subst hv;cases cb<;>rfl
     ·split at hm
      ·rename_i hk;subst hk;cases hm;subst hv;cases cb<;>rfl
      ·cases hm
     ·cases hm
    cases cb with
    |true=>
     have ha:=Zj R h2 (hL _ (.inr (.inl rfl))) (asL true rfl)
     have:=hm true av e rfl rfl
     subst this
     refine⟨none,{r:=av,ws:= [],cs:= []},?_,λq hq=>absurd hq List.not_mem_nil,rfl,rfl,rfl,rfl⟩
     simp only [oG,evalOp,hc,mkv,ha,bsP,List.map_nil]
    |false=>
     have ha:=Zj R h3 (hL _ (.inr (.inr rfl))) (asL false rfl)
     have:=hm false bv e rfl rfl
     subst this
     refine⟨none,{r:=bv,ws:= [],cs:= []},?_,λq hq=>absurd hq List.not_mem_nil,rfl,rfl,rfl,rfl⟩
     simp only [oG,evalOp,hc,mkv,ha,bsP,List.map_nil]
   ·cases e
  ·cases e
 ·cases e
theorem amx [Fuel] (R:Rep N rs σA hA) {P:Program} {id:Nat} {gs:List Nat} {ops:Array Oper} {o:Oper} {c a b:Operand} (hop:o.op= .pick c a b) {π:Path} {s:SV} (e:amu gs ops rs.σ π c a b=some s) (ho:on rs.σ π=true):
  Does P id (cut σA (o.looksAt ops)) hA (.pick c a b) s [] []:=by
 unfold amu at e
 split at e
 ·rename_i t
  cases hk:knT gs ops t with
  |false=>rw [hk]at e;exact akA R hop e ho
  | true=>
   rw [hk]at e
   simp only [cond_true]at e
   have hL:∀x,(x=Operand.tmp t\/x=a\/x=b)→∀t,x= .tmp t->t∈o.looksAt ops:=by
    intro x hx t ht
    unfold Oper.looksAt
    rw [hop]
    apply List.mem_append_left
    rw [List.mem_filterMap]
    refine⟨x,?_,by rw [ht]⟩
    simp [Op.operands];exact hx
   split at e
   ·rename_i cb hb
    have hc:opd (cut σA (o.looksAt ops)) (.tmp t)=some (mkv (.bool cb)):=by
     simp only [opd]
     rw [uz _ _ _ (hL _ (.inl rfl) t rfl),ant R hb]
    cases cb with
    |true=>
     have ha:=Zj R (show alP rs.σ π a=some s from e) (hL _ (.inr (.inl rfl))) ho
     refine⟨none,{r:=s,ws:= [],cs:= []},?_,λq hq=>absurd hq List.not_mem_nil,rfl,rfl,rfl,rfl⟩
     simp only [oG,evalOp,hc,mkv,ha,bsP,List.map_nil]
    |false=>
     have ha:=Zj R (show alP rs.σ π b=some s from e) (hL _ (.inr (.inr rfl))) ho
     refine⟨none,{r:=s,ws:= [],cs:= []},?_,λq hq=>absurd hq List.not_mem_nil,rfl,rfl,rfl,rfl⟩
     simp only [oG,evalOp,hc,mkv,ha,bsP,List.map_nil]
   ·cases e
 ·exact akA R hop e ho
end
end Go.AM
namespace Go.AM
open Go Go.RowKit Go.CP
theorem aeo [Fuel] {P:Program} {nt:Nat} {ops:Array Oper} {orc anu:List (Nat×Orc)} {base i:Nat} {o:Oper} {σ:List (Nat×SV)} {h:List bF} (e:EM orc i=EM anu i):G6 P nt ops orc base i o σ h=G6 P nt ops anu base i o σ h:=by
  unfold G6;simp only [e]
theorem ahg [Fuel] {P:Program} {nt:Nat} {ops:Array Oper} {orc anu:List (Nat×Orc)} {base:Nat}:∀{l:List Oper} {i:Nat} {σ:List (Nat×SV)} {h:List bF},(∀j,i<=j->EM orc j=EM anu j)->Wp P nt ops orc base l i σ h=Wp P nt ops anu base l i σ h
  | [],i,σ,h,e=>rfl
  | o::l,i,σ,h,e=>by
    simp only [Wp,aeo (e i (Nat.le_refl _))]
    split
    · rw [ahg (l:=l) (λj hj=>e j (by omega))]
    · rfl
theorem ahh [Fuel] {P:Program} {nt:Nat} {ops:Array Oper} {orc anu:List (Nat×Orc)} {base:Nat}:∀{l:List Oper} {i:Nat} {σ:List (Nat×SV)} {h:List bF},(∀j,i<=j->EM orc j=EM anu j)->aff P nt ops orc base l i σ h=aff P nt ops anu base l i σ h
  | [],i,σ,h,e=>rfl
  | o::l,i,σ,h,e=>by
    simp only [aff,aeo (e i (Nat.le_refl _))]
    split
    · rw [ahh (l:=l) (λj hj=>e j (by omega))]
    · rfl
def apZ (a b:List Nat×List Nat):Prop:=(∀k∈a.1,k∈b.1)∧∀k∈a.2,k∈b.2
theorem Wx [Fuel] {a a' b b':List Nat} (ha:∀k∈a,k∈a') (hb:∀k∈b,k∈b') (h:meets a' b'=false):meets a b=false:=by
  cases hm:meets a b with
  |false=>rfl
  | true=>
    obtain⟨k,h1,h2⟩:=List.any_eq_true.1 hm
    have:meets a' b'=true:=List.any_eq_true.2 ⟨k,ha k h1,mD.2 (hb k (mD.1 h2))⟩
    rw [this]at h;cases h
theorem acz [Fuel]:∀{as' bs:List (List Nat×List Nat)},K7 apZ as' bs→∀i,apZ (as'.getD i ([],[])) (bs.getD i ([],[]))
  |_,_,.nil,i=>⟨λ_ h=>h,λ_ h=>h⟩
  |_,_,.cons h t,0=>h
  |_,_,.cons h t,i+1=>acz t i
theorem aix [Fuel] {ops:Array Oper} {as' bs:List (List Nat×List Nat)} (hs:K7 apZ as' bs) (h:aci ops bs=true):aci ops as'=true:=by
  unfold aci at h⊢
  simp only [Bool.and_eq_true]at h⊢
  refine⟨h.1,?_⟩
  refine List.all_eq_true.2 (λj hj=>List.all_eq_true.2 (λi hi=> ?_))
  have hi:=List.all_eq_true.1 (List.all_eq_true.1 h.2 j hj) i hi
  simp only [Bool.or_eq_true]at hi⊢
  rcases hi with hi|hi
  · exact .inl hi
  · right
    have hsi:=acz hs i
    have hsj:=acz hs j
    unfold aqY at hi⊢
    simp only [Bool.and_eq_true,Bool.not_eq_true']at hi⊢
    obtain⟨⟨⟨⟨⟨h1,h2⟩,h3⟩,h4⟩,h5⟩,h6⟩:=hi
    exact⟨⟨⟨⟨⟨h1,h2⟩,h3⟩,Wx hsj.2 hsi.1 h4⟩,Wx hsi.2 hsj.1 h5⟩,Wx hsi.2 hsj.2 h6⟩
def acA (i:Nat):Option Orc->List (Nat×Orc)->List (Nat×Orc)
  |some x,l=>(i,x)::l
  |none,l=>l
theorem aiy [Fuel]:(mkv undef).refs= []:=rfl
section
variable {β:Type} {C:Cx} {rid:Nat} {ops:Array Oper} {base:Nat} {gs:List Nat}
theorem acB [Fuel] (hT:∀S∈C.T,bL C.P S):∀(l:List Oper) (i:Nat) {rs:RS} {fp:List (List Nat×List Nat)} {k:RS->List (List Nat×List Nat)->Option β} {res:β} {σA:List (Nat×SV)} {hA:List bF},
    Rep (base+64*ops.size) rs σA hA->anq C rid ops base gs l i rs fp k=some res→
    ∃ orc σ' h' cs rs' fp',Wp C.P C.nt ops orc base l i σA hA=some (σ',h',cs)/\(∀q∈cs,q)/\Rep (base+64*ops.size) rs' σ' h'/\k rs' (fp++fp')=some res∧
      K7 apZ (aff C.P C.nt ops orc base l i σA hA) fp'∧∀j,j<i->EM orc j=none
  | [],i,rs,fp,k,res,σA,hA,R,e=>⟨[],σA,hA,[],rs,[],rfl,λq hq=>absurd hq List.not_mem_nil,R,by rw [List.append_nil];exact e,.nil,λ_ _=>rfl⟩
  | o :: l, i,rs,fp,k,res,σA,hA,R,e=>by
    simp only [anq]at e
    cases hd:aav C.nt o.dst with
    |false=>rw [hd]at e;cases e
    | true=>
      rw [hd]at e
      simp only [cond_true]at e
      have step : ∀ (π:Path) (g:Option Bool),ajU ops (cut σA (o.looksAt ops)) o.guard=some (on rs.σ π)->(on rs.σ π=true->g=none\/g=some true)->(on rs.σ π=false->g=some false)→
          (let next:SV->List (Nat×TO)->List (Nat×TO)->List Nat->Option β:=λs wk ws ks=>
            let cont:SV->Option β:=λs=>
              match wkP (base+64*ops.size) π rs.h wk with
              |none=>none
              |some h1=>
              match wsP (base+64*ops.size) π h1 ws with
              |none=>none
              | some h'=>bif alQ o.dst rs.σ h' π&&nodupB (wk.map (·.1))then
                  anq C rid ops base gs l (i+1) ⟨ajf rs.σ o.dst π s,h'⟩ (fp++ [(bif JG o.op then aaB rs.σ (o.looksAt ops)else ks,(wk++ws).map (·.1))]) k
                else none
            bif Qg i gs then(match MB s with
              |some b=>bif b then cont (mkv (.bool true))else cont (mkv (.bool false))
              |none=>none)else cont s
          match o.op with
          | .pick c a b=>match amu gs ops rs.σ π c a b with
            |some s=>next s [] [] []
            |none=>none
          |op=>tOp C (rid,i) g (base+64*i) (akt rs.σ π (o.looksAt ops)) (aje π rs.h) op next)=some res→
          ∃ orc σ' h' cs rs' fp',Wp C.P C.nt ops orc base (o::l) i σA hA=some (σ',h',cs)/\(∀q∈cs,q)/\Rep (base+64*ops.size) rs' σ' h'/\k rs' (fp++fp')=some res∧
            K7 apZ (aff C.P C.nt ops orc base (o::l) i σA hA) fp'∧∀j,j<i->EM orc j=none:=by
        intro π g hgv hgt hgf e
        simp only at e
        let aol :Path->List (Nat×TO)->List (Nat×TO)->List Nat->SV->Option β:=λπ wk ws ks s=>
          match wkP (base+64*ops.size) π rs.h wk with
          |none=>none
          | some h1=>match wsP (base+64*ops.size) π h1 ws with
            |none=>none
            | some h'=>bif alQ o.dst rs.σ h' π&&nodupB (wk.map (·.1))then
                anq C rid ops base gs l (i+1) ⟨ajf rs.σ o.dst π s,h'⟩ (fp++ [(bif JG o.op then aaB rs.σ (o.looksAt ops)else ks,(wk++ws).map (·.1))]) k
              else none
        -- what the operation does,and what follows
        have ap0:∃s wk ws ks,(bif Qg i gs then(match MB s with
              |some b=>bif b then aol π wk ws ks (mkv (.bool true))else aol π wk ws ks (mkv (.bool false))
              |none=>none)else aol π wk ws ks s)=some res/\(on rs.σ π=false→∀p∈wk,lookO (aje π rs.h) p.1=p.2)/\(on rs.σ π=true->Does C.P (base+64*i) (cut σA (o.looksAt ops)) hA o.op s (wk++ws) ks):=by
          split at e
          · rename_i c a b hop
            split at e
            · rename_i s hs
              exact⟨s,[],[],[],e,λ_ p hp=>(absurd hp List.not_mem_nil),λho=>by rw [hop];exact amx R hop hs ho⟩
            · cases e
          · cases ho:on rs.σ π with
            | true=>
              obtain⟨h1,h2⟩:=R.sub ho (L:=o.looksAt ops)
              obtain⟨s,wk,ws,ks,q1,_,q2⟩:=anp hT h2 h1 (R.see ho) e
              exact⟨s,wk,ws,ks,q1,λh=>(by cases h),λ_=>q2 (hgt ho)⟩
            | false =>
              obtain⟨s,wk,ws,ks,q1,q0,_⟩:=anp (σA:=akt rs.σ π (o.looksAt ops)) (hA:=erH (aje π rs.h) (((aje π rs.h).map (·.1)).foldr Nat.max 0+1)) hT (λ_ _ h=>h) (λ_ h=>h) (by
                intro k hk
                have hlt:k<((aje π rs.h).map (·.1)).foldr Nat.max 0+1:=by
                  have:∀(l:List (Nat×TO)),lookO l k≠.dead->k<=(l.map (·.1)).foldr Nat.max 0:=by
                    intro l
                    induction l with
                    |nil=>intro h;exact absurd rfl h
                    | cons a r ih=>
                      intro h
                      obtain⟨j,o'⟩:=a
                      simp only [lookO]at h
                      simp only [List.map_cons,List.foldr_cons]
                      cases hb:Nat.beq j k with
                      |true=>have:=Nat.eq_of_beq_eq_true hb;subst this;exact Nat.le_max_left _ _
                      |false=>rw [hb]at h;exact Nat.le_trans (ih h) (Nat.le_max_right _ _)
                  have:=this _ hk;omega
                unfold mX
                rw [T9,if_pos hlt];rfl) e
              exact⟨s,wk,ws,ks,q1,λ_=>q0 (hgf ho),λh=>by cases h⟩
        have main:∃s wk ws ks,(match wkP (base+64*ops.size) π rs.h wk with
          |none=>none
          | some h1=>match wsP (base+64*ops.size) π h1 ws with
            |none=>none
            | some h'=>bif alQ o.dst rs.σ h' π&&nodupB (wk.map (·.1))then
                anq C rid ops base gs l (i+1) ⟨ajf rs.σ o.dst π s,h'⟩ (fp++ [(bif JG o.op then aaB rs.σ (o.looksAt ops)else ks,(wk++ws).map (·.1))]) k
              else none)=some res/\(on rs.σ π=false→∀p∈wk,lookO (aje π rs.h) p.1=p.2)/\(on rs.σ π=true->Does C.P (base+64*i) (cut σA (o.looksAt ops)) hA o.op s (wk++ws) ks):=by
          obtain⟨s,wk,ws,ks,q1,q2,q3⟩:=ap0
          cases hm:Qg i gs with
          |false=>rw [hm]at q1;exact⟨s,wk,ws,ks,q1,q2,q3⟩
          | true=>
            rw [hm]at q1
            simp only [cond_true]at q1
            split at q1
            · rename_i b hb
              have hs:=JJ hb
              cases b with
              |true=>exact⟨_,wk,ws,ks,q1,q2,by rw [hs]at q3;exact q3⟩
              |false=>exact⟨_,wk,ws,ks,q1,q2,by rw [hs]at q3;exact q3⟩
            · cases q1
        clear e ap0
        obtain⟨s,wk,ws,ks,e,hkeep,ap1⟩:=main
        split at e
        · cases e
        · rename_i h0 hwk
          split at e
          · cases e
          · rename_i h1 hws
            cases hno:alQ o.dst rs.σ h1 π&&nodupB (wk.map (·.1))with
            |false=>rw [hno]at e;cases e
            |true=>
            rw [hno]at e
            simp only [cond_true]at e
            simp only [Bool.and_eq_true]at hno
            obtain⟨hno,hnd⟩:=hno
            have R0:=anr (h0:= []) R hwk hnd (λho p hp π' o' hl hs=>by
              have:=hkeep ho p hp
              rw [Zg,hl]at this
              simp only [hs,cond_true]at this
              exact this)
            have R1:=akw R0 hws
            replace R1:Rep (base+64*ops.size) ⟨rs.σ,h1⟩ σA (bif on rs.σ π then bD hA (erW (wk++ws))else hA):=by
              cases ho:on rs.σ π with
              |false=>rw [show on (RS.mk rs.σ h0).σ π=false from ho]at R1;exact R1
              | true=>
                rw [show on (RS.mk rs.σ h0).σ π=true from ho]at R1
                simp only [cond_true]at R1⊢
                rw [afW,NC];exact R1
            clear R0 hwk hws
            generalize wk++ws=ws at R1 ap1 e
            cases ho:on rs.σ π with
            | false=>
              have hstep:∀orc,G6 C.P C.nt ops orc base i o σA hA=some {r:=mkv undef,ws:= [],cs:= [],R:= []}:=by
                intro orc;unfold G6;simp only [hd,cond_true,hgv,ho]
              rw [ho]at R1
              have R2:=aky (s:=s) R1 hno
              rw [show on (RS.mk rs.σ h1).σ π=false from ho]at R2
              obtain⟨orc,σ',h',cs,rs',fp',q1,q2,q3,q4,q5,q6⟩:=acB hT l (i+1) R2 e
              have q1:Wp C.P C.nt ops orc base l (i+1) (Sv σA o.dst (mkv undef)) hA=some (σ',h',cs):=q1
              refine⟨orc,σ',h',cs,rs',(bif JG o.op then aaB rs.σ (o.looksAt ops)else ks,ws.map (·.1))::fp',?_,q2,q3,by rw [List.append_assoc]at q4;exact q4,?_,λj hj=>q6 j (by omega)⟩
              · simp only [Wp,hstep]
                show(match Wp C.P C.nt ops orc base l (i+1) (Sv σA o.dst (mkv undef)) hA with|some (σ',h',cs)=>some (σ',h',[]++cs)|none=>none)=_
                rw [q1];rfl
              · simp only [aff,hstep]
                exact .cons ⟨λk hk=>absurd hk List.not_mem_nil,λk hk=>absurd hk List.not_mem_nil⟩ q5
            | true=>
              obtain⟨oi,eff,d1,d2,d3,d4,d5,d6⟩:=ap1 ho
              rw [ho]at R1
              simp only [cond_true]at R1
              have R2:=aky (s:=s) R1 hno
              rw [show on (RS.mk rs.σ h1).σ π=true from ho]at R2
              simp only [cond_true]at R2
              obtain⟨orc,σ',h',cs,rs',fp',q1,q2,q3,q4,q5,q6⟩:=acB hT l (i+1) R2 e
              generalize ho0:acA i oi orc=ap2
              have ho1:EM ap2 i=oi:=by
                subst ho0
                cases oi with
                |none=>exact q6 i (by omega)
                |some x=>simp [acA,EM]
              have ho2:∀j,i+1<=j->EM ap2 j=EM orc j:=by
                intro j hj
                subst ho0
                cases oi with
                |none=>rfl
                | some x=>
                  simp only [acA,EM]
                  cases hb:Nat.beq i j with
                  |true=>have:=Nat.eq_of_beq_eq_true hb;omega
                  |false=>rfl
              have ho3:∀j,j<i->EM ap2 j=none:=by
                intro j hj
                subst ho0
                cases oi with
                |none=>exact q6 j (by omega)
                | some x=>
                  simp only [acA,EM]
                  cases hb:Nat.beq i j with
                  |true=>have:=Nat.eq_of_beq_eq_true hb;omega
                  |false=>exact q6 j (by omega)
              have hstep:G6 C.P C.nt ops ap2 base i o σA hA=some {r:=s,ws:=erW ws,cs:=eff.cs,R:=readsOf (cut σA (o.looksAt ops)) o.op oi}:=by
                unfold G6
                simp only [hd,cond_true,hgv,ho,ho1]
                rw [d1]
                rw [d4]at d6
                simp only [d3,d4,d6,cond_true]
              refine⟨ap2,σ',h',eff.cs++cs,rs',(bif JG o.op then aaB rs.σ (o.looksAt ops)else ks,ws.map (·.1))::fp',?_,λq hq=> ?_,q3,by rw [List.append_assoc]at q4;exact q4,?_,ho3⟩
              · simp only [Wp,hstep]
                rw [ahg ho2,q1]
              · rcases List.mem_append.1 hq with hq|hq
                · exact d2 q hq
                · exact q2 q hq
              · simp only [aff,hstep]
                rw [ahh ho2]
                refine .cons ⟨λk hk=> ?_,λk hk=> ?_⟩ q5
                · simp only at hk⊢
                  unfold readsOf at hk
                  cases hu:JG o.op with
                  |false=>rw [hu]at hk;simp only [cond_false]at hk⊢;rw [<-d5];exact hk
                  | true=>
                    rw [hu]at hk
                    simp only [cond_true]at hk⊢
                    obtain⟨p,hp,hk⟩:=List.mem_flatMap.1 hk
                    obtain⟨h1,h2⟩:=Zh (x:=p.1) (s:=p.2) hp
                    obtain⟨π',s',h3⟩:=R.back p.1 p.2 h2
                    have h4:=R.slot p.1 π' s' h3
                    rw [h2]at h4
                    cases hon:on rs.σ π' with
                    |true=>rw [hon]at h4;cases h4;exact Zi h1 h3 hk
                    |false=>rw [hon]at h4;simp only [cond_false,Option.some.injEq]at h4;rw [h4,aiy]at hk;cases hk
                · simp only [keys,erW,List.map_map]at hk⊢
                  exact hk
      split at e
      · rename_i gb hgb
        have hgv:=akz R hgb
        cases gb with
        |true=>exact step [] none hgv (λ_=> .inl rfl) (λh=>by cases h) e
        | false=>
          simp only [cond_false]at e
          cases hno:alQ o.dst rs.σ rs.h []with
          |false=>rw [hno]at e;cases e
          | true=>
            rw [hno]at e
            simp only [cond_true]at e
            have hstep:∀orc,G6 C.P C.nt ops orc base i o σA hA=some {r:=mkv undef,ws:= [],cs:= [],R:= []}:=by
              intro orc;unfold G6;simp only [hd,cond_true,hgv]
            have R2:=aky (s:=mkv undef) R hno
            simp only [show on rs.σ []=true from rfl,cond_true]at R2
            obtain⟨orc,σ',h',cs,rs',fp',q1,q2,q3,q4,q5,q6⟩:=acB hT l (i+1) R2 e
            refine⟨orc,σ',h',cs,rs',([],[])::fp',?_,q2,q3,by rw [List.append_assoc]at q4;exact q4,?_,λj hj=>q6 j (by omega)⟩
            · simp only [Wp,hstep]
              show(match Wp C.P C.nt ops orc base l (i+1) (Sv σA o.dst (mkv undef)) hA with|some (σ',h',cs)=>some (σ',h',[]++cs)|none=>none)=_
              rw [q1];rfl
            · simp only [aff,hstep]
              exact .cons ⟨λk hk=>absurd hk List.not_mem_nil,λk hk=>absurd hk List.not_mem_nil⟩ q5
      · split at e
        · cases e
        · rename_i π g hg
          obtain⟨hgv,hgt,hgf⟩:=amw R hg
          exact step π g hgv hgt hgf e
end
theorem af5 [Fuel]:∀{σ:List (Nat×SV)} {x:Nat},lkP (σ.map (λp=>(p.1,([]:Path),p.2))) x=(look σ x).map (λs=>([],s))
  | [],x=>rfl
  | (i,s)::r,x=>by
    simp only [List.map_cons,lkP,look]
    cases Nat.beq i x with
    |true=>rfl
    |false=>exact af5
theorem af6 [Fuel]:∀{h:List (Nat×TO)} {k:Nat},lkH (h.map (λp=>(p.1,([]:Path),p.2))) k=none/\lookO h k= .dead\/lkH (h.map (λp=>(p.1,([]:Path),p.2))) k=some ([],lookO h k)
  | [],k=> .inl ⟨rfl,rfl⟩
  | (i,s)::r,k=>by
    simp only [List.map_cons,lkH,lookO]
    cases Nat.beq i k with
    |true=>exact .inr rfl
    |false=>exact af6
theorem amy [Fuel] {ts:TS} (hok:ts.ok) (n:Nat):Rep (ts.n+n) ⟨ts.σ.map (λp=>(p.1,[],p.2)),ts.h.map (λp=>(p.1,[],p.2))⟩ ts.σ (ts.er.h++List.replicate n .dead):=by
  refine⟨λx π s hl=> ?_,λx s hx=> ?_,by simp [TS.er,JI],λk hk=> ?_,λk hk π o hl=> ?_⟩
  · rw [af5]at hl
    cases hx:look ts.σ x with
    |none=>rw [hx]at hl;cases hl
    |some u=>rw [hx]at hl;cases hl;rfl
  · exact⟨[],s,by rw [af5,hx];rfl⟩
  · have e1:(ts.er.h++List.replicate n bF.dead)[k]? =some (lookO ts.h k).er:=by
      rcases Nat.lt_or_ge k ts.n with h1|h1
      · rw [List.getElem?_append_left (by show k<(erH ts.h ts.n).length;rw [JI];exact h1)]
        show(erH ts.h ts.n)[k]? =_
        rw [T9,if_pos h1]
      · rw [List.getElem?_append_right (by show(erH ts.h ts.n).length<=k;rw [JI];exact h1)]
        show(List.replicate n bF.dead)[k - (erH ts.h ts.n).length]? =_
        rw [JI,List.getElem?_replicate,if_pos (by omega),hok k h1];rfl
    rw [e1]
    rcases af6 (h:=ts.h) (k:=k)with⟨h1,h2⟩|h1
    · rw [h1,h2];rfl
    · rw [h1];rfl
  · rcases af6 (h:=ts.h) (k:=k)with⟨h1,h2⟩|h1
    · rw [h1]at hl;cases hl
    · rw [h1]at hl;cases hl;exact hok k (by omega)
theorem acC [Fuel]:∀{σ:List (Nat×Path×SV)} {x:Nat} {s:SV},look (apk σ) x=some s->lkP σ x=some ([],s)
  | [],x,s,h=>by cases h
  | (i,[],u)::r,x,s,h=>by
    simp only [apk,look]at h
    simp only [lkP]
    cases hb:Nat.beq i x with
    |true=>rw [hb]at h;cases h;rfl
    | false=>
      rw [hb,cond_false,RP]at h
      split at h
      · cases h
      · exact acC h
  | (i,_::_,u)::r,x,s,h=>by
    simp only [apk]at h
    rw [RP]at h
    split at h
    · cases h
    · rename_i hne
      simp only [lkP]
      cases hb:Nat.beq i x with
      |true=>exact absurd (Nat.eq_of_beq_eq_true hb) hne
      |false=>exact acC h
theorem U4 [Fuel]:∀{h:List (Nat×Path×TO)} {k:Nat},lookO (alR h) k=match lkH h k with|some ([],o)=>o|_=> .dead
  | [],k=>rfl
  | (i,[],o)::r,k=>by
    simp only [alR,lookO,lkH]
    cases Nat.beq i k with
    |true=>rfl
    |false=>exact U4
  | (i,_::_,o)::r,k=>by
    simp only [alR,lookO,lkH]
    cases Nat.beq i k with
    |true=>rfl
    |false=>exact U4
theorem aom [Fuel] {p:Nat} {st st':St} (hl:st'.h.length=st.h.length) (hh:∀(k:Nat),st'.h[k]? =st.h[k]? \/st'.h[k]? =some .dead) (hσ:∀x s,look st'.σ x=some s->look st.σ x=some s):Le p st st':=by
  intro X w m nt a H hs
  have hlv:∀(k:Nat) (o:bF),st'.h[k]? =some o->o.live->st.h[k]? =some o:=by
    intro k o hk ho
    rcases hh k with h1|h1
    · rw [<-h1];exact hk
    · rw [hk]at h1;cases h1;exact ho.elim
  have RI:∀b,Mut m st'.h b->Mut m st.h b:=λb ⟨k,o,l,h1,h2,h3,h4⟩=>⟨k,o,l,hlv k o h1 h2,h2,h3,h4⟩
  have hL:Later w m (MX X m st.h) w m (MX X m st'.h):=⟨λ_ _ h=>h,λb _ h1 h2=>by
    rcases h2 with h2|h2
    · exact h1 (.inl h2)
    · exact h1 (.inr (RI b h2)),λ_ _ _=>rfl,Nat.le_refl _⟩
  refine⟨m,⟨λk o hk=> ?_,λk k' o o' l l' b h1 h2 h3 h4=>H.inj k k' o o' l l' b (hlv k o h1 h3) (hlv k' o' h2 h4) h3 h4,λk hk=>H.used k (by omega),λb hb=>H.adA b (RI b hb),H.xlt⟩,⟨hs.1,λx s hx=> ?_⟩,RI,λ_ _ _ h=>h⟩
  · cases o with
    |dead=>trivial
    | mp es=>
      obtain⟨l,b,rows,clock,e1,e2,e3,e4⟩:=H.obj k _ (hlv k _ hk trivial)
      exact⟨l,b,rows,clock,e1,e2,e3,e4⟩
    | ms es=>
      obtain⟨l,b,rows,clock,e1,e2,e3,e4⟩:=H.obj k _ (hlv k _ hk trivial)
      exact⟨l,b,rows,clock,e1,e2,e3,e4⟩
    | ra z n cs=>
      obtain⟨l,b,T,vs,e1,e2,e3,e4,e5,e6,e7,e8,e9,e10⟩:=H.obj k _ (hlv k _ hk trivial)
      exact⟨l,b,T,vs,e1,e2,e3,e4,e5,e6,e7,e8,e9,λi x hx=>(e10 i x hx).later hL⟩
    | box cs=>
      obtain⟨l,b,T,vs,e1,e2,e3,e4,e5⟩:=H.obj k _ (hlv k _ hk trivial)
      exact⟨l,b,T,vs,e1,e2,e3,e4.later hL,e5⟩
    | arr z n f=>
      obtain⟨l,e1,e2,e3,e4,e5⟩:=H.obj k _ (hlv k _ hk trivial)
      refine⟨l,e1,e2,e3,e4,λb hb=> ?_⟩
      obtain⟨e6,T,vs,e7,e8,e9,e10⟩:=e5 b hb
      exact⟨e6,T,vs,e7,e8,e9,λi hi=>⟨(e10 i hi).1,λq x hx=>((e10 i hi).2 q x hx).later hL⟩⟩
  · obtain⟨v,hv,Cz⟩:=hs.2 x s (hσ x s hx)
    exact⟨v,hv,Cz.later hL⟩
theorem aj3.of [Fuel]:∀{l:List Prop},(∀q∈l,q)->aj3 l
  | [],_=>trivial
  |p::r,h=>⟨h p (List.mem_cons_self ..),aj3.of λq hq=>h q (List.mem_cons_of_mem _ hq)⟩
theorem acD [Fuel] {β:Type} {C:Cx} (hT:∀S∈C.T,bL C.P S) {p id:Nat} {ops:Array Oper} {any:Bool} {gs:List Nat} {ts:TS} {k:TS->Option β} {res:β} (hok:ts.ok) (e:aaC C gs id ops any ts k=some res):
    wpA C.P C.nt p (.region id ops any) (λex st=>ex= .normal∧∃ts',k ts'=some res/\ts'.ok/\Le p st ts'.er) ts.er:=by
  unfold aaC at e
  have hlen:ts.er.h.length=ts.n:=by simp [TS.er,JI]
  obtain⟨orc,σ',h',cs,rs',fp',q1,q2,q3,q4,q5,_⟩:=acB hT ops.toList 0 (amy hok (64*ops.size)) e
  rw [List.nil_append]at q4
  cases hb: !any||(C.P.follows .mixedOrders&&aci ops fp')with
  |false=>rw [hb]at q4;cases q4
  | true=>
    rw [hb]at q4
    simp only [cond_true]at q4
    have hrun:aqZ C.P C.nt ops orc ts.er=some (σ',h',cs):=by unfold aqZ;rw [hlen];exact q1
    have hQ :(λex st=>ex=Exit.normal∧∃ts',k ts'=some res/\ts'.ok/\Le p st ts'.er) Exit.normal ⟨σ',h'⟩:=by
      refine⟨rfl,_,q4,λk hk=> ?_,aom ?_ (λk=> ?_) (λx s hx=> ?_)⟩
      · show lookO (alR rs'.h) k= .dead
        rw [U4]
        split
        · rename_i o hl;exact q3.far k hk [] o hl
        · rfl
      · show(erH (alR rs'.h) (ts.n+64*ops.size)).length=h'.length
        rw [JI,q3.len]
      · show(erH (alR rs'.h) (ts.n+64*ops.size))[k]? =h'[k]? \/(erH (alR rs'.h) (ts.n+64*ops.size))[k]? =some .dead
        rw [T9]
        by_cases hk:k<ts.n+64*ops.size
        · rw [if_pos hk,q3.heap k hk,U4]
          cases hl:lkH rs'.h k with
          |none=>exact .inr rfl
          | some q=>
            obtain⟨π,o⟩:=q
            cases π with
            |nil=>exact .inl rfl
            |cons a b=>exact .inr rfl
        · rw [if_neg hk,List.getElem?_eq_none (by rw [q3.len];omega)];exact .inl rfl
      · have:=q3.slot x [] s (acC hx)
        exact this
    cases any with
    |false=>exact air orc hrun (aj3.of q2) hQ
    | true=>
      simp only [Bool.not_true,Bool.false_or,Bool.and_eq_true]at hb
      refine aaw orc hb.1 hrun (aj3.of q2) ?_ hQ
      unfold okR
      rw [hlen]
      exact aix q5 hb.2
end Go.AM
namespace Go.AM
open Go Go.RowKit Go.CP
def amz (ts:TS) (x q len:Nat) (t:Ty) (xs:List (den t)):TS:=
 ⟨Sv ts.σ (some x) (.one (.s (.own ts.n))),(ts.n,.arr t (xs.take len))::(q,.dead)::ts.h,ts.n+1⟩
def re1 {β:Type} (ts:TS) (x:Nat) (k:TS->Option β):Option β:=
 match look ts.σ x with
 |some (.one (.s (.sl q lo len)))=>match lookO ts.h q with
  | .arr t xs=>bif Nat.beq lo 0 then chk (decide (len<=xs.length)) (k (amz ts x q len t xs))else k ts
  |_=>k ts
 |_=>k ts
def anv:SK->Bool
 | .c (.own _)=>true
 | .c (.ty (.l _))=>true
 |_=>false
def reS {β:Type}:List (Nat×SK)->TS->(TS->Option β)->Option β
 | [],ts,k=>k ts
 |(x,s)::r,ts,k=>bif anv s then re1 ts x (λts'=>reS r ts' k)else reS r ts k
def reR {β:Type}:List ResultVar->TS->(TS->Option β)->Option β
 | [],ts,k=>k ts
 | .tmp t::r,ts,k=>re1 ts t (λts'=>reR r ts' k)
 |_::r,ts,k=>reR r ts k
theorem Le.refl [Fuel] (p:Nat) (st:St):Le p st st:=λX w m nt a H hs=>⟨m,H,hs,λ_ h=>h,λ_ _ _ h=>h⟩
theorem Le.trans [Fuel] {p:Nat} {a b c:St} (h:Le p a b) (k:Le p b c):Le p a c:=by
 intro X w m nt act H hs
 obtain⟨m1,H1,hs1,q1,q2⟩:=h X w m nt act H hs
 obtain⟨m2,H2,hs2,r1,r2⟩:=k X w m1 nt act H1 hs1
 exact⟨m2,H2,hs2,λb hb=>q1 b (r1 b hb),λj l hj hm=>r2 j l hj (q2 j l hj hm)⟩
theorem arV [Fuel] {p:Nat} {ts:TS} {x q len:Nat} {t:Ty} {xs:List (den t)} (hok:ts.ok) (hx:look ts.σ x=some (.one (.s (.sl q 0 len)))) (hq:lookO ts.h q= .arr t xs) (hlen:len<=xs.length):Le p ts.er (amz ts x q len t xs).er/\(amz ts x q len t xs).ok:=by
 have hqn:q<ts.n:=by
  rcases Nat.lt_or_ge q ts.n with h|h
  ·exact h
  ·have:=hok q h;rw [hq]at this;cases this
 have hh:∀k,(ts.er.h)[k]? =if k<ts.n then some (lookO ts.h k).er else none:=λk=>T9 ts.h ts.n k
 have hh':∀k,((amz ts x q len t xs).er.h)[k]? =if k=ts.n then some (.arr (wd t) len (fE t (xs.take len)))else if k=q then some .dead else(ts.er.h)[k]? :=by
  intro k
  rw [show((amz ts x q len t xs).er.h)[k]? =_ from T9 _ _ k,hh]
  simp only [amz,lookO]
  by_cases h1:k=ts.n
  ·subst h1
   rw [if_pos (Nat.lt_succ_self _),if_pos rfl,Nat.beq_refl]
   simp only [cond_true,TO.er,List.length_take]
   rw [Nat.min_eq_left hlen]
  ·have hb:Nat.beq ts.n k=false:=by
    cases hb:Nat.beq ts.n k with
    |false=>rfl
    |true=>exact absurd (Nat.eq_of_beq_eq_true hb).symm h1
   rw [if_neg h1,hb]
   by_cases h2:k=q
   ·subst h2
    rw [if_pos rfl,if_pos (by omega),Nat.beq_refl];rfl
   ·have hb2:Nat.beq q k=false:=by
     cases hb:Nat.beq q k with
     |false=>rfl
     |true=>exact absurd (Nat.eq_of_beq_eq_true hb).symm h2
    rw [if_neg h2,hb2]
    simp only [cond_false]
    by_cases h3:k<ts.n
    ·rw [if_pos h3,if_pos (by omega)]
    ·rw [if_neg h3,if_neg (by omega)]
 refine⟨?_,?_⟩
 ·intro X w m nt a H hs
  have hmn:m ts.n=none:=H.used _ (by rw [show ts.er.h.length=ts.n from JI _ _];exact Nat.le_refl _)
  have hqo:(ts.er.h)[q]? =some (.arr (wd t) xs.length (fE t xs)):=by rw [hh,if_pos hqn,hq];rfl
  obtain⟨l,hl,hz,⟨hn,hcap⟩,hb0,hbb⟩:=H.obj q _ hqo
  obtain⟨m',hm'⟩:∃m':vW,m'=λj=>if j=ts.n then some {l with n:=len}else m j:=⟨_,rfl⟩
  have em:∀j,j≠ts.n->m' j=m j:=λj hj=>by rw [hm'];simp [hj]
  have en:m' ts.n=some {l with n:=len}:=by rw [hm'];simp
  have hext:∀k l,m k=some l->m' k=some l:=by
   intro k l' h
   rw [em k (by rintro rfl;rw [hmn]at h;cases h)];exact h
  have RI:∀b,Mut m' (amz ts x q len t xs).er.h b->Mut m ts.er.h b:=by
   rintro b ⟨k,o,lk,hk,ho,hmk,hbk⟩
   rw [hh']at hk
   by_cases h1:k=ts.n
   ·subst h1
    rw [en]at hmk;cases hmk
    exact⟨q,_,l,hqo,trivial,hl,hbk⟩
   ·rw [if_neg h1]at hk
    by_cases h2:k=q
    ·rw [if_pos h2]at hk;cases hk;exact ho.elim
    ·rw [if_neg h2]at hk
     rw [em k h1]at hmk
     exact⟨k,o,lk,hk,ho,hmk,hbk⟩
  have hL:Later w m (MX X m ts.er.h) w m' (MX X m' (amz ts x q len t xs).er.h):=by
   refine⟨hext,λb _ hM hM'=> ?_,λ_ _ _=>rfl,Nat.le_refl _⟩
   rcases hM' with h|h
   ·exact hM (.inl h)
   ·exact hM (.inr (RI b h))
  refine⟨m',⟨λk o hk=> ?_,λk k' o o' lk lk' b hk hk' ho ho' hmk hmk' hbk hbk'=> ?_,λk hk=> ?_,λb hb=>H.adA b (RI b hb),H.xlt⟩,⟨hs.1,λy s hy=> ?_⟩,RI,λj l' _ h=>hext j l' h⟩
  ·rw [hh']at hk
   by_cases h1:k=ts.n
   ·subst h1
    rw [if_pos rfl]at hk;cases hk
    refine⟨{l with n:=len},en,hz,⟨rfl,by show len<=l.cap;omega⟩,hb0,λb hb=> ?_⟩
    obtain⟨e6,T,vs,e7,e8,e9,e10⟩:=hbb b hb
    refine⟨e6,T,vs,e7,e8,e9,λi hi=> ?_⟩
    have hfe:fE t (xs.take len) i=fE t xs i:=by
     unfold fE;simp only [List.getD_eq_getElem?_getD,List.getElem?_take];rw [if_pos hi]
    rw [hfe]
    exact⟨(e10 i (by omega)).1,λj y hy=>((e10 i (by omega)).2 j y hy).later hL⟩
   ·rw [if_neg h1]at hk
    by_cases h2:k=q
    ·rw [if_pos h2]at hk;cases hk;trivial
    ·rw [if_neg h2]at hk
     have ho:=H.obj k o hk
     cases o with
     |dead=>trivial
     |mp es=>
      obtain⟨l',b,rows,clock,e1,e2,e3,e4⟩:=ho
      exact⟨l',b,rows,clock,hext _ _ e1,e2,e3,e4⟩
     |ms es=>
      obtain⟨l',b,rows,clock,e1,e2,e3,e4⟩:=ho
      exact⟨l',b,rows,clock,hext _ _ e1,e2,e3,e4⟩
     |ra z n cs=>
      obtain⟨l',b,T,vs,e1,e2,e3,e4,e5,e6,e7,e8,e9,e10⟩:=ho
      exact⟨l',b,T,vs,hext _ _ e1,e2,e3,e4,e5,e6,e7,e8,e9,λi x hx=>(e10 i x hx).later hL⟩
     |box cs=>
      obtain⟨l',b,T,vs,e1,e2,e3,e4,e5⟩:=ho
      exact⟨l',b,T,vs,hext _ _ e1,e2,e3,e4.later hL,e5⟩
     |arr z n f=>
      obtain⟨l',e1,e2,e3,e4,e5⟩:=ho
      refine⟨l',hext _ _ e1,e2,e3,e4,λb hb=> ?_⟩
      obtain⟨e6,T,vs,e7,e8,e9,e10⟩:=e5 b hb
      exact⟨e6,T,vs,e7,e8,e9,λi hi=>⟨(e10 i hi).1,λj y hy=>((e10 i hi).2 j y hy).later hL⟩⟩
  ·rw [hh']at hk hk'
   have back:∀{k:Nat} {o:bF} {lk:Loc},(if k=ts.n then some (bF.arr (wd t) len (fE t (xs.take len)))else if k=q then some .dead else(ts.er.h)[k]?)=some o->o.live->m' k=some lk->lk.blk=some b→
     ∃k0 o0 l0,(ts.er.h)[k0]? =some o0/\o0.live/\m k0=some l0/\l0.blk=some b/\((k=ts.n/\k0=q)\/(k≠ts.n/\k≠q/\k0=k)):=by
    intro k o lk h1 h2 h3 h4
    by_cases e1:k=ts.n
    ·subst e1
     rw [en]at h3;cases h3
     exact⟨q,_,l,hqo,trivial,hl,h4,.inl ⟨rfl,rfl⟩⟩
    ·rw [if_neg e1]at h1
     by_cases e2:k=q
     ·rw [if_pos e2]at h1;cases h1;exact h2.elim
     ·rw [if_neg e2]at h1
      rw [em k e1]at h3
      exact⟨k,o,lk,h1,h2,h3,h4,.inr ⟨e1,e2,rfl⟩⟩
   obtain⟨k0,o0,l0,a1,a2,a3,a4,a5⟩:=back hk ho hmk hbk
   obtain⟨k1,o1,l1,b1,b2,b3,b4,b5⟩:=back hk' ho' hmk' hbk'
   have:=H.inj k0 k1 o0 o1 l0 l1 b a1 b1 a2 b2 a3 b3 a4 b4
   rcases a5 with⟨c1,c2⟩|⟨c1,c2,c3⟩<;>rcases b5 with⟨d1,d2⟩|⟨d1,d2,d3⟩
   ·rw [c1,d1]
   ·exact absurd (by rw [<-d3,<-this,c2]) d2
   ·exact absurd (by rw [<-c3,this,d2]) c2
   ·rw [<-c3,<-d3];exact this
  ·have hk:ts.n+1<=k:=by rw [show(amz ts x q len t xs).er.h.length=ts.n+1 from JI _ _]at hk;exact hk
   rw [em k (by omega)]
   exact H.used k (by rw [show ts.er.h.length=ts.n from JI _ _];omega)
  ·replace hy:look (Sv ts.σ (some x) (.one (.s (.own ts.n)))) y=some s:=hy
   rw [uN]at hy
   by_cases e:(some x:Option Nat)=some y
   ·rw [if_pos e]at hy
    have e:=Option.some.inj e
    subst e
    have hy:=Option.some.inj hy
    subst hy
    obtain⟨v,hv,Cz⟩:=hs.2 x _ hx
    refine⟨v,hv,?_⟩
    change lU w m _ (.sl q 0 len) v at Cz
    show lU w m' _ (.own ts.n) v
    cases Cz with
    |sl _ _ _ l2 a c hk h0 h1 h2 h3=>
     rw [hl]at hk;cases hk
     obtain⟨rfl,rfl⟩:=h0 rfl
     exact lU.own ts.n {l with n:=len} en
   ·rw [if_neg e]at hy
    obtain⟨v,hv,Cz⟩:=hs.2 y s hy
    exact⟨v,hv,Cz.later hL⟩
 ·intro k hk
  have hk:ts.n+1<=k:=hk
  show lookO ((ts.n,.arr t (xs.take len))::(q,.dead)::ts.h) k= .dead
  simp only [lookO]
  have hb:Nat.beq ts.n k=false:=by
   cases hb:Nat.beq ts.n k with
   |false=>rfl
   |true=>have:=Nat.eq_of_beq_eq_true hb;omega
  have hb2:Nat.beq q k=false:=by
   cases hb:Nat.beq q k with
   |false=>rfl
   |true=>have:=Nat.eq_of_beq_eq_true hb;omega
  rw [hb,hb2]
  exact hok k (by omega)
theorem ahi [Fuel] {β:Type} {p:Nat} {ts:TS} {x:Nat} {k:TS->Option β} {r:β} (hok:ts.ok) (h:re1 ts x k=some r):∃ts',ts'.ok/\Le p ts.er ts'.er/\k ts'=some r:=by
 unfold re1 at h
 split at h
 ·rename_i q lo len hx
  split at h
  ·rename_i t xs hq
   cases hb:Nat.beq lo 0 with
   |false=>rw [hb]at h;exact⟨ts,hok,Le.refl p _,h⟩
   |true=>
    rw [hb]at h
    have:=Nat.eq_of_beq_eq_true hb;subst this
    obtain⟨hlen,h⟩:=apw h
    obtain⟨h1,h2⟩:=arV (p:=p) hok hx hq hlen
    exact⟨_,h2,h1,h⟩
  ·exact⟨ts,hok,Le.refl p _,h⟩
 ·exact⟨ts,hok,Le.refl p _,h⟩
theorem acE [Fuel] {β:Type} {p:Nat} {k:TS->Option β} {r:β}:∀{l:List (Nat×SK)} {ts:TS},ts.ok->reS l ts k=some r→∃ts',ts'.ok/\Le p ts.er ts'.er/\k ts'=some r
 | [],ts,hok,h=>⟨ts,hok,Le.refl p _,h⟩
 | (x,s)::l,ts,hok,h=>by
  simp only [reS]at h
  cases hw:anv s with
  |false=>rw [hw]at h;exact acE hok h
  |true=>
   rw [hw]at h
   simp only [cond_true]at h
   obtain⟨t1,a1,a2,a3⟩:=ahi (p:=p) hok h
   obtain⟨t2,b1,b2,b3⟩:=acE (p:=p) a1 a3
   exact⟨t2,b1,a2.trans b2,b3⟩
theorem acF [Fuel] {β:Type} {p:Nat} {k:TS->Option β} {r:β}:∀{l:List ResultVar} {ts:TS},ts.ok->reR l ts k=some r→∃ts',ts'.ok/\Le p ts.er ts'.er/\k ts'=some r
 | [],ts,hok,h=>⟨ts,hok,Le.refl p _,h⟩
 | .tmp t::l,ts,hok,h=>by
  simp only [reR]at h
  obtain⟨t1,a1,a2,a3⟩:=ahi (p:=p) hok h
  obtain⟨t2,b1,b2,b3⟩:=acF (p:=p) a1 a3
  exact⟨t2,b1,a2.trans b2,b3⟩
 | .cell a T::l,ts,hok,h=>by
  simp only [reR]at h
  exact acF (l:=l) hok h
end Go.AM
namespace Go.AM
open Go Go.RowKit Go.CP
inductive An (β:Type) where
 |z
 |two (a b:An β)
 |one (a:An β)
 |cut (sh:Shape) (J:sh.V->Option β) (a b:An β)
 |lp (sh:Shape) (L:Nat->sh.V->Option β) (a:(sh.V->Option β)->An β)
 |sp (t n:Nat)
 |sl (t:Nat)
 |ne (t:Nat)
 |as (t n:Nat)
 |un (a b:An β)
 |sb (t off n:Nat)
 |ab (t off n:Nat)
 |sm (l:List (Nat×Nat×Nat))
 |gs (l:List Nat)
 |ct (a:An β)
 |dist (a b:An β)
 |cf (a:An β)
def An.l {β:Type}:An β->An β
 | .two a _=>a
 | .one a=>a
 |_=> .z
def An.r {β:Type}:An β->An β
 | .two _ b=>b
 |_=> .z
def G8 {β:Type} (n:TS->Option β) (k:Exit->TS->Option β):Exit->TS->Option β
 | .normal,ts=>n ts
 |e,ts=>k e ts
def apl {β:Type} (id:Nat) (k:Exit->TS->Option β):Exit->TS->Option β
 | .exit j,ts=>bif Nat.beq j id then k .normal ts else k (.exit j) ts
 |e,ts=>k e ts
def ahj {β:Type} (p:Nat) (sh:Shape) (J:sh.V->Option β) (ts:TS):Option β:=reS sh.slots ts λts=>(dec sh p ts).bind J
def boolT (ts:TS) (c:Operand):Option Bool:=
 match opd ts.σ c with
 |some s=>MB s
 |none=>none
def spl {β:Type} (v:Int):Nat->(Nat->Option β)->Option β
 |0,_=>none
 |n+1,f=>bif v==(n:Int)then f n else spl v n f
def ap3 (ts:TS) (t:Nat) (kd:IntKind) (j:Nat):TS:=⟨Sv ts.σ (some t) (mkv (.int kd (j:Int))),ts.h,ts.n⟩
def arW {β:Type} (ts:TS) (t n:Nat) (f:TS->Option β):Option β:=
 match look ts.σ t with
 |some (.one (.s (.c (.val (.int kd v)))))=>spl v n λj=>f (ap3 ts t kd j)
 |_=>none
def arX (ts:TS) (t:Nat) (s:SV):TS:=⟨Sv ts.σ (some t) s,ts.h,ts.n⟩
def ara {β:Type} (ts:TS) (t:Nat) (f:TS->Option β):Option β:=
 match look ts.σ t with
 |some (.one (.s (.c (.lsn ty xs))))=>lsp xs (f (arX ts t (.one (.s (.c (.val (.slice none 0 0))))))) λx r=>f (arX ts t (.one (.s (.c (.ls ty (x::r))))))
 |_=>none
def arb (ts:TS) (k:Nat) (ty:Ty) (xs:List (den ty)):TS:=⟨ts.σ,(k,.arr ty xs)::ts.h,ts.n⟩
def ard {β:Type} (ts:TS) (t:Nat) (f:TS->Option β):Option β:=
 match look ts.σ t with
 |some (.one (.s (.own k)))=>match lookO ts.h k with
  | .arr ty xs=>lsp xs none λx r=>f (arb ts k ty (x::r))
  |_=>none
 |_=>none
def ap4 (ts:TS) (k o:Nat) (cs:List SC) (kd:IntKind) (j:Nat):TS:=⟨ts.σ,(k,.box (cs.set o (.c (.val (.int kd (j:Int))))))::ts.h,ts.n⟩
def anw {β:Type} (ts:TS) (t off n:Nat) (f:TS->Option β):Option β:=
 match look ts.σ t with
 | some (.one (.s (.pb k o)))=>match lookO ts.h k with
  | .box cs=>match cs[o+off]? with
   |some (.c (.val (.int kd v)))=>spl v n λj=>f (ap4 ts k (o+off) cs kd j)
   |_=>none
  |_=>none
 |_=>none
def ap5 {β:Type} (f:TS->Option β):List (Nat×Nat×Nat)->TS->Option β
 | [],ts=>f ts
 |(t,off,n)::r,ts=>anw ts t off n (ap5 f r)
def asB {β:Type} (ts:TS) (t off n:Nat) (f:TS->Option β):Option β:=
 match look ts.σ t with
 | some (.one (.s (.pb k o)))=>match lookO ts.h k with
  | .box cs=>match cs[o+off]? with
   |some (.c (.val (.int kd v)))=>bif v==(n:Int)then f (ap4 ts k (o+off) cs kd n)else none
   |_=>none
  |_=>none
 |_=>none
def asT {β:Type} (ts:TS) (t n:Nat) (f:TS->Option β):Option β:=
 match look ts.σ t with
 |some (.one (.s (.c (.val (.int kd v)))))=>bif v==(n:Int)then f (ap3 ts t kd n)else none
 |_=>none
def unr {β:Type} (ex:An β->TS->(Exit->TS->Option β)->Option β) (k:Exit->TS->Option β):An β->TS->Option β
 | .un a b,ts=>ex a ts (G8 (λts'=>unr ex k b ts') k)
 |_,_=>none
def unV {β:Type} (ex:An β->TS->(Exit->TS->Option β)->Option β) (va:An β->(Exit->TS->Option β)->Prop) (k:Exit->TS->Option β):An β->Prop
 | .un a b=>va a (G8 (λts'=>unr ex k b ts') k)/\unV ex va k b
 | .z=>True
 |_=>False
def unD {β:Type}:An β->Nat
 | .un _ b=>unD b+1
 |_=>0
section
variable {β:Type} (C:Cx) (p:Nat)
def exec [Fuel]:Code->An β->TS->(Exit->TS->Option β)->Option β
 | .skip,_,ts,k=>k .normal ts
 | .region id ops any,.sp t n,ts,k=>arW ts t n λts'=>aaC C [] id ops any ts' (k .normal)
 | .region id ops any,.sl t,ts,k=>ara ts t λts'=>aaC C [] id ops any ts' (k .normal)
 | .region id ops any,.sb t off n,ts,k=>anw ts t off n λts'=>aaC C [] id ops any ts' (k .normal)
 | .region id ops any,.ab t off n,ts,k=>asB ts t off n λts'=>aaC C [] id ops any ts' (k .normal)
 | .region id ops any,.sm l,ts,k=>ap5 (λts'=>aaC C [] id ops any ts' (k .normal)) l ts
 | .region id ops any,.gs l,ts,k=>aaC C l id ops any ts (k .normal)
 | .region id ops any,.as t n,ts,k=>asT ts t n λts'=>aaC C [] id ops any ts' (k .normal)
 | .region id ops any,_,ts,k=>aaC C [] id ops any ts (k .normal)
 | .seq (.seq (.region id ops any) (.cond c x y)) z,.dist a b,ts,k=>aaC C [] id ops any ts λts=>match boolT ts c with
  |some t=>bif t then exec x a.l ts (G8 (λts'=>exec z a.r ts' k) k)else exec y b.l ts (G8 (λts'=>exec z b.r ts' k) k)
  |none=>none
 | .seq x y,.cut sh J a b,ts,k=>exec x a ts (G8 (ahj p sh J) k)
 | .seq x y,an,ts,k=>exec x an.l ts (G8 (λts'=>exec y an.r ts' k) k)
 | .cond c x _,.ct a,ts,k=>match boolT ts c with
  |some b=>bif b then exec x a ts k else none
  |none=>none
 | .cond c _ y,.cf a,ts,k=>match boolT ts c with
  |some b=>bif b then none else exec y a ts k
  |none=>none
 | .cond c x y,an,ts,k=>match boolT ts c with
  |some b=>bif b then exec x an.l ts k else exec y an.r ts k
  |none=>none
 | .block id c,an,ts,k=>exec c an.l ts (apl id k)
 | .loop c,.lp sh L a,ts,k=>ahj p sh (L fuel) ts
 | .loop c,.un a b,ts,k=>unr (λa ts k=>exec c a ts k) k (.un a b) ts
 | .exit id,_,ts,k=>k (.exit id) ts
 | .ret,.ne t,ts,k=>ard ts t λts'=>k .ret ts'
 | .ret,_,ts,k=>k .ret ts
 |_,_,_,_=>none
def valid [Fuel]:Code->An β->(Exit->TS->Option β)->Prop
 |_,.z,_=>True
 | .region _ _ _,.sp _ _,_=>True
 | .region _ _ _,.sl _,_=>True
 | .region _ _ _,.as _ _,_=>True
 | .region _ _ _,.sb _ _ _,_=>True
 | .region _ _ _,.ab _ _ _,_=>True
 | .region _ _ _,.sm _,_=>True
 | .region _ _ _,.gs _,_=>True
 | .ret,.ne _,_=>True
 | .seq (.seq (.region _ _ _) (.cond _ x y)) z,.dist a b,k=>(valid x a.l (G8 (λts'=>exec C p z a.r ts' k) k)/\valid z a.r k)/\(valid y b.l (G8 (λts'=>exec C p z b.r ts' k) k)/\valid z b.r k)
 | .seq x y,.cut sh J a b,k=>valid x a (G8 (ahj p sh J) k)/\valid y b k∧∀v,J v=exec C p y b (enc sh v) k
 | .seq x y,.two a b,k=>valid x a (G8 (λts'=>exec C p y b ts' k) k)/\valid y b k
 | .cond _ x y,.two a b,k=>valid x a k/\valid y b k
 | .cond _ x _,.ct a,k=>valid x a k
 | .cond _ _ y,.cf a,k=>valid y a k
 | .block id c,.one a,k=>valid c a (apl id k)
 | .loop c,.lp sh L a,k=>(∀v,L 0 v=none)∧∀n,valid c (a (L n)) (G8 (ahj p sh (L n)) k)∧∀v,L (n+1) v=exec C p c (a (L n)) (enc sh v) (G8 (ahj p sh (L n)) k)
 | .loop c,.un a b,k=>unV (λa ts k=>exec C p c a ts k) (λa k=>valid c a k) k (.un a b)
 |_,_,_=>False
end
def Post {β:Type} (p:Nat) (k:Exit->TS->Option β) (res:β):Exit->St->Prop:=λe st=>∃ts',k e ts'=some res/\ts'.ok/\Le p st ts'.er
theorem U5 [Fuel] {ts:TS} {c:Operand} {b:Bool} (h:boolT ts c=some b):ag0 ts.er c=some b:=by
 unfold boolT at h
 split at h
 ·rename_i s hs
  have:=JJ h
  subst this
  unfold ag0
  rw [show opd ts.er.σ c=some (mkv (.bool b))from hs];rfl
 ·cases h
theorem U6 [Fuel] {β:Type} {p:Nat} {sh:Shape} {J:sh.V->Option β} {ts:TS} {r:β} (hok:ts.ok) (h:ahj p sh J ts=some r):∃v,Le p ts.er (enc sh v).er/\J v=some r:=by
 obtain⟨t1,a1,a2,a3⟩:=acE (p:=p) hok h
 obtain⟨v,b1,b2⟩:=GY a3
 exact⟨v,a2.trans (apP a1 b1),b2⟩
section
variable {β:Type} {C:Cx} {p:Nat}
theorem acG [Fuel] {β:Type} {v:Int} {f:Nat->Option β} {r:β}:∀{n:Nat},spl v n f=some r→∃j:Nat,v=(j:Int)/\f j=some r
 |0,h=>by cases h
 |n+1,h=>by
  rw [spl]at h
  cases hb:(v==(n:Int))with
  |true=>rw [hb]at h;exact⟨n,by simpa using hb,h⟩
  |false=>rw [hb]at h;exact acG h
theorem akB [Fuel] {p:Nat} {ts:TS} {t:Nat} {kd:IntKind} {j:Nat} (h:look ts.σ t=some (.one (.s (.c (.val (.int kd (j:Int))))))):Le p ts.er (ap3 ts t kd j).er:=by
 intro X w m nt a H hs
 refine⟨m,H,?_,λ_ h=>h,λ_ _ _ h=>h⟩
 refine⟨hs.1,λx s hx=>hs.2 x s ?_⟩
 have hy:look (Sv ts.σ (some t) (mkv (.int kd (j:Int)))) x=some s:=hx
 rw [uN]at hy
 by_cases q:some t=some x
 ·rw [if_pos q]at hy
  have q':t=x:=by simpa using q
  have hy':mkv (.int kd (j:Int))=s:=by simpa using hy
  rw [<-hy',<-q']
  exact h
 ·rw [if_neg q]at hy;exact hy
theorem anx [Fuel] {p:Nat} {ts:TS} {t:Nat} {s s':SV} (h:look ts.σ t=some s) (hc:∀w m M v,nZ w m M s v->nZ w m M s' v):Le p ts.er (arX ts t s').er:=by
 intro X w m nt a H hs
 refine⟨m,H,?_,λ_ h=>h,λ_ _ _ h=>h⟩
 refine⟨hs.1,λx s2 hx=> ?_⟩
 have hy:look (Sv ts.σ (some t) s') x=some s2:=hx
 rw [uN]at hy
 by_cases q:some t=some x
 ·rw [if_pos q]at hy
  have q':t=x:=by simpa using q
  have hy':s'=s2:=by simpa using hy
  obtain⟨v,hv,Cz⟩:=hs.2 t s h
  rw [<-hy',<-q']
  exact⟨v,hv,hc _ _ _ _ Cz⟩
 ·rw [if_neg q]at hy;exact hs.2 x s2 hy
theorem akC [Fuel] {β:Type} {p:Nat} {ts:TS} {t:Nat} {f:TS->Option β} {r:β} (hok:ts.ok) (e:ara ts t f=some r):∃ts',Le p ts.er ts'.er/\ts'.ok/\f ts'=some r:=by
 unfold ara at e
 split at e
 ·rename_i ty xs hl
  rcases agA e with⟨rfl,e⟩|⟨x,l,rfl,e⟩
  ·exact⟨_,anx hl (λw m M v h=>by cases h with|c h=>cases h with|lsn _ _ _ h hn=>rw [hn rfl];exact .c (.val _)),hok,e⟩
  ·exact⟨_,anx hl (λw m M v h=>by cases h with|c h=>cases h with|lsn _ _ _ h hn=>exact .c (.ls _ _ _ h)),hok,e⟩
 ·cases e
theorem aep [Fuel] {ts:TS} {k:Nat} {ty:Ty} {xs:List (den ty)} (h:lookO ts.h k= .arr ty xs) (j:Nat):lookO (arb ts k ty xs).h j=lookO ts.h j:=by
 show(bif Nat.beq k j then TO.arr ty xs else lookO ts.h j)=lookO ts.h j
 cases hb:Nat.beq k j with
 |false=>rfl
 |true=>have:=Nat.eq_of_beq_eq_true hb;subst this;rw [h];rfl
theorem akD [Fuel] {β:Type} {p:Nat} {ts:TS} {t:Nat} {f:TS->Option β} {r:β} (hok:ts.ok) (e:ard ts t f=some r):∃ts',Le p ts.er ts'.er/\ts'.ok/\f ts'=some r:=by
 unfold ard at e
 split at e
 ·rename_i k hl
  split at e
  ·rename_i ty xs ho
   rcases agA e with⟨_,e⟩|⟨x,l,rfl,e⟩
   ·cases e
   ·refine⟨_,?_,λj hj=>by rw [aep ho];exact hok j hj,e⟩
    have:(arb ts k ty (x::l)).er=ts.er:=by
     show(⟨ts.σ,erH (arb ts k ty (x::l)).h ts.n⟩:St)=⟨ts.σ,erH ts.h ts.n⟩
     congr 1
     unfold erH
     exact List.map_congr_left λj _=>by rw [aep ho]
    rw [this];exact Le.refl p _
  ·cases e
 ·cases e
theorem Zk [Fuel] {β:Type} {p:Nat} {ts:TS} {t off n:Nat} {f:TS->Option β} {r:β} (hok:ts.ok) (e:anw ts t off n f=some r):∃ts',Le p ts.er ts'.er/\ts'.ok/\f ts'=some r:=by
 unfold anw at e
 split at e
 ·rename_i k o hl
  split at e
  ·rename_i cs ho
   split at e
   ·rename_i kd v hv
    obtain⟨j,hj,e2⟩:=acG e
    subst hj
    have hcs:cs.set (o+off) (.c (.val (.int kd (j:Int))))=cs:=by
     apply List.ext_getElem?
     intro i
     rw [List.getElem?_set]
     by_cases h1:o+off=i
     ·subst h1
      rw [if_pos rfl]
      have hlt:=aR hv
      rw [if_pos hlt,hv]
     ·rw [if_neg h1]
    have hlk:∀i,lookO (ap4 ts k (o+off) cs kd j).h i=lookO ts.h i:=by
     intro i
     show(bif Nat.beq k i then _ else lookO ts.h i)=_
     rw [hcs]
     cases hb:Nat.beq k i with
     |true=>have:=Nat.eq_of_beq_eq_true hb;subst this;rw [ho];rfl
     |false=>rfl
    refine⟨_,?_,λi hi=>by rw [hlk];exact hok i hi,e2⟩
    have:(ap4 ts k (o+off) cs kd j).er=ts.er:=by
     show(⟨ts.σ,erH (ap4 ts k (o+off) cs kd j).h ts.n⟩:St)=⟨ts.σ,erH ts.h ts.n⟩
     congr 1
     unfold erH
     exact List.map_congr_left λi _=>by rw [hlk]
    rw [this];exact Le.refl p _
   ·cases e
  ·cases e
 ·cases e
theorem aon [Fuel] {β:Type} {ts:TS} {t off n:Nat} {f:TS->Option β} {r:β} (e:asB ts t off n f=some r):anw ts t off (n+1) f=some r:=by
 unfold asB at e
 unfold anw
 split at e
 ·rename_i k o hl
  split at e
  ·rename_i cs ho
   split at e
   ·rename_i kd v hv
    cases hb:(v==(n:Int))with
    |false=>rw [hb]at e;cases e
    |true=>
     rw [hb]at e
     simp only [spl,hb,cond_true]
     exact e
   ·cases e
  ·cases e
 ·cases e
theorem aer [Fuel] {β:Type} {p:Nat} {f:TS->Option β} {r:β}:∀{l:List (Nat×Nat×Nat)} {ts:TS},ts.ok->ap5 f l ts=some r→∃ts',Le p ts.er ts'.er/\ts'.ok/\f ts'=some r
 | [],ts,hok,e=>⟨ts,Le.refl p _,hok,e⟩
 |(t,off,n)::l,ts,hok,e=>by
  obtain⟨ts1,h1,h2,h3⟩:=Zk (p:=p) hok (show anw ts t off n (ap5 f l)=some r from e)
  obtain⟨ts2,h4,h5,h6⟩:=aer h2 h3
  exact⟨ts2,h1.trans h4,h5,h6⟩
theorem rZ [Fuel] (hT:∀S∈C.T,bL C.P S):∀(c:Code) {an:An β} {ts:TS} {k:Exit->TS->Option β} {res:β},valid C p c an k->ts.ok->exec C p c an ts k=some res->wpA C.P C.nt p c (Post p k res) ts.er
 | .skip,an,ts,k,res,_,hok,e=>amd ⟨ts,by simpa [exec]using e,hok,Le.refl p _⟩
 | .exit id,an,ts,k,res,_,hok,e=>ame ⟨ts,by simpa [exec]using e,hok,Le.refl p _⟩
 | .ret,an,ts,k,res,_,hok,e=>by
  cases an with
  |ne t=>
   have e:ard ts t (λts'=>k .ret ts')=some res:=e
   obtain⟨ts',h1,h2,h3⟩:=akD (p:=p) hok e
   exact aj0 ⟨ts',h3,h2,h1⟩
  |_=>exact aj0 ⟨ts,e,hok,Le.refl p _⟩
 | .region id ops any,an,ts,k,res,_,hok,e=>by
  have plain:∀{ts:TS},ts.ok->aaC C [] id ops any ts (k .normal)=some res->wpA C.P C.nt p (.region id ops any) (Post p k res) ts.er:=
   λhok e=>uO (acD hT hok e) (λex st h=>by obtain⟨rfl,h⟩:=h;exact h)
  cases an with
  | sp t n=>
   have e:arW ts t n (λts'=>aaC C [] id ops any ts' (k .normal))=some res:=e
   unfold arW at e
   split at e
   ·rename_i kd v hl
    obtain⟨j,rfl,h2⟩:=acG e
    exact K8 (akB hl) (plain (ts:=ap3 ts t kd j) hok h2)
   ·cases e
  |sl t=>
   have e:ara ts t (λts'=>aaC C [] id ops any ts' (k .normal))=some res:=e
   obtain⟨ts',h1,h2,h3⟩:=akC (p:=p) hok e
   exact K8 h1 (plain (ts:=ts') h2 h3)
  | as t n=>
   have e:asT ts t n (λts'=>aaC C [] id ops any ts' (k .normal))=some res:=e
   unfold asT at e
   split at e
   ·rename_i kd v hl
    cases hb:(v==(n:Int))with
    |false=>rw [hb]at e;cases e
    |true=>
     rw [hb]at e
     have hv:v=(n:Int):=by simpa using hb
     subst hv
     exact K8 (akB hl) (plain (ts:=ap3 ts t kd n) hok e)
   ·cases e
  |sb t off n=>
   have e:anw ts t off n (λts'=>aaC C [] id ops any ts' (k .normal))=some res:=e
   obtain⟨ts',h1,h2,h3⟩:=Zk (p:=p) hok e
   exact K8 h1 (plain (ts:=ts') h2 h3)
  |ab t off n=>
   have e:asB ts t off n (λts'=>aaC C [] id ops any ts' (k .normal))=some res:=e
   obtain⟨ts',h1,h2,h3⟩:=Zk (p:=p) hok (aon e)
   exact K8 h1 (plain (ts:=ts') h2 h3)
  |sm l=>
   have e:ap5 (λts'=>aaC C [] id ops any ts' (k .normal)) l ts=some res:=e
   obtain⟨ts',h1,h2,h3⟩:=aer (p:=p) hok e
   exact K8 h1 (plain (ts:=ts') h2 h3)
  |gs l=>exact uO (acD hT hok e) (λex st h=>by obtain⟨rfl,h⟩:=h;exact h)
  |ne t=>exact plain hok e
  |un a b=>exact plain hok e
  |ct a=>exact plain hok e
  |dist a b=>exact plain hok e
  |cf a=>exact plain hok e
  |z=>exact plain hok e
  |two a b=>exact plain hok e
  |one a=>exact plain hok e
  |cut sh J a b=>exact plain hok e
  |lp sh L a=>exact plain hok e
 | .cond c x y,an,ts,k,res,hv,hok,e=>by
  have ct:∀a,an= .ct a->wpA C.P C.nt p (.cond c x y) (Post p k res) ts.er:=by
   intro a ha
   subst ha
   simp only [exec]at e
   split at e
   ·rename_i b hb
    cases b with
    |true=>exact UQ (U5 hb) (λ_=>rZ hT x hv hok e) (λhf=>by cases hf)
    |false=>cases e
   ·cases e
  have cf:∀a,an= .cf a->wpA C.P C.nt p (.cond c x y) (Post p k res) ts.er:=by
   intro a ha
   subst ha
   simp only [exec]at e
   split at e
   ·rename_i b hb
    cases b with
    |false=>exact UQ (U5 hb) (λhf=>by cases hf) (λ_=>rZ hT y hv hok e)
    |true=>cases e
   ·cases e
  by_cases h1:∃a,an= .ct a
  ·obtain⟨a,ha⟩:=h1;exact ct a ha
  by_cases h2:∃a,an= .cf a
  ·obtain⟨a,ha⟩:=h2;exact cf a ha
  clear ct cf
  rw [show exec C p (.cond c x y) an ts k=(match boolT ts c with
   |some b=>bif b then exec C p x an.l ts k else exec C p y an.r ts k
   |none=>none)by cases an<;>first|rfl|exact absurd ⟨_,rfl⟩ h1|exact absurd ⟨_,rfl⟩ h2]at e
  split at e
  ·rename_i b hb
   have hva:valid C p x an.l k/\valid C p y an.r k:=by
    cases an with
    |z=>exact⟨by cases x<;>trivial,by cases y<;>trivial⟩
    |two a b=>exact hv
    |ct a=>exact absurd ⟨_,rfl⟩ h1
    |cf a=>exact absurd ⟨_,rfl⟩ h2
    |_=>exact hv.elim
   refine UQ (U5 hb) (λht=> ?_) (λhf=> ?_)
   ·subst ht;exact rZ hT x hva.1 hok e
   ·subst hf;exact rZ hT y hva.2 hok e
  ·cases e
 | .block id c,an,ts,k,res,hv,hok,e=>by
  have hva:valid C p c an.l (apl id k):=by
   cases an with
   |z=>cases c<;>trivial
   |one a=>exact hv
   |_=>exact hv.elim
  have e:exec C p c an.l ts (apl id k)=some res:=by simpa [exec]using e
  refine aj2 (uO (rZ hT c hva hok e) (λex st h=> ?_))
  obtain⟨ts',h1,h2,h3⟩:=h
  cases ex with
  | exit j=>
   simp only [apl]at h1
   simp only [aj1]
   cases hb:Nat.beq j id with
   |true=>rw [hb]at h1;rw [if_pos (Nat.eq_of_beq_eq_true hb)];exact⟨ts',h1,h2,h3⟩
   |false=>
    rw [hb]at h1
    rw [if_neg (λh=>by subst h;rw [Nat.beq_refl]at hb;cases hb)];exact⟨ts',h1,h2,h3⟩
  |_=>exact⟨ts',h1,h2,h3⟩
 | .seq x y,an,ts,k,res,hv,hok,e=>by
  have plain:valid C p x an.l (G8 (λts'=>exec C p y an.r ts' k) k)->valid C p y an.r k->exec C p x an.l ts (G8 (λts'=>exec C p y an.r ts' k) k)=some res->wpA C.P C.nt p (.seq x y) (Post p k res) ts.er:=by
   intro v1 v2 e
   refine TY (uO (rZ hT x v1 hok e) (λex st h=> ?_))
   obtain⟨ts',h1,h2,h3⟩:=h
   cases ex with
   |normal=>exact K8 h3 (rZ hT y v2 h2 h1)
   |_=>exact⟨ts',h1,h2,h3⟩
  cases an with
  |z=>exact plain (by cases x<;>trivial) (by cases y<;>trivial) (by cases x with|seq r x=>(cases r with|region _ _ _=>(cases x<;>exact e)|_=>exact e)|_=>exact e)
  |two a b=>
   have hv:valid C p x a (G8 (λts'=>exec C p y b ts' k) k)/\valid C p y b k:=(by cases x with|seq r x=>(cases r with|region _ _ _=>(cases x<;>exact hv)|_=>exact hv)|_=>exact hv)
   exact plain hv.1 hv.2 (by cases x with|seq r x=>(cases r with|region _ _ _=>(cases x<;>exact e)|_=>exact e)|_=>exact e)
  |one a=>exact hv.elim
  |lp sh L a=>exact hv.elim
  |sp t n=>exact hv.elim
  |sl t=>exact hv.elim
  |ne t=>exact hv.elim
  |as t n=>exact hv.elim
  |un a b=>exact hv.elim
  |sb t off n=>exact hv.elim
  |ab t off n=>exact hv.elim
  |sm l=>exact hv.elim
  |gs l=>exact hv.elim
  |ct a=>exact hv.elim
  |cf a=>exact hv.elim
  | dist a b=>
   cases x with
   | seq r x=>
    cases r with
    | region id ops any=>
     cases x with
     | cond c x1 x2=>
      have hv:(valid C p x1 a.l (G8 (λts'=>exec C p y a.r ts' k) k)/\valid C p y a.r k)/\(valid C p x2 b.l (G8 (λts'=>exec C p y b.r ts' k) k)/\valid C p y b.r k):=hv
      have e:aaC C [] id ops any ts (λts=>match boolT ts c with
       |some t=>bif t then exec C p x1 a.l ts (G8 (λts'=>exec C p y a.r ts' k) k)else exec C p x2 b.l ts (G8 (λts'=>exec C p y b.r ts' k) k)
       |none=>none)=some res:=e
      have key:∀(ts:TS) (z:Code) (b1 b2:An β),valid C p z b1 (G8 (λts'=>exec C p y b2 ts' k) k)->valid C p y b2 k->(exec C p z b1 ts (G8 (λts'=>exec C p y b2 ts' k) k)=some res->wpA C.P C.nt p z (Post p (G8 (λts'=>exec C p y b2 ts' k) k) res) ts.er)->exec C p z b1 ts (G8 (λts'=>exec C p y b2 ts' k) k)=some res->wpA C.P C.nt p z (amc (wpA C.P C.nt p y (Post p k res)) (Post p k res)) ts.er:=by
       intro ts z b1 b2 v1 v2 hz e
       refine uO (hz e) (λex st h=> ?_)
       obtain⟨ts',h1,h2,h3⟩:=h
       cases ex with
       |normal=>exact K8 h3 (rZ hT y v2 h2 h1)
       |_=>exact⟨ts',h1,h2,h3⟩
      refine TY (TY (uO (acD hT hok e) (λex st h=> ?_)))
      obtain⟨rfl,ts1,e,hok1,hle⟩:=h
      show wpA C.P C.nt p (.cond c x1 x2) _ st
      cases hb:boolT ts1 c with
      |none=>rw [hb]at e;cases e
      |some t=>
       rw [hb]at e
       refine K8 hle (UQ (U5 hb) (λht=> ?_) (λht=> ?_))
       ·subst ht;exact key ts1 x1 a.l a.r hv.1.1 hv.1.2 (rZ hT x1 hv.1.1 hok1) e
       ·subst ht;exact key ts1 x2 b.l b.r hv.2.1 hv.2.2 (rZ hT x2 hv.2.1 hok1) e
     |_=>exact hv.elim
    |_=>exact hv.elim
   |_=>exact hv.elim
  | cut sh J a b=>
   have hv:valid C p x a (G8 (ahj p sh J) k)/\valid C p y b k∧∀v,J v=exec C p y b (enc sh v) k:=(by cases x with|seq r x=>(cases r with|region _ _ _=>(cases x<;>exact hv)|_=>exact hv)|_=>exact hv)
   obtain⟨v1,v2,v3⟩:=hv
   have e:exec C p x a ts (G8 (ahj p sh J) k)=some res:=(by cases x with|seq r x=>(cases r with|region _ _ _=>(cases x<;>exact e)|_=>exact e)|_=>exact e)
   refine TY (uO (rZ hT x v1 hok e) (λex st h=> ?_))
   obtain⟨ts',h1,h2,h3⟩:=h
   cases ex with
   |normal=>
    obtain⟨v,h4,h5⟩:=U6 h2 h1
    rw [v3 v]at h5
    exact K8 (h3.trans h4) (rZ hT y v2 (abA sh v) h5)
   |_=>exact⟨ts',h1,h2,h3⟩
 | .loop c,an,ts,k,res,hv,hok,e=>by
  cases an with
  | lp sh L a=>
   obtain⟨v0,vn⟩:=hv
   have e:ahj p sh (L fuel) ts=some res:=e
   obtain⟨v,h1,h2⟩:=U6 hok e
   refine amf (λn s=>∃v,L n v=some res/\Le p s (enc sh v).er) (n:=fuel) ⟨v,h2,h1⟩ (λn s hI=> ?_)
   obtain⟨v,h1,h2⟩:=hI
   cases n with
   |zero=>rw [v0 v]at h1;cases h1
   | succ n=>
    obtain⟨w1,w2⟩:=vn n
    rw [w2 v]at h1
    refine K8 h2 (uO (rZ hT c w1 (abA sh v) h1) (λex st h=> ?_))
    obtain⟨ts',h3,h4,h5⟩:=h
    cases ex with
    |normal=>
     obtain⟨v',h6,h7⟩:=U6 h4 h3
     exact⟨n,Nat.lt_succ_self n,v',h7,h5.trans h6⟩
    |_=>exact⟨ts',h3,h4,h5⟩
  | un a b=>
   have main:∀(an:An β) (ts:TS),unV (λa ts k=>exec C p c a ts k) (λa k=>valid C p c a k) k an->ts.ok->unr (λa ts k=>exec C p c a ts k) k an ts=some res→
     ∀Df X w0 M0 m0 a w,Rel Df X w0 M0 m0 p C.nt ts.er a w->Code.rounds C.P c (λe a' w'=>∃st',Post p k res e st'/\Rel Df X w0 M0 m0 p C.nt st' a' w') (unD an) a w:=by
    intro an
    have:∀n,unD an=n→∀(ts:TS),unV (λa ts k=>exec C p c a ts k) (λa k=>valid C p c a k) k an->ts.ok->unr (λa ts k=>exec C p c a ts k) k an ts=some res→
     ∀Df X w0 M0 m0 a w,Rel Df X w0 M0 m0 p C.nt ts.er a w->Code.rounds C.P c (λe a' w'=>∃st',Post p k res e st'/\Rel Df X w0 M0 m0 p C.nt st' a' w') n a w:=by
     intro n
     induction n generalizing an with
     |zero=>
      intro hn ts _ _ e
      cases an with
      |un a b=>cases hn
      |_=>cases e
     | succ n ih=>
      intro hn ts hv hok e Df X w0 M0 m0 a w R
      cases an with
      |un a1 b1=>
       obtain⟨v1,v2⟩:=hv
       have hn:unD b1=n:=Nat.succ.inj hn
       have e:exec C p c a1 ts (G8 (λts'=>unr (λa ts k=>exec C p c a ts k) k b1 ts') k)=some res:=e
       refine wp_mono (rZ hT c v1 hok e Df X w0 M0 m0 a w R) (λex a' w' h=> ?_)
       obtain⟨s,⟨ts',h3,h4,h5⟩,r⟩:=h
       cases ex with
       |normal=>exact ih b1 hn ts' v2 h4 h3 Df X w0 M0 m0 a' w' (r.le h5)
       |_=>exact⟨s,⟨ts',h3,h4,h5⟩,r⟩
      |_=>cases hn
    exact this _ rfl
   intro Df X w0 M0 m0 a' w R
   exact wp_loop_rounds _ (main (.un a b) ts hv hok e Df X w0 M0 m0 a' w R)
  |_=>simp [exec]at e
end
def aoo (P:Program) (ts:TS):ResultVar->Option AV
 | .tmp t=>match look ts.σ t with
  |some (.one v)=>some v
  |_=>none
 | .cell a T=>match look ts.σ a with
  |some (.one (.s (.pb k off)))=>match lookO ts.h k with
   | .box cs=>Sw P T cs off
   |_=>none
  |_=>none
def arf (P:Program) (ts:TS):List ResultVar->Option (List AV)
 | []=>some []
 |x::r=>match aoo P ts x,arf P ts r with
  |some v,some l=>some (v::l)
  |_,_=>none
def aop:Nat->List AV->List (Nat×SV)
 |_,[]=> []
 |i,v::r=>(i,.one v)::aop (i+1) r
def ado {β:Type} (P:Program) (p:Nat) (rs:Shape) (res:List ResultVar) (u:rs.V->β):Exit->TS->Option β:=λe ts=>
 bif(match e with| .normal=>true| .ret=>true|_=>false)then reR res ts λts=>
  match arf P ts res with
  |some l=>bif Nat.beq l.length rs.slots.length then(dec rs p ⟨aop 0 l,ts.h,ts.n⟩).bind λv=>some (u v)else none
  |none=>none
 else none
theorem amA [Fuel] {P:Program} {ts:TS} (hok:ts.ok) {x:ResultVar} {v:AV} (e:aoo P ts x=some v):abv P ts.er x=some v:=by
 cases x with
 |tmp t=>exact e
 | cell a T=>
  simp only [aoo]at e
  simp only [abv]
  split at e
  ·rename_i k off hl
   rw [show look ts.er.σ a=some (.one (.s (.pb k off)))from hl]
   split at e
   ·rename_i cs hb
    simp only
    rw [akg hok k (by rw [hb];intro h;cases h),hb]
    exact e
   ·cases e
  ·cases e
theorem akE [Fuel] {P:Program} {ts:TS} (hok:ts.ok):∀{l:List ResultVar} {vs:List AV},arf P ts l=some vs->amg P ts.er l=some vs
 | [],vs,e=>e
 |x::l,vs,e=>by
  simp only [arf]at e
  simp only [amg]
  split at e
  ·rename_i v l' h1 h2;rw [amA hok h1,akE hok h2];exact e
  ·cases e
theorem aes [Fuel]:∀{l:List AV} {i x:Nat} {s:SV},look (aop i l) x=some s→∃v,l[x - i]? =some v/\s= .one v/\i<=x
 | [],i,x,s,h=>by cases h
 | v::r,i,x,s,h=>by
  simp only [aop,look]at h
  cases hb:Nat.beq i x with
  |true=>rw [hb]at h;cases h;have:=Nat.eq_of_beq_eq_true hb;subst this;exact⟨v,by simp,rfl,Nat.le_refl _⟩
  |false=>
   rw [hb]at h
   obtain⟨v',h1,h2,h3⟩:=aes h
   refine⟨v',?_,h2,by omega⟩
   have:x - i=(x - (i+1))+1:=by omega
   rw [this,List.getElem?_cons_succ];exact h1
theorem acH [Fuel]:∀{ks:List (Nat×SK)} {i:Nat} (v:VSs ks),wQ i ks=true->X5 i ((eSs ks v).map (·.2))=eSs ks v
 | [],i,v,_=>rfl
 |(x,k)::r,i,v,h=>by
  simp only [wQ,Bool.and_eq_true]at h
  have:=Nat.eq_of_beq_eq_true h.1;subst this
  simp only [eSs,List.map_cons,X5]
  rw [acH v.2 h.2]
theorem akF [Fuel] {g:Nat->bF} {h':List bF} {src:List (Option Nat)} {Z:Nat->Prop} {v:AV} {s:SV} (h:aj4 g h' src Z (.one v) s):aph g h' src Z v (anj s):=by
 cases s with
 |one a=>exact h
 |tup as'=>cases h
theorem amB [Fuel] {g:Nat->bF} {h':List bF} {src:List (Option Nat)} {Z:Nat->Prop} {l:List AV} {r0:SV} {ps:List (Nat×SV)} (hl:l.length=ps.length) (hr:(match some l with|some [v]=>some (SV.one v)|some vs=>some (.tup vs)|none=>none)=some r0)
  (hf:∀(i:Nat) s,(ps.map (·.2))[i]? =some s→∃v,l[i]? =some v/\aj4 g h' src Z (.one v) s):aj4 g h' src Z r0 (aaA ps):=by
 match l,ps,hl with
 | [],[],_=>
  simp at hr;subst hr
  exact⟨rfl,λi y hy=>by simp at hy⟩
 | [v],[(x,s)],_=>
  simp at hr;subst hr
  obtain⟨v',h1,h2⟩:=hf 0 s rfl
  simp at h1;subst h1
  exact akF h2
 | v::v2::l,p1::p2::ps,hl=>
  simp at hr;subst hr
  refine⟨by simpa [aaA]using hl,λi y hy=> ?_⟩
  have hy:((p1::p2::ps).map λp=>anj p.2)[i]? =some y:=hy
  rw [List.getElem?_map]at hy
  cases hp:(p1::p2::ps)[i]? with
  |none=>rw [hp]at hy;cases hy
  |some q=>
   rw [hp]at hy;cases hy
   obtain⟨v',h1,h2⟩:=hf i q.2 (by rw [List.getElem?_map,hp];rfl)
   exact⟨v',h1,akF h2⟩
theorem ahk [Fuel] {C:Cx} {S:aS} {fn:Func} {u:S.rs.V->S.β} (n4:wQ 0 S.rs.slots=true) (hu:∀v,eSs S.rs.slots (S.g (u v)).1=eSs S.rs.slots v.1/\eOs S.rs.objs (S.g (u v)).2=eOs S.rs.objs v.2)
  {r:S.β} {e:Exit} {st:St} {ts:TS} (h1:ado C.P S.ps.objs.length S.rs fn.results.toList u e ts=some r) (h2:ts.ok) (h3:Le S.ps.objs.length st ts.er):
  an6 C.P S.ps.objs.length fn (λr' h'=>r'=aaA (eSs S.rs.slots (S.g r).1)/\h'=(eOs S.rs.objs (S.g r).2).map TO.er) e st:=by
 unfold ado at h1
 cases he:(match e with| .normal=>true| .ret=>true|_=>false)with
 |false=>rw [he]at h1;cases h1
 | true=>
  rw [he]at h1
  simp only [cond_true]at h1
  have he':e= .normal\/e= .ret:=by cases e<;>first|(exact .inl rfl)|(exact .inr rfl)|cases he
  obtain⟨ts1,k1,k2,k3⟩:=acF (p:=S.ps.objs.length) h2 h1
  have k4:=h3.trans k2
  clear h1 h2 h3 k2
  clear ts
  revert ts1
  intro ts h2 h1 h3
  split at h1
  ·rename_i l hl
   cases hle:Nat.beq l.length S.rs.slots.length with
   |false=>rw [hle]at h1;cases h1
   | true=>
    rw [hle]at h1
    simp only [cond_true]at h1
    have hle:=Nat.eq_of_beq_eq_true hle
    obtain⟨o,h4,h5⟩:=GY h1
    cases h5
    have hres:=akE h2 hl
    obtain⟨F,FH,hs⟩:=afT (ts:=⟨aop 0 l,ts.h,ts.n⟩) (g:=mX ts.er.h) (λk _ hk=>akg h2 k hk) h4
    obtain⟨r0,hr0⟩:∃r0,apj C.P ts.er fn.results.toList=some r0:=by
     unfold apj;rw [hres]
     match l with
     | []=>exact⟨_,rfl⟩
     | [v]=>exact⟨_,rfl⟩
     |v::v2::l=>exact⟨_,rfl⟩
    refine⟨he',ts.er,h3,r0,aaA (eSs S.rs.slots (S.g (u o)).1),(eOs S.rs.objs (S.g (u o)).2).map TO.er,aiv (Y7 S.rs S.ps.objs.length ⟨aop 0 l,ts.h,ts.n⟩).om 0 S.rs.objs.length,(· ∈(Y7 S.rs S.ps.objs.length ⟨aop 0 l,ts.h,ts.n⟩).fz),hr0,?_,?_,rfl,rfl⟩
    ·rw [(hu o).2];exact FH
    ·rw [(hu o).1,(hu o).2]
     refine amB (l:=l) (by rw [Zf];exact hle) (by rw [<-hr0];unfold apj;rw [hres];rfl) (λi s hi=> ?_)
     have:=afV o.1 n4 i s hi
     rw [Nat.zero_add]at this
     obtain⟨s0,q1,q2⟩:=aco F hs i s this
     obtain⟨w,q3,rfl,_⟩:=aes q1
     exact⟨w,by simpa using q3,q2⟩
  ·cases h1
theorem akG [Fuel] {C:Cx} {S:aS} {fn:Func} {c:Code} {u:S.rs.V->S.β}
  (hgo:∀(vs:Array Value) (w:World),(callFunc S.f vs).run C.P w= .ok (.enter S.f vs) w) (hf:C.P.funcs[S.f]? =some fn) (hb:fn.body=some c)
  (hn:(Nat.beq C.nt fn.ntmps&&Nat.ble S.ps.slots.length fn.ntmps&&wQ 0 S.ps.slots&&wQ 0 S.rs.slots)=true) (hu:∀v,eSs S.rs.slots (S.g (u v)).1=eSs S.rs.slots v.1/\eOs S.rs.objs (S.g (u v)).2=eOs S.rs.objs v.2)
  (hw:∀v r,S.F v=some r->wpA C.P C.nt S.ps.objs.length c (Post S.ps.objs.length (ado C.P S.ps.objs.length S.rs fn.results.toList u) r) (enc S.ps v).er):bL C.P S:=by
 simp only [Bool.and_eq_true]at hn
 obtain⟨⟨⟨n1,n2⟩,n3⟩,n4⟩:=hn
 have n1:=Nat.eq_of_beq_eq_true n1
 refine⟨hgo,λv r hF=> ?_⟩
 have hw:=hw v r hF
 rw [akf,<-acH v.1 n3,n1]at hw
 have hlen:((eOs S.ps.objs v.2).map TO.er).length=S.ps.objs.length:=by simp [LU]
 refine ad3 hf hb (by rw [List.length_map,Zf];exact n2) ?_
 rw [hlen]
 refine uO hw (λe st h=> ?_)
 obtain⟨ts,h1,h2,h3⟩:=h
 exact ahk n4 hu h1 h2 h3
theorem arY [Fuel] {C:Cx} {S:aS} {fn:Func} {c:Code} {u:S.rs.V->S.β} (an:An S.β) (hT:∀S∈C.T,bL C.P S)
  (hgo:∀(vs:Array Value) (w:World),(callFunc S.f vs).run C.P w= .ok (.enter S.f vs) w) (hf:C.P.funcs[S.f]? =some fn) (hb:fn.body=some c)
  (hn:(Nat.beq C.nt fn.ntmps&&Nat.ble S.ps.slots.length fn.ntmps&&wQ 0 S.ps.slots&&wQ 0 S.rs.slots)=true) (hu:∀v,eSs S.rs.slots (S.g (u v)).1=eSs S.rs.slots v.1/\eOs S.rs.objs (S.g (u v)).2=eOs S.rs.objs v.2)
  (hv:valid C S.ps.objs.length c an (ado C.P S.ps.objs.length S.rs fn.results.toList u))
  (hm:∀v,S.F v=exec C S.ps.objs.length c an (enc S.ps v) (ado C.P S.ps.objs.length S.rs fn.results.toList u)):bL C.P S:=
 akG hgo hf hb hn hu (λv r hF=>rZ hT c hv (abA S.ps v) (by rw [<-hm v];exact hF))
end Go.AM
namespace Go.AM
open Go Go.RowKit Go.CP
theorem ok0 [Fuel] {P:Program}:∀S∈([]:List aS),bL P S:=λ_ h=>absurd h List.not_mem_nil
theorem okC [Fuel] {P:Program} {S:aS} {l:List aS} (h:bL P S) (t:∀S∈l,bL P S):∀S'∈S::l,bL P S':=by
 intro S' hS
 cases hS with
 |head=>exact h
 |tail _ hS=>exact t S' hS
section
variable {β:Type} {C:Cx} {p:Nat} {k:Exit->TS->Option β}
theorem vZ [Fuel] {c:Code}:valid C p c .z k:=by cases c<;>trivial
theorem vP [Fuel] {id:Nat} {ops:Array Oper} {any:Bool} {t n:Nat}:valid C p (.region id ops any) (.sp t n) k:=trivial
theorem vI [Fuel] {id:Nat} {ops:Array Oper} {any:Bool} {c:Operand} {x y z:Code} {a b:An β} (h1:valid C p x a.l (G8 (λts'=>exec C p z a.r ts' k) k)) (h2:valid C p z a.r k) (h3:valid C p y b.l (G8 (λts'=>exec C p z b.r ts' k) k)) (h4:valid C p z b.r k):valid C p (.seq (.seq (.region id ops any) (.cond c x y)) z) (.dist a b) k:=⟨⟨h1,h2⟩,h3,h4⟩
theorem vS [Fuel] {x y:Code} {a b:An β} (h1:valid C p x a (G8 (λts'=>exec C p y b ts' k) k)) (h2:valid C p y b k):valid C p (.seq x y) (.two a b) k:=(by cases x with|seq r x=>(cases r with|region _ _ _=>(cases x<;>exact⟨h1,h2⟩)|_=>exact⟨h1,h2⟩)|_=>exact⟨h1,h2⟩)
theorem vD [Fuel] {c:Operand} {x y:Code} {a b:An β} (h1:valid C p x a k) (h2:valid C p y b k):valid C p (.cond c x y) (.two a b) k:=⟨h1,h2⟩
theorem vB [Fuel] {id:Nat} {c:Code} {a:An β} (h:valid C p c a (apl id k)):valid C p (.block id c) (.one a) k:=h
theorem vC [Fuel] {x y:Code} {sh:Shape} {J:sh.V->Option β} {a b:An β} (h1:valid C p x a (G8 (ahj p sh J) k)) (h2:valid C p y b k) (h3:∀v,J v=exec C p y b (enc sh v) k:=by intro v;kernel_rfl):valid C p (.seq x y) (.cut sh J a b) k:=(by cases x with|seq r x=>(cases r with|region _ _ _=>(cases x<;>exact⟨h1,h2,h3⟩)|_=>exact⟨h1,h2,h3⟩)|_=>exact⟨h1,h2,h3⟩)
theorem vL [Fuel] {c:Code} {sh:Shape} {L:Nat->sh.V->Option β} {a:(sh.V->Option β)->An β} (h1:∀n,valid C p c (a (L n)) (G8 (ahj p sh (L n)) k))
  (h0:∀v,L 0 v=none:=by intro v;kernel_rfl) (h2:∀n v,L (n+1) v=exec C p c (a (L n)) (enc sh v) (G8 (ahj p sh (L n)) k):=by intro n v;kernel_rfl):valid C p (.loop c) (.lp sh L a) k:=⟨h0,λn=>⟨h1 n,h2 n⟩⟩
theorem vO [Fuel] {id:Nat} {ops:Array Oper} {any:Bool} {t off n:Nat}:valid C p (.region id ops any) (.sb t off n) k:=trivial
theorem vE [Fuel] {id:Nat} {ops:Array Oper} {any:Bool} {t off n:Nat}:valid C p (.region id ops any) (.ab t off n) k:=trivial
theorem vM [Fuel] {id:Nat} {ops:Array Oper} {any:Bool} {l:List (Nat×Nat×Nat)}:valid C p (.region id ops any) (.sm l) k:=trivial
theorem vG [Fuel] {id:Nat} {ops:Array Oper} {any:Bool} {l:List Nat}:valid C p (.region id ops any) (.gs l) k:=trivial
theorem vT [Fuel] {c:Operand} {x y:Code} {a:An β} (h:valid C p x a k):valid C p (.cond c x y) (.ct a) k:=h
theorem vF [Fuel] {c:Operand} {x y:Code} {a:An β} (h:valid C p y a k):valid C p (.cond c x y) (.cf a) k:=h
theorem vU [Fuel] {c:Code} {a b:An β} (h:unV (λa ts k=>exec C p c a ts k) (λa k=>valid C p c a k) k (.un a b)):valid C p (.loop c) (.un a b) k:=h
theorem vV [Fuel] {c:Code} {a b:An β} (h1:valid C p c a (G8 (λts'=>unr (λa ts k=>exec C p c a ts k) k b ts') k)) (h2:unV (λa ts k=>exec C p c a ts k) (λa k=>valid C p c a k) k b):
  unV (λa ts k=>exec C p c a ts k) (λa k=>valid C p c a k) k (.un a b):=⟨h1,h2⟩
theorem vX [Fuel] {c:Code}:unV (λa ts k=>exec C p c a ts k) (λa k=>valid C p c a k) k (.z:An β):=trivial
end
theorem fnI [Fuel] {P:Program} {S:aS} (nt:Nat) (tm:List (Nat×Ty)) (T:List aS) (V:List (Nat×Nat×Nat)) {fn:Func} (hf:P.funcs[S.f]? =some fn) (u:S.rs.V->S.β) (an:An S.β) (hT:∀S∈T,bL P S) {c:Code}
  (hv:valid ⟨P,nt,tm,T,V⟩ S.ps.objs.length c an (ado P S.ps.objs.length S.rs fn.results.toList u))
  (hb:fn.body=some c:=by rfl) (hgo:∀(vs:Array Value) (w:World),(callFunc S.f vs).run P w= .ok (.enter S.f vs) w:=by intro vs w;rfl)
  (hn:(Nat.beq nt fn.ntmps&&Nat.ble S.ps.slots.length fn.ntmps&&wQ 0 S.ps.slots&&wQ 0 S.rs.slots)=true:=by kernel_rfl) (hu:∀v,eSs S.rs.slots (S.g (u v)).1=eSs S.rs.slots v.1/\eOs S.rs.objs (S.g (u v)).2=eOs S.rs.objs v.2:=by intro v;exact⟨by kernel_rfl,by kernel_rfl⟩)
  (hm:∀v,S.F v=exec ⟨P,nt,tm,T,V⟩ S.ps.objs.length c an (enc S.ps v) (ado P S.ps.objs.length S.rs fn.results.toList u):=by intro v;kernel_rfl):bL P S:=
 arY (C:=⟨P,nt,tm,T,V⟩) an hT hgo hf hb hn hu hv hm
end Go.AM
