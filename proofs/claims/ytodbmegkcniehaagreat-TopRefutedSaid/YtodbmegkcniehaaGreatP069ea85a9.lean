/- How often a loop may go round. Whether draws are counted. -/
import Derived.WalkKit
import Derived.Orders
import Derived.KernelRfl
import Derived.MapKept
set_option linter.unusedSimpArgs false
set_option linter.unusedVariables false
namespace Go.CP
open Go
structure arB where
 n:Nat
 eq:n=18446744073709551616
 dr:Prop
abbrev Fuel:Type:=Inhabited arB
def fuel [F:Fuel]:Nat:=F.default.n
theorem lZ [F:Fuel]:fuel=18446744073709551616:=F.default.eq
def Dr [F:Fuel]:Prop:=F.default.dr
@[reducible] def adq [F:Fuel]:Fuel:=⟨⟨F.default.n,F.default.eq,True⟩⟩
end Go.CP
namespace Go
def afm (z:Int):List (Int×Int)->Int->Int
 | [],_=>z
 |(a,b)::r,n=>bif decide (a=n)then b else afm z r n
def alV:List (Int×Int)->Int->Int->List (Int×Int)
 | [],n,u=> [(n,u)]
 |(a,b)::r,n,u=>bif decide (a=n)then(n,u)::r else(a,b)::alV r n u
end Go
namespace Go.CP
open Go
def chk {α:Type} (b:Bool) (k:Option α):Option α:=bif b then k else none
def idx {α:Type} [Inhabited α] (xs:List α) (i:Int):Option α:=bif decide (0<=i/\i<(xs.length:Int))then some (xs.getD i.toNat default)else none
def ixL {α β:Type} [Inhabited α] (xs:List α) (i:Int) (k:α->Option β):Option β:=chk (decide (0<=i/\i<(xs.length:Int))) (k (xs.getD i.toNat default))
def ixG {α β:Type} [Inhabited α] (g:Bool) (xs:List α) (i:Int) (k:α->Option β):Option β:=chk (!g||decide (0<=i/\i<(xs.length:Int))) (k (xs.getD i.toNat default))
def dZ {α β:Type} (a:α) (k:α->β):β:=k a
theorem d9 {α β:Type} (b:Bool) (k:Option α) (g:α->Option β):(chk b k).bind g=chk b (k.bind g):=by cases b<;>rfl
theorem bV {α β:Type} (b:Bool) (x y:Option α) (g:α->Option β):(bif b then x else y).bind g=(bif b then x.bind g else y.bind g):=by cases b<;>rfl
theorem eu {γ α β:Type} [Inhabited γ] (xs:List γ) (i:Int) (k:γ->Option α) (g:α->Option β):(ixL xs i k).bind g=ixL xs i λx=>(k x).bind g:=d9 _ _ _
theorem eB {γ α β:Type} [Inhabited γ] (b:Bool) (xs:List γ) (i:Int) (k:γ->Option α) (g:α->Option β):(ixG b xs i k).bind g=ixG b xs i λx=>(k x).bind g:=d9 _ _ _
theorem eD {γ α β:Type} (a:γ) (k:γ->Option α) (g:α->Option β):(dZ a k).bind g=dZ a λx=>(k x).bind g:=rfl
theorem bW {γ α β:Type} (x:Option γ) (k:γ->Option α) (g:α->Option β):(x.bind k).bind g=x.bind λy=>(k y).bind g:=by cases x<;>rfl
theorem bX {α β:Type} (x:α) (g:α->Option β):(some x).bind g=g x:=rfl
theorem bY {α β:Type} (g:α->Option β):(none:Option α).bind g=none:=rfl
abbrev w64 (x:Int):Int:=IntKind.i64.wrap x
def Dk (k:IntKind) (a b:Int):Int:=k.wrap (a*2^(min b.toNat k.bits))
def oK (k:IntKind) (a b:Int):Int:=a.fdiv (2^(min b.toNat k.bits))
def jN (k:IntKind) (a b:Int):Int:=k.wrap ((BitVec.ofInt k.bits a&&&BitVec.ofInt k.bits b).toNat)
def orK (k:IntKind) (a b:Int):Int:=k.wrap ((BitVec.ofInt k.bits a|||BitVec.ofInt k.bits b).toNat)
def ajb (k:IntKind) (a b:Int):Int:=k.wrap ((BitVec.ofInt k.bits a^^^BitVec.ofInt k.bits b).toNat)
def Nr (k:IntKind) (a b:Int):Int:=k.wrap ((BitVec.ofInt k.bits a&&& ~~~ BitVec.ofInt k.bits b).toNat)
def UE (a b:Int):Int:=if a<b then b else a
def Qk (a b:Int):Int:=if b<a then b else a
def adr (s:ByteArray) (n:Int):Int:=(((s.data.toList.getD n.toNat 0).toNat:Nat):Int)
def lsp {α β:Type} (xs:List α) (k0:Option β) (k1:α->List α->Option β):Option β:=
 match xs with
 | []=>k0
 |x::r=>k1 x r
theorem agA {α β:Type} {xs:List α} {k0:Option β} {k1:α->List α->Option β} {r:β} (h:lsp xs k0 k1=some r):(xs= []/\k0=some r)∨∃x l,xs=x::l/\k1 x l=some r:=by
 cases xs with
 |nil=>exact .inl ⟨rfl,h⟩
 |cons x l=>exact .inr ⟨x,l,rfl,h⟩
abbrev room:Nat:=140737488355328
def ajc {α:Type} (lo len:Nat) (xs ys:List α):List α:=xs.take lo++(ys.take len++xs.drop (lo+min ys.length len))
theorem RG {α:Type} {b:Bool} {k:Option α} {r:α} (h:chk b k=some r):b=true/\k=some r:=by
 cases b with
 |true=>exact⟨rfl,h⟩
 |false=>cases h
theorem apw {α:Type} {q:Prop} [Decidable q] {k:Option α} {r:α} (h:chk (decide q) k=some r):q/\k=some r:=
 let⟨a,b⟩:=RG h;⟨of_decide_eq_true a,b⟩
theorem GY {α β:Type} {x:Option α} {k:α->Option β} {r:β} (h:x.bind k=some r):∃a,x=some a/\k a=some r:=by
 cases x with
 |none=>cases h
 |some a=>exact⟨a,rfl,h⟩
def alW {α:Type} [BEq α] (lt:α->α->Bool) (xs:List α):Bool:=
 xs.all λx=> !lt x x&&xs.all λy=>((lt x y||lt y x)||x==y)&&xs.all λz=>(!(lt x y&&lt y z)||lt x z)&&((lt x y||lt y z)|| !lt x z)
structure apx {α:Type} (lt:α->α->Bool) (xs:List α):Prop where
 irr:∀x∈xs,lt x x=false
 tr:∀x∈xs,∀y∈xs,∀z∈xs,lt x y=true->lt y z=true->lt x z=true
 nt:∀x∈xs,∀y∈xs,∀z∈xs,lt x y=false->lt y z=false->lt x z=false
 tot:∀x∈xs,∀y∈xs,lt x y=false->lt y x=false->x=y
def ltM {α:Type} (cmp:α->α->Option Int) (x y:α):Bool:=decide ((cmp x y).getD 0<0)
def abX {α:Type} [BEq α] (cmp:α->α->Option Int) (xs:List α):Option (List α):=
 chk (decide (xs.length<4611686018427387904)) (chk (xs.all λx=>xs.all λy=>(cmp x y).isSome) (chk (alW (ltM cmp) xs) (some (xs.mergeSort λx y=> !ltM cmp y x))))
theorem alX {α:Type} [BEq α] [LawfulBEq α] {lt:α->α->Bool} {xs:List α} (h:alW lt xs=true):apx lt xs:=by
 unfold alW at h
 rw [List.all_eq_true]at h
 have h1:∀x∈xs,lt x x=false:=λx hx=>by
  have:=h x hx
  rw [Bool.and_eq_true]at this
  simpa using this.1
 have h2:∀x∈xs,∀y∈xs,((lt x y||lt y x)||x==y)=true∧∀z∈xs,((!(lt x y&&lt y z)||lt x z)&&((lt x y||lt y z)|| !lt x z))=true:=λx hx y hy=>by
  have:=h x hx
  rw [Bool.and_eq_true,List.all_eq_true]at this
  have:=this.2 y hy
  rw [Bool.and_eq_true,List.all_eq_true]at this
  exact this
 refine⟨h1,λx hx y hy z hz a b=> ?_,λx hx y hy z hz a b=> ?_,λx hx y hy a b=> ?_⟩
 ·have:=(h2 x hx y hy).2 z hz
  rw [a,b]at this
  simpa using this
 ·have:=(h2 x hx y hy).2 z hz
  rw [a,b]at this
  simpa using this
 ·have:=(h2 x hx y hy).1
  rw [a,b]at this
  simpa using this
theorem aa8 {α:Type} [BEq α] [LawfulBEq α] {cmp:α->α->Option Int} {xs l:List α} (h:abX cmp xs=some l):
  xs.length<4611686018427387904/\(∀x∈xs,∀y∈xs,∃q,cmp x y=some q)/\apx (ltM cmp) xs/\l=xs.mergeSort λx y=> !ltM cmp y x:=by
 unfold abX at h
 obtain⟨a1,h⟩:=apw h
 obtain⟨a2,h⟩:=RG h
 obtain⟨a3,h⟩:=RG h
 rw [List.all_eq_true]at a2
 refine⟨a1,λx hx y hy=> ?_,alX a3,(Option.some.inj h).symm⟩
 have:=a2 x hx
 rw [List.all_eq_true]at this
 exact Option.isSome_iff_exists.1 (this y hy)
def pwB {α:Type} (lt:α->α->Bool):List α->Bool
 | []=>true
 |x::r=>r.all (λy=>lt x y||lt y x)&&pwB lt r
def am5 {α:Type} (lt:α->α->Bool) (xs:List α):Bool:=
 pwB lt xs&&xs.all λx=> !lt x x&&xs.all λy=>xs.all λz=>(!(lt x y&&lt y z)||lt x z)&&((lt x y||lt y z)|| !lt x z)
def ajp {α:Type} (cmp:α->α->Option Int) (xs:List α):Option (List α):=
 chk (decide (xs.length<4611686018427387904)) (chk (xs.all λx=>xs.all λy=>(cmp x y).isSome) (chk (am5 (ltM cmp) xs) (some (xs.mergeSort λx y=> !ltM cmp y x))))
theorem ajq {α:Type} {lt:α->α->Bool}:∀{xs:List α},pwB lt xs=true→∀x∈xs,∀y∈xs,lt x y=false->lt y x=false->x=y
 | [],_,x,hx,_,_,_,_=>absurd hx List.not_mem_nil
 | a::r,h,x,hx,y,hy,h1,h2=>by
  rw [pwB,Bool.and_eq_true,List.all_eq_true]at h
  rcases List.mem_cons.1 hx with ex|hx
  ·rcases List.mem_cons.1 hy with ey|hy
   ·rw [ex,ey]
   ·have:=h.1 y hy
    rw [<-ex,h1,h2]at this;cases this
  ·rcases List.mem_cons.1 hy with ey|hy
   ·have:=h.1 x hx
    rw [<-ey,h1,h2]at this;cases this
   ·exact ajq h.2 x hx y hy h1 h2
theorem ahS {α:Type} {cmp:α->α->Option Int} {xs l:List α} (h:ajp cmp xs=some l):
  xs.length<4611686018427387904/\(∀x∈xs,∀y∈xs,∃q,cmp x y=some q)/\apx (ltM cmp) xs/\l=xs.mergeSort λx y=> !ltM cmp y x:=by
 unfold ajp at h
 obtain⟨a1,h⟩:=apw h
 obtain⟨a2,h⟩:=RG h
 obtain⟨a3,h⟩:=RG h
 rw [List.all_eq_true]at a2
 unfold am5 at a3
 rw [Bool.and_eq_true,List.all_eq_true]at a3
 obtain⟨b1,b2⟩:=a3
 have h1:∀x∈xs,ltM cmp x x=false:=λx hx=>by
  have:=b2 x hx
  rw [Bool.and_eq_true]at this
  simpa using this.1
 have h2:∀x∈xs,∀y∈xs,∀z∈xs,((!(ltM cmp x y&&ltM cmp y z)||ltM cmp x z)&&((ltM cmp x y||ltM cmp y z)|| !ltM cmp x z))=true:=λx hx y hy z hz=>by
  have:=b2 x hx
  rw [Bool.and_eq_true,List.all_eq_true]at this
  have:=this.2 y hy
  rw [List.all_eq_true]at this
  exact this z hz
 refine⟨a1,λx hx y hy=> ?_,⟨h1,λx hx y hy z hz a b=> ?_,λx hx y hy z hz a b=> ?_,ajq b1⟩,(Option.some.inj h).symm⟩
 ·have:=a2 x hx
  rw [List.all_eq_true]at this
  exact Option.isSome_iff_exists.1 (this y hy)
 ·have:=h2 x hx y hy z hz
  rw [a,b]at this
  simpa using this
 ·have:=h2 x hx y hy z hz
  rw [a,b]at this
  simpa using this
end Go.CP
namespace Go.CP
open Go
structure aK where
 Home:Int
 aN:Int
 deriving Inhabited
structure aI where
 Rule:Int
 aD:Int
 Other:Int
 Cell:Int
 Region:Int
 deriving Inhabited
structure dQ where
 Kind:Int
 Var:Int
 Set:Int
 jE:aI
 deriving Inhabited
structure eG where
 Places:(List aK)
 Tree:(List dQ)
 deriving Inhabited
structure dn where
 Region:Int
 deriving Inhabited
structure cu where
 Zone:Int
 kV:Int
 deriving Inhabited
structure aW where
 Load:Int
 pR:Int
 Priority:Int
 Lag:Int
 Allowed:Int
 sO:Int
 LM:Bool
 deriving Inhabited
structure aY where
 Low:Int
 High:Int
 deriving Inhabited
structure ak where
 bK:Int
 kW:(List dn)
 Cells:(List cu)
 ah:(List aW)
 bf:(List aY)
 bO:(List Int)
 cO:(List Int)
 BM:Int
 Lease:Int
 Uz:Int
 deriving Inhabited
structure aZ where
 data:(List Int)
 afn:Int
 deriving Inhabited
structure aA where
 Kind:Int
 Tick:Int
 aD:Int
 Cell:Int
 Other:Int
 Epoch:Int
 From:Int
 Until:Int
 N:Int
 deriving Inhabited
structure aG where
 Term:Int
 Entry:aA
 deriving Inhabited
structure aJ where
 uw:aZ
 term:Int
 RH:Int
 log:(List aG)
 deriving Inhabited
structure xV where
 e0:Int
 e1:Int
 e2:Int
 e3:Int
 e4:Int
 deriving Inhabited
structure aj where
 aQ:aJ
 id:Int
 n:Int
 role:Int
 commit:Int
 Di:Int
 next:xV
 match_:xV
 deriving Inhabited
structure aC where
 Kind:Int
 From:Int
 To:Int
 Term:Int
 Index:Int
 rC:Int
 Tf:Int
 OK:Bool
 Entries:(List aG)
 deriving Inhabited
structure aL where
 au:(List aj)
 net:(List aC)
 committed:(List aA)
 deriving Inhabited
structure aT where
 Cell:Int
 Epoch:Int
 Version:Int
 From:Int
 Until:Int
 deriving Inhabited
structure ay where
 Placed:Bool
 Ap:Bool
 Home:Int
 aN:Int
 Next:Int
 Target:Int
 Epoch:Int
 Window:aT
 deriving Inhabited
structure aH where
 Mode:Int
 Running:Int
 Wanted:Int
 Since:Int
 deriving Inhabited
structure aB where
 Tick:Int
 Count:Int
 ah:(List ay)
 Cells:(List aH)
 jY:Int
 bg:Int
 Low:Int
 High:Int
 deriving Inhabited
structure aV where
 config:ak
 net:aL
 up:Int
 state:aB
 deriving Inhabited
structure aU where
 Epoch:Int
 Seq:Int
 Kind:Int
 Client:Int
 Number:Int
 Item:Int
 Key:ByteArray
 Value:ByteArray
 deriving Inhabited
structure dM where
 values:(List (Value×Value))
 deriving Inhabited
structure bP where
 Number:Int
 Value:ByteArray
 deriving Inhabited
structure bH where
 Item:Int
 Client:Int
 Epoch:Int
 Until:Int
 deriving Inhabited
structure aO where
 items:(List bP)
 Dl:(List bH)
 greatest:Int
 deriving Inhabited
structure eP where
 Err:Int
 Seq:Int
 Item:Int
 Value:ByteArray
 deriving Inhabited
structure bQ where
 number:Int
 reply:eP
 deriving Inhabited
structure eT where
 e0:bQ
 e1:bQ
 e2:bQ
 e3:bQ
 e4:bQ
 e5:bQ
 e6:bQ
 e7:bQ
 deriving Inhabited
structure aM where
 sessions:eT
 deriving Inhabited
structure oL where
 Store:dM
 Queue:aO
 Table:aM
 deriving Inhabited
structure bU where
 cell:Int
 closed:Int
 windows:(List aT)
 deriving Inhabited
structure dN where
 cell:Int
 xC:Int
 history:(List aU)
 now:oL
 gate:bU
 deriving Inhabited
structure bE where
 aD:Int
 Index:Int
 Window:aT
 deriving Inhabited
structure mq where
 aD:Int
 Tick:Int
 Cell:Int
 Epoch:Int
 Version:Int
 deriving Inhabited
structure xW where
 c:ak
 p:aV
 copies:(List (List dN))
 granted:(List bE)
 served:(List mq)
 tick:Int
 deriving Inhabited
structure fG where
 tenants:Int
 cells:Int
 regions:Int
 versions:Int
 deriving Inhabited
structure dD where
 low:Int
 high:Int
 deriving Inhabited
structure dR where
 xC:dD
 cell:dD
 other:dD
 epoch:dD
 ticks:dD
 n:dD
 deriving Inhabited
structure gF where
 Kind:Int
 Who:Int
 N:Int
 Entry:aA
 deriving Inhabited
structure bJ where
 aD:Int
 Client:Int
 Number:Int
 Op:Int
 Item:Int
 Key:ByteArray
 Value:ByteArray
 deriving Inhabited
structure aP where
 L:(List Int)
 At:Int
 deriving Inhabited
structure aF where
 Config:ak
 Cells:Int
 Gd:Bool
 deriving Inhabited
structure bB where
 problem:aF
 vars:(List Int)
 places:(List aK)
 tree:(List dQ)
 count:Int
 deriving Inhabited
structure bM where
 load:Int
 reach:Int
 deriving Inhabited
structure aX where
 problem:aF
 places:(List aK)
 tree:(List dQ)
 at_:Int
 deriving Inhabited
inductive N where
 |aK
 |aI
 |dQ
 |eG
 |dn
 |cu
 |aW
 |aY
 |ak
 |aZ
 |aA
 |aG
 |xV
 |aC
 |aT
 |ay
 |aH
 |aB
 |aU
 |bP
 |bH
 |aO
 |eP
 |bQ
 |eT
 |aM
 |bU
 |bE
 |mq
 |fG
 |dD
 |dR
 |gF
 |bJ
 |aP
 |aF
 |bB
 |bM
 |aX
 deriving DecidableEq
def T:N->Type
 | .aK=>aK
 | .aI=>aI
 | .dQ=>dQ
 | .eG=>eG
 | .dn=>dn
 | .cu=>cu
 | .aW=>aW
 | .aY=>aY
 | .ak=>ak
 | .aZ=>aZ
 | .aA=>aA
 | .aG=>aG
 | .xV=>xV
 | .aC=>aC
 | .aT=>aT
 | .ay=>ay
 | .aH=>aH
 | .aB=>aB
 | .aU=>aU
 | .bP=>bP
 | .bH=>bH
 | .aO=>aO
 | .eP=>eP
 | .bQ=>bQ
 | .eT=>eT
 | .aM=>aM
 | .bU=>bU
 | .bE=>bE
 | .mq=>mq
 | .fG=>fG
 | .dD=>dD
 | .dR=>dR
 | .gF=>gF
 | .bJ=>bJ
 | .aP=>aP
 | .aF=>aF
 | .bB=>bB
 | .bM=>bM
 | .aX=>aX
instance atJ:(k:N)->Inhabited (T k)
 | .aK=>(inferInstance:Inhabited aK)
 | .aI=>(inferInstance:Inhabited aI)
 | .dQ=>(inferInstance:Inhabited dQ)
 | .eG=>(inferInstance:Inhabited eG)
 | .dn=>(inferInstance:Inhabited dn)
 | .cu=>(inferInstance:Inhabited cu)
 | .aW=>(inferInstance:Inhabited aW)
 | .aY=>(inferInstance:Inhabited aY)
 | .ak=>(inferInstance:Inhabited ak)
 | .aZ=>(inferInstance:Inhabited aZ)
 | .aA=>(inferInstance:Inhabited aA)
 | .aG=>(inferInstance:Inhabited aG)
 | .xV=>(inferInstance:Inhabited xV)
 | .aC=>(inferInstance:Inhabited aC)
 | .aT=>(inferInstance:Inhabited aT)
 | .ay=>(inferInstance:Inhabited ay)
 | .aH=>(inferInstance:Inhabited aH)
 | .aB=>(inferInstance:Inhabited aB)
 | .aU=>(inferInstance:Inhabited aU)
 | .bP=>(inferInstance:Inhabited bP)
 | .bH=>(inferInstance:Inhabited bH)
 | .aO=>(inferInstance:Inhabited aO)
 | .eP=>(inferInstance:Inhabited eP)
 | .bQ=>(inferInstance:Inhabited bQ)
 | .eT=>(inferInstance:Inhabited eT)
 | .aM=>(inferInstance:Inhabited aM)
 | .bU=>(inferInstance:Inhabited bU)
 | .bE=>(inferInstance:Inhabited bE)
 | .mq=>(inferInstance:Inhabited mq)
 | .fG=>(inferInstance:Inhabited fG)
 | .dD=>(inferInstance:Inhabited dD)
 | .dR=>(inferInstance:Inhabited dR)
 | .gF=>(inferInstance:Inhabited gF)
 | .bJ=>(inferInstance:Inhabited bJ)
 | .aP=>(inferInstance:Inhabited aP)
 | .aF=>(inferInstance:Inhabited aF)
 | .bB=>(inferInstance:Inhabited bB)
 | .bM=>(inferInstance:Inhabited bM)
 | .aX=>(inferInstance:Inhabited aX)
inductive Ty where
 |i (k:IntKind)
 |b
 |s
 |n (k:N)
 |l (t:Ty)
 deriving DecidableEq
def den:Ty->Type
 | .i _=>Int
 | .b=>Bool
 | .s=>ByteArray
 | .n k=>T k
 | .l t=>List (den t)
instance auk:(t:Ty)->Inhabited (den t)
 | .i _=>(inferInstance:Inhabited Int)
 | .b=>(inferInstance:Inhabited Bool)
 | .s=>(inferInstance:Inhabited ByteArray)
 | .n k=>atJ k
 | .l t=>⟨([]:List (den t))⟩
end Go.CP
namespace Go.AM
open Go Go.RowKit Go.CP
inductive CV where
 |val (v:Value)
 |e0
 |rd (z n:Nat) (f:Nat->List CV)
 |ls (t:Ty) (xs:List (den t))
 |lsn (t:Ty) (xs:List (den t))
def anU (k:IntKind) (x:Int):List CV:= [.val (.int k x)]
def apy (x:Bool):List CV:= [.val (.bool x)]
def arC (x:ByteArray):List CV:= [.val (.string x)]
def abY:(t:Ty)->den t->CV
 | .i k,x=> .val (.int k x)
 | .b,x=> .val (.bool x)
 | .s,x=> .val (.string x)
 | .n _,_=> .e0
 | .l t,xs=> .ls t xs
def ahT:List Ty->Type
 | []=>Unit
 |t::r=>den t×ahT r
def adl:(ts:List Ty)->ahT ts->List CV
 | [],_=> []
 |t::r,v=>abY t v.1::adl r v.2
end Go.AM
namespace Go.CP
open Go Go.AM
abbrev vI (x:Int):CV:= .val (.int .i64 x)
abbrev tI:Ty:= .i .i64
def aa9 (s:aK):List CV:= [vI s.Home,vI s.aN]
def YH (s:aI):List CV:= [vI s.Rule,vI s.aD,vI s.Other,vI s.Cell,vI s.Region]
def ads (s:dQ):List CV:= [vI s.Kind,vI s.Var,vI s.Set,vI s.jE.Rule,vI s.jE.aD,vI s.jE.Other,vI s.jE.Cell,vI s.jE.Region]
def YI (s:eG):List CV:= [.ls (.n .aK) s.Places,.ls (.n .dQ) s.Tree]
def ajr (s:dn):List CV:= [vI s.Region]
def ajs (s:cu):List CV:= [vI s.Zone,vI s.kV]
def afo (s:aW):List CV:= [vI s.Load,vI s.pR,vI s.Priority,vI s.Lag,vI s.Allowed,vI s.sO,.val (.bool s.LM)]
def adt (s:aY):List CV:= [vI s.Low,vI s.High]
def afp (s:ak):List CV:= [vI s.bK,.ls (.n .dn) s.kW,.ls (.n .cu) s.Cells,.ls (.n .aW) s.ah,.ls (.n .aY) s.bf,.ls (.i .i64) s.bO,.ls (.i .i64) s.cO,vI s.BM,vI s.Lease,vI s.Uz]
def ahU (s:aZ):List CV:= [.ls (.i .u8) s.data,vI s.afn]
def ahV (s:aA):List CV:= [vI s.Kind,vI s.Tick,vI s.aD,vI s.Cell,vI s.Other,vI s.Epoch,vI s.From,vI s.Until,vI s.N]
def afq (s:aG):List CV:= [vI s.Term,vI s.Entry.Kind,vI s.Entry.Tick,vI s.Entry.aD,vI s.Entry.Cell,vI s.Entry.Other,vI s.Entry.Epoch,vI s.Entry.From,vI s.Entry.Until,vI s.Entry.N]
def ajt (s:xV):List CV:= [vI s.e0,vI s.e1,vI s.e2,vI s.e3,vI s.e4]
def adu (s:aC):List CV:= [vI s.Kind,vI s.From,vI s.To,vI s.Term,vI s.Index,vI s.rC,vI s.Tf,.val (.bool s.OK),.ls (.n .aG) s.Entries]
def afr (s:aT):List CV:= [vI s.Cell,vI s.Epoch,vI s.Version,vI s.From,vI s.Until]
def XY (s:ay):List CV:= [.val (.bool s.Placed),.val (.bool s.Ap),vI s.Home,vI s.aN,vI s.Next,vI s.Target,vI s.Epoch,vI s.Window.Cell,vI s.Window.Epoch,vI s.Window.Version,vI s.Window.From,vI s.Window.Until]
def aas (s:aH):List CV:= [vI s.Mode,vI s.Running,vI s.Wanted,vI s.Since]
def ahW (s:aB):List CV:= [vI s.Tick,vI s.Count,.ls (.n .ay) s.ah,.ls (.n .aH) s.Cells,vI s.jY,vI s.bg,vI s.Low,vI s.High]
def afs (s:aU):List CV:= [vI s.Epoch,vI s.Seq,vI s.Kind,vI s.Client,vI s.Number,vI s.Item,.val (.string s.Key),.val (.string s.Value)]
def aju (s:bP):List CV:= [vI s.Number,.val (.string s.Value)]
def ahX (s:bH):List CV:= [vI s.Item,vI s.Client,vI s.Epoch,vI s.Until]
def adv (s:aO):List CV:= [.ls (.n .bP) s.items,.ls (.n .bH) s.Dl,vI s.greatest]
def ahY (s:eP):List CV:= [vI s.Err,vI s.Seq,vI s.Item,.val (.string s.Value)]
def XZ (s:bQ):List CV:= [vI s.number,vI s.reply.Err,vI s.reply.Seq,vI s.reply.Item,.val (.string s.reply.Value)]
def Sq (s:eT):List CV:= [vI s.e0.number,vI s.e0.reply.Err,vI s.e0.reply.Seq,vI s.e0.reply.Item,.val (.string s.e0.reply.Value),vI s.e1.number,vI s.e1.reply.Err,vI s.e1.reply.Seq,vI s.e1.reply.Item,.val (.string s.e1.reply.Value),vI s.e2.number,vI s.e2.reply.Err,vI s.e2.reply.Seq,vI s.e2.reply.Item,.val (.string s.e2.reply.Value),vI s.e3.number,vI s.e3.reply.Err,vI s.e3.reply.Seq,vI s.e3.reply.Item,.val (.string s.e3.reply.Value),vI s.e4.number,vI s.e4.reply.Err,vI s.e4.reply.Seq,vI s.e4.reply.Item,.val (.string s.e4.reply.Value),vI s.e5.number,vI s.e5.reply.Err,vI s.e5.reply.Seq,vI s.e5.reply.Item,.val (.string s.e5.reply.Value),vI s.e6.number,vI s.e6.reply.Err,vI s.e6.reply.Seq,vI s.e6.reply.Item,.val (.string s.e6.reply.Value),vI s.e7.number,vI s.e7.reply.Err,vI s.e7.reply.Seq,vI s.e7.reply.Item,.val (.string s.e7.reply.Value)]
def aat (s:aM):List CV:= [vI s.sessions.e0.number,vI s.sessions.e0.reply.Err,vI s.sessions.e0.reply.Seq,vI s.sessions.e0.reply.Item,.val (.string s.sessions.e0.reply.Value),vI s.sessions.e1.number,vI s.sessions.e1.reply.Err,vI s.sessions.e1.reply.Seq,vI s.sessions.e1.reply.Item,.val (.string s.sessions.e1.reply.Value),vI s.sessions.e2.number,vI s.sessions.e2.reply.Err,vI s.sessions.e2.reply.Seq,vI s.sessions.e2.reply.Item,.val (.string s.sessions.e2.reply.Value),vI s.sessions.e3.number,vI s.sessions.e3.reply.Err,vI s.sessions.e3.reply.Seq,vI s.sessions.e3.reply.Item,.val (.string s.sessions.e3.reply.Value),vI s.sessions.e4.number,vI s.sessions.e4.reply.Err,vI s.sessions.e4.reply.Seq,vI s.sessions.e4.reply.Item,.val (.string s.sessions.e4.reply.Value),vI s.sessions.e5.number,vI s.sessions.e5.reply.Err,vI s.sessions.e5.reply.Seq,vI s.sessions.e5.reply.Item,.val (.string s.sessions.e5.reply.Value),vI s.sessions.e6.number,vI s.sessions.e6.reply.Err,vI s.sessions.e6.reply.Seq,vI s.sessions.e6.reply.Item,.val (.string s.sessions.e6.reply.Value),vI s.sessions.e7.number,vI s.sessions.e7.reply.Err,vI s.sessions.e7.reply.Seq,vI s.sessions.e7.reply.Item,.val (.string s.sessions.e7.reply.Value)]
def ahZ (s:bU):List CV:= [vI s.cell,vI s.closed,.ls (.n .aT) s.windows]
def adw (s:bE):List CV:= [vI s.aD,vI s.Index,vI s.Window.Cell,vI s.Window.Epoch,vI s.Window.Version,vI s.Window.From,vI s.Window.Until]
def aft (s:mq):List CV:= [vI s.aD,vI s.Tick,vI s.Cell,vI s.Epoch,vI s.Version]
def abZ (s:fG):List CV:= [vI s.tenants,vI s.cells,vI s.regions,vI s.versions]
def afu (s:dD):List CV:= [vI s.low,vI s.high]
def afv (s:dR):List CV:= [vI s.xC.low,vI s.xC.high,vI s.cell.low,vI s.cell.high,vI s.other.low,vI s.other.high,vI s.epoch.low,vI s.epoch.high,vI s.ticks.low,vI s.ticks.high,vI s.n.low,vI s.n.high]
def afw (s:gF):List CV:= [vI s.Kind,vI s.Who,vI s.N,vI s.Entry.Kind,vI s.Entry.Tick,vI s.Entry.aD,vI s.Entry.Cell,vI s.Entry.Other,vI s.Entry.Epoch,vI s.Entry.From,vI s.Entry.Until,vI s.Entry.N]
def adx (s:bJ):List CV:= [vI s.aD,vI s.Client,vI s.Number,vI s.Op,vI s.Item,.val (.string s.Key),.val (.string s.Value)]
def ah0 (s:aP):List CV:= [.ls (.i .i64) s.L,vI s.At]
def ady (s:aF):List CV:= [vI s.Config.bK,.ls (.n .dn) s.Config.kW,.ls (.n .cu) s.Config.Cells,.ls (.n .aW) s.Config.ah,.ls (.n .aY) s.Config.bf,.ls (.i .i64) s.Config.bO,.ls (.i .i64) s.Config.cO,vI s.Config.BM,vI s.Config.Lease,vI s.Config.Uz,vI s.Cells,.val (.bool s.Gd)]
def ab0 (s:bB):List CV:= [vI s.problem.Config.bK,.ls (.n .dn) s.problem.Config.kW,.ls (.n .cu) s.problem.Config.Cells,.ls (.n .aW) s.problem.Config.ah,.ls (.n .aY) s.problem.Config.bf,.ls (.i .i64) s.problem.Config.bO,.ls (.i .i64) s.problem.Config.cO,vI s.problem.Config.BM,vI s.problem.Config.Lease,vI s.problem.Config.Uz,vI s.problem.Cells,.val (.bool s.problem.Gd),.ls (.i .i64) s.vars,.ls (.n .aK) s.places,.ls (.n .dQ) s.tree,vI s.count]
def ab1 (s:bM):List CV:= [vI s.load,vI s.reach]
def adz (s:aX):List CV:= [vI s.problem.Config.bK,.ls (.n .dn) s.problem.Config.kW,.ls (.n .cu) s.problem.Config.Cells,.ls (.n .aW) s.problem.Config.ah,.ls (.n .aY) s.problem.Config.bf,.ls (.i .i64) s.problem.Config.bO,.ls (.i .i64) s.problem.Config.cO,vI s.problem.Config.BM,vI s.problem.Config.Lease,vI s.problem.Config.Uz,vI s.problem.Cells,.val (.bool s.problem.Gd),.ls (.n .aK) s.places,.ls (.n .dQ) s.tree,vI s.at_]
def wdN:N->Nat
 | .aK=>2
 | .aI=>5
 | .dQ=>8
 | .eG=>2
 | .dn=>1
 | .cu=>2
 | .aW=>7
 | .aY=>2
 | .ak=>10
 | .aZ=>2
 | .aA=>9
 | .aG=>10
 | .xV=>5
 | .aC=>9
 | .aT=>5
 | .ay=>12
 | .aH=>4
 | .aB=>8
 | .aU=>8
 | .bP=>2
 | .bH=>4
 | .aO=>3
 | .eP=>4
 | .bQ=>5
 | .eT=>40
 | .aM=>40
 | .bU=>3
 | .bE=>7
 | .mq=>5
 | .fG=>4
 | .dD=>2
 | .dR=>12
 | .gF=>12
 | .bJ=>7
 | .aP=>2
 | .aF=>12
 | .bB=>16
 | .bM=>2
 | .aX=>15
def Jz:(k:N)->T k->List CV
 | .aK=>aa9
 | .aI=>YH
 | .dQ=>ads
 | .eG=>YI
 | .dn=>ajr
 | .cu=>ajs
 | .aW=>afo
 | .aY=>adt
 | .ak=>afp
 | .aZ=>ahU
 | .aA=>ahV
 | .aG=>afq
 | .xV=>ajt
 | .aC=>adu
 | .aT=>afr
 | .ay=>XY
 | .aH=>aas
 | .aB=>ahW
 | .aU=>afs
 | .bP=>aju
 | .bH=>ahX
 | .aO=>adv
 | .eP=>ahY
 | .bQ=>XZ
 | .eT=>Sq
 | .aM=>aat
 | .bU=>ahZ
 | .bE=>adw
 | .mq=>aft
 | .fG=>abZ
 | .dD=>afu
 | .dR=>afv
 | .gF=>afw
 | .bJ=>adx
 | .aP=>ah0
 | .aF=>ady
 | .bB=>ab0
 | .bM=>ab1
 | .aX=>adz
theorem Yu:(k:N)->(x:T k)->(Jz k x).length=wdN k:=by intro k;cases k<;>intro _<;>rfl
def lvN:N->List Ty
 | .aK=> [tI,tI]
 | .aI=> [tI,tI,tI,tI,tI]
 | .dQ=> [tI,tI,tI,tI,tI,tI,tI,tI]
 | .eG=> [(.l (.n .aK)),(.l (.n .dQ))]
 | .dn=> [tI]
 | .cu=> [tI,tI]
 | .aW=> [tI,tI,tI,tI,tI,tI,.b]
 | .aY=> [tI,tI]
 | .ak=> [tI,(.l (.n .dn)),(.l (.n .cu)),(.l (.n .aW)),(.l (.n .aY)),(.l (.i .i64)),(.l (.i .i64)),tI,tI,tI]
 | .aZ=> [(.l (.i .u8)),tI]
 | .aA=> [tI,tI,tI,tI,tI,tI,tI,tI,tI]
 | .aG=> [tI,tI,tI,tI,tI,tI,tI,tI,tI,tI]
 | .xV=> [tI,tI,tI,tI,tI]
 | .aC=> [tI,tI,tI,tI,tI,tI,tI,.b,(.l (.n .aG))]
 | .aT=> [tI,tI,tI,tI,tI]
 | .ay=> [.b,.b,tI,tI,tI,tI,tI,tI,tI,tI,tI,tI]
 | .aH=> [tI,tI,tI,tI]
 | .aB=> [tI,tI,(.l (.n .ay)),(.l (.n .aH)),tI,tI,tI,tI]
 | .aU=> [tI,tI,tI,tI,tI,tI,.s,.s]
 | .bP=> [tI,.s]
 | .bH=> [tI,tI,tI,tI]
 | .aO=> [(.l (.n .bP)),(.l (.n .bH)),tI]
 | .eP=> [tI,tI,tI,.s]
 | .bQ=> [tI,tI,tI,tI,.s]
 | .eT=> [tI,tI,tI,tI,.s,tI,tI,tI,tI,.s,tI,tI,tI,tI,.s,tI,tI,tI,tI,.s,tI,tI,tI,tI,.s,tI,tI,tI,tI,.s,tI,tI,tI,tI,.s,tI,tI,tI,tI,.s]
 | .aM=> [tI,tI,tI,tI,.s,tI,tI,tI,tI,.s,tI,tI,tI,tI,.s,tI,tI,tI,tI,.s,tI,tI,tI,tI,.s,tI,tI,tI,tI,.s,tI,tI,tI,tI,.s,tI,tI,tI,tI,.s]
 | .bU=> [tI,tI,(.l (.n .aT))]
 | .bE=> [tI,tI,tI,tI,tI,tI,tI]
 | .mq=> [tI,tI,tI,tI,tI]
 | .fG=> [tI,tI,tI,tI]
 | .dD=> [tI,tI]
 | .dR=> [tI,tI,tI,tI,tI,tI,tI,tI,tI,tI,tI,tI]
 | .gF=> [tI,tI,tI,tI,tI,tI,tI,tI,tI,tI,tI,tI]
 | .bJ=> [tI,tI,tI,tI,tI,.s,.s]
 | .aP=> [(.l (.i .i64)),tI]
 | .aF=> [tI,(.l (.n .dn)),(.l (.n .cu)),(.l (.n .aW)),(.l (.n .aY)),(.l (.i .i64)),(.l (.i .i64)),tI,tI,tI,tI,.b]
 | .bB=> [tI,(.l (.n .dn)),(.l (.n .cu)),(.l (.n .aW)),(.l (.n .aY)),(.l (.i .i64)),(.l (.i .i64)),tI,tI,tI,tI,.b,(.l (.i .i64)),(.l (.n .aK)),(.l (.n .dQ)),tI]
 | .bM=> [tI,tI]
 | .aX=> [tI,(.l (.n .dn)),(.l (.n .cu)),(.l (.n .aW)),(.l (.n .aY)),(.l (.i .i64)),(.l (.i .i64)),tI,tI,tI,tI,.b,(.l (.n .aK)),(.l (.n .dQ)),tI]
def mkN:(k:N)->ahT (lvN k)->T k
 | .aK=>λv=>(⟨v.1,v.2.1⟩:aK)
 | .aI=>λv=>(⟨v.1,v.2.1,v.2.2.1,v.2.2.2.1,v.2.2.2.2.1⟩:aI)
 | .dQ=>λv=>(⟨v.1,v.2.1,v.2.2.1,⟨v.2.2.2.1,v.2.2.2.2.1,v.2.2.2.2.2.1,v.2.2.2.2.2.2.1,v.2.2.2.2.2.2.2.1⟩⟩:dQ)
 | .eG=>λv=>(⟨v.1,v.2.1⟩:eG)
 | .dn=>λv=>(⟨v.1⟩:dn)
 | .cu=>λv=>(⟨v.1,v.2.1⟩:cu)
 | .aW=>λv=>(⟨v.1,v.2.1,v.2.2.1,v.2.2.2.1,v.2.2.2.2.1,v.2.2.2.2.2.1,v.2.2.2.2.2.2.1⟩:aW)
 | .aY=>λv=>(⟨v.1,v.2.1⟩:aY)
 | .ak=>λv=>(⟨v.1,v.2.1,v.2.2.1,v.2.2.2.1,v.2.2.2.2.1,v.2.2.2.2.2.1,v.2.2.2.2.2.2.1,v.2.2.2.2.2.2.2.1,v.2.2.2.2.2.2.2.2.1,v.2.2.2.2.2.2.2.2.2.1⟩:ak)
 | .aZ=>λv=>(⟨v.1,v.2.1⟩:aZ)
 | .aA=>λv=>(⟨v.1,v.2.1,v.2.2.1,v.2.2.2.1,v.2.2.2.2.1,v.2.2.2.2.2.1,v.2.2.2.2.2.2.1,v.2.2.2.2.2.2.2.1,v.2.2.2.2.2.2.2.2.1⟩:aA)
 | .aG=>λv=>(⟨v.1,⟨v.2.1,v.2.2.1,v.2.2.2.1,v.2.2.2.2.1,v.2.2.2.2.2.1,v.2.2.2.2.2.2.1,v.2.2.2.2.2.2.2.1,v.2.2.2.2.2.2.2.2.1,v.2.2.2.2.2.2.2.2.2.1⟩⟩:aG)
 | .xV=>λv=>(⟨v.1,v.2.1,v.2.2.1,v.2.2.2.1,v.2.2.2.2.1⟩:xV)
 | .aC=>λv=>(⟨v.1,v.2.1,v.2.2.1,v.2.2.2.1,v.2.2.2.2.1,v.2.2.2.2.2.1,v.2.2.2.2.2.2.1,v.2.2.2.2.2.2.2.1,v.2.2.2.2.2.2.2.2.1⟩:aC)
 | .aT=>λv=>(⟨v.1,v.2.1,v.2.2.1,v.2.2.2.1,v.2.2.2.2.1⟩:aT)
 | .ay=>λv=>(⟨v.1,v.2.1,v.2.2.1,v.2.2.2.1,v.2.2.2.2.1,v.2.2.2.2.2.1,v.2.2.2.2.2.2.1,⟨v.2.2.2.2.2.2.2.1,v.2.2.2.2.2.2.2.2.1,v.2.2.2.2.2.2.2.2.2.1,v.2.2.2.2.2.2.2.2.2.2.1,v.2.2.2.2.2.2.2.2.2.2.2.1⟩⟩:ay)
 | .aH=>λv=>(⟨v.1,v.2.1,v.2.2.1,v.2.2.2.1⟩:aH)
 | .aB=>λv=>(⟨v.1,v.2.1,v.2.2.1,v.2.2.2.1,v.2.2.2.2.1,v.2.2.2.2.2.1,v.2.2.2.2.2.2.1,v.2.2.2.2.2.2.2.1⟩:aB)
 | .aU=>λv=>(⟨v.1,v.2.1,v.2.2.1,v.2.2.2.1,v.2.2.2.2.1,v.2.2.2.2.2.1,v.2.2.2.2.2.2.1,v.2.2.2.2.2.2.2.1⟩:aU)
 | .bP=>λv=>(⟨v.1,v.2.1⟩:bP)
 | .bH=>λv=>(⟨v.1,v.2.1,v.2.2.1,v.2.2.2.1⟩:bH)
 | .aO=>λv=>(⟨v.1,v.2.1,v.2.2.1⟩:aO)
 | .eP=>λv=>(⟨v.1,v.2.1,v.2.2.1,v.2.2.2.1⟩:eP)
 | .bQ=>λv=>(⟨v.1,⟨v.2.1,v.2.2.1,v.2.2.2.1,v.2.2.2.2.1⟩⟩:bQ)
 | .eT=>λv=>(⟨⟨v.1,⟨v.2.1,v.2.2.1,v.2.2.2.1,v.2.2.2.2.1⟩⟩,⟨v.2.2.2.2.2.1,⟨v.2.2.2.2.2.2.1,v.2.2.2.2.2.2.2.1,v.2.2.2.2.2.2.2.2.1,v.2.2.2.2.2.2.2.2.2.1⟩⟩,⟨v.2.2.2.2.2.2.2.2.2.2.1,⟨v.2.2.2.2.2.2.2.2.2.2.2.1,v.2.2.2.2.2.2.2.2.2.2.2.2.1,v.2.2.2.2.2.2.2.2.2.2.2.2.2.1,v.2.2.2.2.2.2.2.2.2.2.2.2.2.2.1⟩⟩,⟨v.2.2.2.2.2.2.2.2.2.2.2.2.2.2.2.1,⟨v.2.2.2.2.2.2.2.2.2.2.2.2.2.2.2.2.1,v.2.2.2.2.2.2.2.2.2.2.2.2.2.2.2.2.2.1,v.2.2.2.2.2.2.2.2.2.2.2.2.2.2.2.2.2.2.1,v.2.2.2.2.2.2.2.2.2.2.2.2.2.2.2.2.2.2.2.1⟩⟩,⟨v.2.2.2.2.2.2.2.2.2.2.2.2.2.2.2.2.2.2.2.2.1,⟨v.2.2.2.2.2.2.2.2.2.2.2.2.2.2.2.2.2.2.2.2.2.1,v.2.2.2.2.2.2.2.2.2.2.2.2.2.2.2.2.2.2.2.2.2.2.1,v.2.2.2.2.2.2.2.2.2.2.2.2.2.2.2.2.2.2.2.2.2.2.2.1,v.2.2.2.2.2.2.2.2.2.2.2.2.2.2.2.2.2.2.2.2.2.2.2.2.1⟩⟩,⟨v.2.2.2.2.2.2.2.2.2.2.2.2.2.2.2.2.2.2.2.2.2.2.2.2.2.1,⟨v.2.2.2.2.2.2.2.2.2.2.2.2.2.2.2.2.2.2.2.2.2.2.2.2.2.2.1,v.2.2.2.2.2.2.2.2.2.2.2.2.2.2.2.2.2.2.2.2.2.2.2.2.2.2.2.1,v.2.2.2.2.2.2.2.2.2.2.2.2.2.2.2.2.2.2.2.2.2.2.2.2.2.2.2.2.1,v.2.2.2.2.2.2.2.2.2.2.2.2.2.2.2.2.2.2.2.2.2.2.2.2.2.2.2.2.2.1⟩⟩,⟨v.2.2.2.2.2.2.2.2.2.2.2.2.2.2.2.2.2.2.2.2.2.2.2.2.2.2.2.2.2.2.1,⟨v.2.2.2.2.2.2.2.2.2.2.2.2.2.2.2.2.2.2.2.2.2.2.2.2.2.2.2.2.2.2.2.1,v.2.2.2.2.2.2.2.2.2.2.2.2.2.2.2.2.2.2.2.2.2.2.2.2.2.2.2.2.2.2.2.2.1,v.2.2.2.2.2.2.2.2.2.2.2.2.2.2.2.2.2.2.2.2.2.2.2.2.2.2.2.2.2.2.2.2.2.1,v.2.2.2.2.2.2.2.2.2.2.2.2.2.2.2.2.2.2.2.2.2.2.2.2.2.2.2.2.2.2.2.2.2.2.1⟩⟩,⟨v.2.2.2.2.2.2.2.2.2.2.2.2.2.2.2.2.2.2.2.2.2.2.2.2.2.2.2.2.2.2.2.2.2.2.2.1,⟨v.2.2.2.2.2.2.2.2.2.2.2.2.2.2.2.2.2.2.2.2.2.2.2.2.2.2.2.2.2.2.2.2.2.2.2.2.1,v.2.2.2.2.2.2.2.2.2.2.2.2.2.2.2.2.2.2.2.2.2.2.2.2.2.2.2.2.2.2.2.2.2.2.2.2.2.1,v.2.2.2.2.2.2.2.2.2.2.2.2.2.2.2.2.2.2.2.2.2.2.2.2.2.2.2.2.2.2.2.2.2.2.2.2.2.2.1,v.2.2.2.2.2.2.2.2.2.2.2.2.2.2.2.2.2.2.2.2.2.2.2.2.2.2.2.2.2.2.2.2.2.2.2.2.2.2.2.1⟩⟩⟩:eT)
 | .aM=>λv=>(⟨⟨⟨v.1,⟨v.2.1,v.2.2.1,v.2.2.2.1,v.2.2.2.2.1⟩⟩,⟨v.2.2.2.2.2.1,⟨v.2.2.2.2.2.2.1,v.2.2.2.2.2.2.2.1,v.2.2.2.2.2.2.2.2.1,v.2.2.2.2.2.2.2.2.2.1⟩⟩,⟨v.2.2.2.2.2.2.2.2.2.2.1,⟨v.2.2.2.2.2.2.2.2.2.2.2.1,v.2.2.2.2.2.2.2.2.2.2.2.2.1,v.2.2.2.2.2.2.2.2.2.2.2.2.2.1,v.2.2.2.2.2.2.2.2.2.2.2.2.2.2.1⟩⟩,⟨v.2.2.2.2.2.2.2.2.2.2.2.2.2.2.2.1,⟨v.2.2.2.2.2.2.2.2.2.2.2.2.2.2.2.2.1,v.2.2.2.2.2.2.2.2.2.2.2.2.2.2.2.2.2.1,v.2.2.2.2.2.2.2.2.2.2.2.2.2.2.2.2.2.2.1,v.2.2.2.2.2.2.2.2.2.2.2.2.2.2.2.2.2.2.2.1⟩⟩,⟨v.2.2.2.2.2.2.2.2.2.2.2.2.2.2.2.2.2.2.2.2.1,⟨v.2.2.2.2.2.2.2.2.2.2.2.2.2.2.2.2.2.2.2.2.2.1,v.2.2.2.2.2.2.2.2.2.2.2.2.2.2.2.2.2.2.2.2.2.2.1,v.2.2.2.2.2.2.2.2.2.2.2.2.2.2.2.2.2.2.2.2.2.2.2.1,v.2.2.2.2.2.2.2.2.2.2.2.2.2.2.2.2.2.2.2.2.2.2.2.2.1⟩⟩,⟨v.2.2.2.2.2.2.2.2.2.2.2.2.2.2.2.2.2.2.2.2.2.2.2.2.2.1,⟨v.2.2.2.2.2.2.2.2.2.2.2.2.2.2.2.2.2.2.2.2.2.2.2.2.2.2.1,v.2.2.2.2.2.2.2.2.2.2.2.2.2.2.2.2.2.2.2.2.2.2.2.2.2.2.2.1,v.2.2.2.2.2.2.2.2.2.2.2.2.2.2.2.2.2.2.2.2.2.2.2.2.2.2.2.2.1,v.2.2.2.2.2.2.2.2.2.2.2.2.2.2.2.2.2.2.2.2.2.2.2.2.2.2.2.2.2.1⟩⟩,⟨v.2.2.2.2.2.2.2.2.2.2.2.2.2.2.2.2.2.2.2.2.2.2.2.2.2.2.2.2.2.2.1,⟨v.2.2.2.2.2.2.2.2.2.2.2.2.2.2.2.2.2.2.2.2.2.2.2.2.2.2.2.2.2.2.2.1,v.2.2.2.2.2.2.2.2.2.2.2.2.2.2.2.2.2.2.2.2.2.2.2.2.2.2.2.2.2.2.2.2.1,v.2.2.2.2.2.2.2.2.2.2.2.2.2.2.2.2.2.2.2.2.2.2.2.2.2.2.2.2.2.2.2.2.2.1,v.2.2.2.2.2.2.2.2.2.2.2.2.2.2.2.2.2.2.2.2.2.2.2.2.2.2.2.2.2.2.2.2.2.2.1⟩⟩,⟨v.2.2.2.2.2.2.2.2.2.2.2.2.2.2.2.2.2.2.2.2.2.2.2.2.2.2.2.2.2.2.2.2.2.2.2.1,⟨v.2.2.2.2.2.2.2.2.2.2.2.2.2.2.2.2.2.2.2.2.2.2.2.2.2.2.2.2.2.2.2.2.2.2.2.2.1,v.2.2.2.2.2.2.2.2.2.2.2.2.2.2.2.2.2.2.2.2.2.2.2.2.2.2.2.2.2.2.2.2.2.2.2.2.2.1,v.2.2.2.2.2.2.2.2.2.2.2.2.2.2.2.2.2.2.2.2.2.2.2.2.2.2.2.2.2.2.2.2.2.2.2.2.2.2.1,v.2.2.2.2.2.2.2.2.2.2.2.2.2.2.2.2.2.2.2.2.2.2.2.2.2.2.2.2.2.2.2.2.2.2.2.2.2.2.2.1⟩⟩⟩⟩:aM)
 | .bU=>λv=>(⟨v.1,v.2.1,v.2.2.1⟩:bU)
 | .bE=>λv=>(⟨v.1,v.2.1,⟨v.2.2.1,v.2.2.2.1,v.2.2.2.2.1,v.2.2.2.2.2.1,v.2.2.2.2.2.2.1⟩⟩:bE)
 | .mq=>λv=>(⟨v.1,v.2.1,v.2.2.1,v.2.2.2.1,v.2.2.2.2.1⟩:mq)
 | .fG=>λv=>(⟨v.1,v.2.1,v.2.2.1,v.2.2.2.1⟩:fG)
 | .dD=>λv=>(⟨v.1,v.2.1⟩:dD)
 | .dR=>λv=>(⟨⟨v.1,v.2.1⟩,⟨v.2.2.1,v.2.2.2.1⟩,⟨v.2.2.2.2.1,v.2.2.2.2.2.1⟩,⟨v.2.2.2.2.2.2.1,v.2.2.2.2.2.2.2.1⟩,⟨v.2.2.2.2.2.2.2.2.1,v.2.2.2.2.2.2.2.2.2.1⟩,⟨v.2.2.2.2.2.2.2.2.2.2.1,v.2.2.2.2.2.2.2.2.2.2.2.1⟩⟩:dR)
 | .gF=>λv=>(⟨v.1,v.2.1,v.2.2.1,⟨v.2.2.2.1,v.2.2.2.2.1,v.2.2.2.2.2.1,v.2.2.2.2.2.2.1,v.2.2.2.2.2.2.2.1,v.2.2.2.2.2.2.2.2.1,v.2.2.2.2.2.2.2.2.2.1,v.2.2.2.2.2.2.2.2.2.2.1,v.2.2.2.2.2.2.2.2.2.2.2.1⟩⟩:gF)
 | .bJ=>λv=>(⟨v.1,v.2.1,v.2.2.1,v.2.2.2.1,v.2.2.2.2.1,v.2.2.2.2.2.1,v.2.2.2.2.2.2.1⟩:bJ)
 | .aP=>λv=>(⟨v.1,v.2.1⟩:aP)
 | .aF=>λv=>(⟨⟨v.1,v.2.1,v.2.2.1,v.2.2.2.1,v.2.2.2.2.1,v.2.2.2.2.2.1,v.2.2.2.2.2.2.1,v.2.2.2.2.2.2.2.1,v.2.2.2.2.2.2.2.2.1,v.2.2.2.2.2.2.2.2.2.1⟩,v.2.2.2.2.2.2.2.2.2.2.1,v.2.2.2.2.2.2.2.2.2.2.2.1⟩:aF)
 | .bB=>λv=>(⟨⟨⟨v.1,v.2.1,v.2.2.1,v.2.2.2.1,v.2.2.2.2.1,v.2.2.2.2.2.1,v.2.2.2.2.2.2.1,v.2.2.2.2.2.2.2.1,v.2.2.2.2.2.2.2.2.1,v.2.2.2.2.2.2.2.2.2.1⟩,v.2.2.2.2.2.2.2.2.2.2.1,v.2.2.2.2.2.2.2.2.2.2.2.1⟩,v.2.2.2.2.2.2.2.2.2.2.2.2.1,v.2.2.2.2.2.2.2.2.2.2.2.2.2.1,v.2.2.2.2.2.2.2.2.2.2.2.2.2.2.1,v.2.2.2.2.2.2.2.2.2.2.2.2.2.2.2.1⟩:bB)
 | .bM=>λv=>(⟨v.1,v.2.1⟩:bM)
 | .aX=>λv=>(⟨⟨⟨v.1,v.2.1,v.2.2.1,v.2.2.2.1,v.2.2.2.2.1,v.2.2.2.2.2.1,v.2.2.2.2.2.2.1,v.2.2.2.2.2.2.2.1,v.2.2.2.2.2.2.2.2.1,v.2.2.2.2.2.2.2.2.2.1⟩,v.2.2.2.2.2.2.2.2.2.2.1,v.2.2.2.2.2.2.2.2.2.2.2.1⟩,v.2.2.2.2.2.2.2.2.2.2.2.2.1,v.2.2.2.2.2.2.2.2.2.2.2.2.2.1,v.2.2.2.2.2.2.2.2.2.2.2.2.2.2.1⟩:aX)
theorem Wi:(k:N)->(v:ahT (lvN k))->Jz k (mkN k v)=adl (lvN k) v:=by intro k;cases k<;>intro _<;>rfl
def ofN:(k:N)->T k->ahT (lvN k)
 | .aK=>λ(s:aK)=>(s.Home,s.aN,())
 | .aI=>λ(s:aI)=>(s.Rule,s.aD,s.Other,s.Cell,s.Region,())
 | .dQ=>λ(s:dQ)=>(s.Kind,s.Var,s.Set,s.jE.Rule,s.jE.aD,s.jE.Other,s.jE.Cell,s.jE.Region,())
 | .eG=>λ(s:eG)=>(s.Places,s.Tree,())
 | .dn=>λ(s:dn)=>(s.Region,())
 | .cu=>λ(s:cu)=>(s.Zone,s.kV,())
 | .aW=>λ(s:aW)=>(s.Load,s.pR,s.Priority,s.Lag,s.Allowed,s.sO,s.LM,())
 | .aY=>λ(s:aY)=>(s.Low,s.High,())
 | .ak=>λ(s:ak)=>(s.bK,s.kW,s.Cells,s.ah,s.bf,s.bO,s.cO,s.BM,s.Lease,s.Uz,())
 | .aZ=>λ(s:aZ)=>(s.data,s.afn,())
 | .aA=>λ(s:aA)=>(s.Kind,s.Tick,s.aD,s.Cell,s.Other,s.Epoch,s.From,s.Until,s.N,())
 | .aG=>λ(s:aG)=>(s.Term,s.Entry.Kind,s.Entry.Tick,s.Entry.aD,s.Entry.Cell,s.Entry.Other,s.Entry.Epoch,s.Entry.From,s.Entry.Until,s.Entry.N,())
 | .xV=>λ(s:xV)=>(s.e0,s.e1,s.e2,s.e3,s.e4,())
 | .aC=>λ(s:aC)=>(s.Kind,s.From,s.To,s.Term,s.Index,s.rC,s.Tf,s.OK,s.Entries,())
 | .aT=>λ(s:aT)=>(s.Cell,s.Epoch,s.Version,s.From,s.Until,())
 | .ay=>λ(s:ay)=>(s.Placed,s.Ap,s.Home,s.aN,s.Next,s.Target,s.Epoch,s.Window.Cell,s.Window.Epoch,s.Window.Version,s.Window.From,s.Window.Until,())
 | .aH=>λ(s:aH)=>(s.Mode,s.Running,s.Wanted,s.Since,())
 | .aB=>λ(s:aB)=>(s.Tick,s.Count,s.ah,s.Cells,s.jY,s.bg,s.Low,s.High,())
 | .aU=>λ(s:aU)=>(s.Epoch,s.Seq,s.Kind,s.Client,s.Number,s.Item,s.Key,s.Value,())
 | .bP=>λ(s:bP)=>(s.Number,s.Value,())
 | .bH=>λ(s:bH)=>(s.Item,s.Client,s.Epoch,s.Until,())
 | .aO=>λ(s:aO)=>(s.items,s.Dl,s.greatest,())
 | .eP=>λ(s:eP)=>(s.Err,s.Seq,s.Item,s.Value,())
 | .bQ=>λ(s:bQ)=>(s.number,s.reply.Err,s.reply.Seq,s.reply.Item,s.reply.Value,())
 | .eT=>λ(s:eT)=>(s.e0.number,s.e0.reply.Err,s.e0.reply.Seq,s.e0.reply.Item,s.e0.reply.Value,s.e1.number,s.e1.reply.Err,s.e1.reply.Seq,s.e1.reply.Item,s.e1.reply.Value,s.e2.number,s.e2.reply.Err,s.e2.reply.Seq,s.e2.reply.Item,s.e2.reply.Value,s.e3.number,s.e3.reply.Err,s.e3.reply.Seq,s.e3.reply.Item,s.e3.reply.Value,s.e4.number,s.e4.reply.Err,s.e4.reply.Seq,s.e4.reply.Item,s.e4.reply.Value,s.e5.number,s.e5.reply.Err,s.e5.reply.Seq,s.e5.reply.Item,s.e5.reply.Value,s.e6.number,s.e6.reply.Err,s.e6.reply.Seq,s.e6.reply.Item,s.e6.reply.Value,s.e7.number,s.e7.reply.Err,s.e7.reply.Seq,s.e7.reply.Item,s.e7.reply.Value,())
 | .aM=>λ(s:aM)=>(s.sessions.e0.number,s.sessions.e0.reply.Err,s.sessions.e0.reply.Seq,s.sessions.e0.reply.Item,s.sessions.e0.reply.Value,s.sessions.e1.number,s.sessions.e1.reply.Err,s.sessions.e1.reply.Seq,s.sessions.e1.reply.Item,s.sessions.e1.reply.Value,s.sessions.e2.number,s.sessions.e2.reply.Err,s.sessions.e2.reply.Seq,s.sessions.e2.reply.Item,s.sessions.e2.reply.Value,s.sessions.e3.number,s.sessions.e3.reply.Err,s.sessions.e3.reply.Seq,s.sessions.e3.reply.Item,s.sessions.e3.reply.Value,s.sessions.e4.number,s.sessions.e4.reply.Err,s.sessions.e4.reply.Seq,s.sessions.e4.reply.Item,s.sessions.e4.reply.Value,s.sessions.e5.number,s.sessions.e5.reply.Err,s.sessions.e5.reply.Seq,s.sessions.e5.reply.Item,s.sessions.e5.reply.Value,s.sessions.e6.number,s.sessions.e6.reply.Err,s.sessions.e6.reply.Seq,s.sessions.e6.reply.Item,s.sessions.e6.reply.Value,s.sessions.e7.number,s.sessions.e7.reply.Err,s.sessions.e7.reply.Seq,s.sessions.e7.reply.Item,s.sessions.e7.reply.Value,())
 | .bU=>λ(s:bU)=>(s.cell,s.closed,s.windows,())
 | .bE=>λ(s:bE)=>(s.aD,s.Index,s.Window.Cell,s.Window.Epoch,s.Window.Version,s.Window.From,s.Window.Until,())
 | .mq=>λ(s:mq)=>(s.aD,s.Tick,s.Cell,s.Epoch,s.Version,())
 | .fG=>λ(s:fG)=>(s.tenants,s.cells,s.regions,s.versions,())
 | .dD=>λ(s:dD)=>(s.low,s.high,())
 | .dR=>λ(s:dR)=>(s.xC.low,s.xC.high,s.cell.low,s.cell.high,s.other.low,s.other.high,s.epoch.low,s.epoch.high,s.ticks.low,s.ticks.high,s.n.low,s.n.high,())
 | .gF=>λ(s:gF)=>(s.Kind,s.Who,s.N,s.Entry.Kind,s.Entry.Tick,s.Entry.aD,s.Entry.Cell,s.Entry.Other,s.Entry.Epoch,s.Entry.From,s.Entry.Until,s.Entry.N,())
 | .bJ=>λ(s:bJ)=>(s.aD,s.Client,s.Number,s.Op,s.Item,s.Key,s.Value,())
 | .aP=>λ(s:aP)=>(s.L,s.At,())
 | .aF=>λ(s:aF)=>(s.Config.bK,s.Config.kW,s.Config.Cells,s.Config.ah,s.Config.bf,s.Config.bO,s.Config.cO,s.Config.BM,s.Config.Lease,s.Config.Uz,s.Cells,s.Gd,())
 | .bB=>λ(s:bB)=>(s.problem.Config.bK,s.problem.Config.kW,s.problem.Config.Cells,s.problem.Config.ah,s.problem.Config.bf,s.problem.Config.bO,s.problem.Config.cO,s.problem.Config.BM,s.problem.Config.Lease,s.problem.Config.Uz,s.problem.Cells,s.problem.Gd,s.vars,s.places,s.tree,s.count,())
 | .bM=>λ(s:bM)=>(s.load,s.reach,())
 | .aX=>λ(s:aX)=>(s.problem.Config.bK,s.problem.Config.kW,s.problem.Config.Cells,s.problem.Config.ah,s.problem.Config.bf,s.problem.Config.bO,s.problem.Config.cO,s.problem.Config.BM,s.problem.Config.Lease,s.problem.Config.Uz,s.problem.Cells,s.problem.Gd,s.places,s.tree,s.at_,())
theorem am6:(k:N)->(x:T k)->mkN k (ofN k x)=x:=by intro k;cases k<;>intro _<;>rfl
end Go.CP
namespace Go.AM
open Go Go.RowKit Go.CP
def wd:Ty->Nat
  | .n k=>wdN k
  |_=>1
def afd:(t:Ty)->den t->List CV
  | .i k,x=>anU k x
  | .b,x=>apy x
  | .s,x=>arC x
  | .n k,x=>Jz k x
  | .l t,xs=> [.ls t xs]
theorem alY [Fuel]:(t:Ty)->(x:den t)->(afd t x).length=wd t
  | .i _,_=>rfl
  | .b,_=>rfl
  | .s,_=>rfl
  | .n k,x=>Yu k x
  | .l _,_=>rfl
def fE (t:Ty) (xs:List (den t)):Nat->List CV:=λi=>afd t (xs.getD i default)
inductive SC where
  |c (x:CV)
  |rp (cs:List CV)
  |own (k:Nat)
  |sl (k lo len:Nat)
  |pb (k off:Nat)
  |pe (k i off:Nat)
  |fn (f:FuncId) (caps:List Nat)
  |mp (k:Nat)
  |fb (f:FuncId) (k off:Nat)
  |bot
inductive AV where
  |s (x:SC)
  |agg (cs:List SC)
inductive SV where
  |one (v:AV)
  |tup (vs:List AV)
inductive bF where
  |box (cs:List SC)
  |arr (z n:Nat) (f:Nat->List CV)
  |mp (es:List (Int×Int))
  |ra (z n:Nat) (cs:List SC)
  |ms (es:List (Value×Value))
  |dead
def bF.live:bF->Prop
  | .dead=>False
  |_=>True
structure Loc where
  base:Option Addr
  cap:Nat
  z:Nat
  blk:Option Nat
  n:Nat
abbrev Mu:=Nat->Prop
abbrev vW:=Nat->Option Loc
inductive OZ (w:World) (M:Mu):CV->Value->Prop
  |val (v:Value):OZ w M (.val v) v
  |e0 (a:Option Addr):OZ w M .e0 (.slice a 0 0)
  |rd0 (z:Nat) (f:Nat->List CV) (a:Option Addr) (cap:Nat):OZ w M (.rd z 0 f) (.slice a 0 cap)
  |rd (z n:Nat) (f:Nat->List CV) (b off cap:Nat) (c:Nat->Value) (hb:¬M b) (hs:b<w.heap.size) (hn:n<=cap)
      (hl:∀i,i<n->(f i).length=z) (hc:∀j,j<n*z->w.cell? ⟨b,off+j,none⟩=some (c j)) (h1:∀j,j<n*z->(c j).oneCell'=true)
      (h:∀i j x,i<n->(f i)[j]? =some x->OZ w M x (c (i*z+j))):OZ w M (.rd z n f) (.slice (some ⟨b,off,none⟩) n cap)
  |ls (t:Ty) (xs:List (den t)) (v:Value) (h:OZ w M (.rd (wd t) xs.length (fE t xs)) v):OZ w M (.ls t xs) v
  |lsn (t:Ty) (xs:List (den t)) (v:Value) (h:OZ w M (.rd (wd t) xs.length (fE t xs)) v) (hn:xs= []->v= .slice none 0 0):OZ w M (.lsn t xs) v
inductive lU (w:World) (m:vW) (M:Mu):SC->Value->Prop
  |c {x:CV} {v:Value} (h:OZ w M x v):lU w m M (.c x) v
  |rp (cs:List CV) (b off:Nat) (c:Nat->Value) (hb:¬M b) (hs:b<w.heap.size) (hc:∀j,j<cs.length->w.cell? ⟨b,off+j,none⟩=some (c j))
      (h:∀(j:Nat) x,cs[j]? =some x->OZ w M x (c j)):lU w m M (.rp cs) (.pointer (some ⟨b,off,none⟩))
  |own (k:Nat) (l:Loc) (hk:m k=some l):lU w m M (.own k) (.slice l.base l.n l.cap)
  |sl (k lo len:Nat) (l:Loc) (a:Option Addr) (c:Nat) (hk:m k=some l) (h0:lo=0->a=l.base/\c=l.cap)
      (h1:len≠0→∃b,l.blk=some b/\a=some ⟨b,lo*l.z,none⟩) (h2:len<=c) (h3:c+lo=l.cap):lU w m M (.sl k lo len) (.slice a len c)
  |pb (k off b:Nat) (l:Loc) (hk:m k=some l) (hb:l.blk=some b):lU w m M (.pb k off) (.pointer (some ⟨b,off,none⟩))
  |pe (k i off b:Nat) (l:Loc) (hk:m k=some l) (hb:l.blk=some b) (hi:i<l.n):lU w m M (.pe k i off) (.pointer (some ⟨b,i*l.z+off,none⟩))
  |fn (f:FuncId) (caps:List Nat) (vs:Array Value) (hs:vs.size=caps.length)
      (h:∀(i:Nat) k,caps[i]? =some k→∃l b,m k=some l/\l.blk=some b/\vs[i]? =some (.pointer (some ⟨b,0,none⟩))):lU w m M (.fn f caps) (.func (.func f) #[] vs)
  |mp (k b:Nat) (l:Loc) (hk:m k=some l) (hb:l.blk=some b):lU w m M (.mp k) (.map (some b))
  |fb (f:FuncId) (k off b:Nat) (l:Loc) (hk:m k=some l) (hb:l.blk=some b):lU w m M (.fb f k off) (.func (.func f) #[.pointer (some ⟨b,off,none⟩)] #[])
  |bot (v:Value):lU w m M .bot v
def UF (w:World) (m:vW) (M:Mu) (cs:List SC) (vs:Array Value):Prop:=
  vs.size=cs.length∧∀(i:Nat) x,cs[i]? =some x->lU w m M x (vs.getD i undef)
def Fp (w:World) (m:vW) (M:Mu):AV->Value->Prop
  | .s x,v=>lU w m M x v
  | .agg cs,v=>∃vs,v= .agg vs/\UF w m M cs vs
def nZ (w:World) (m:vW) (M:Mu):SV->Value->Prop
  | .one a,v=>Fp w m M a v
  | .tup as',v=>∃vs:Array Value,v= .tuple vs/\vs.size=as'.length∧∀(i:Nat) a,as'[i]? =some a->Fp w m M a (vs.getD i undef)
def Mut (m:vW) (h:List bF):Mu:=λb=>∃k o l,h[k]? =some o/\o.live/\m k=some l/\l.blk=some b
def MX (X:Mu) (m:vW) (h:List bF):Mu:=λb=>X b\/Mut m h b
def Sr (w:World) (m:vW) (M:Mu) (k:Nat):bF->Prop
  | .dead=>True
  | .box cs=>∃l b T vs,m k=some l/\l.blk=some b/\w.heap[b]? =some (.cells vs T (0,0))/\UF w m M cs vs∧∀i,i<vs.size->(vs.getD i undef).oneCell'=true
  | .arr z n f=>∃l,m k=some l/\l.z=z/\(l.n=n/\n<=l.cap)/\(l.blk=none->l.cap=0)∧∀b,l.blk=some b->l.base=some ⟨b,0,none⟩∧
      ∃ T vs,w.heap[b]? =some (.cells vs T (0,0))/\vs.size=l.cap*z/\(∀i,i<vs.size->(vs.getD i undef).oneCell'=true)∧
        ∀i,i<n->(f i).length=z∧∀(j:Nat) x,(f i)[j]? =some x->OZ w M x (vs.getD (i*z+j) undef)
  | .mp es=>∃l b rows clock,m k=some l/\l.blk=some b/\w.heap[b]? =some (.map rows clock)/\rows.toList.map (λe=>(e.key,e.val))=es.map (λp=>(Value.int .i64 p.1,Value.int .i64 p.2))
  | .ms es=>∃l b rows clock,m k=some l/\l.blk=some b/\w.heap[b]? =some (.map rows clock)/\rows.toList.map (λe=>(e.key,e.val))=es
  | .ra z n cs=>∃l b T vs,m k=some l/\l.z=z/\(l.n=n/\n<=l.cap)/\l.blk=some b/\l.base=some ⟨b,0,none⟩/\w.heap[b]? =some (.cells vs T (0,0))/\vs.size=l.cap*z/\(∀i,i<vs.size->(vs.getD i undef).oneCell'=true)/\cs.length=n*z∧∀(i:Nat) x,cs[i]? =some x->lU w m M x (vs.getD i undef)
structure bI (X:Mu) (w:World) (m:vW) (h:List bF):Prop where
  obj:∀k o,h[k]? =some o->Sr w m (MX X m h) k o
  inj:∀k k' o o' l l' b,h[k]? =some o->h[k']? =some o'->o.live->o'.live->m k=some l->m k'=some l'->l.blk=some b->l'.blk=some b->k=k'
  used:∀k,h.length<=k->m k=none
  adA:∀b,Mut m h b→¬X b
  xlt:∀b,X b->b<w.heap.size
structure Later (w:World) (m:vW) (M:Mu) (w':World) (m':vW) (M':Mu):Prop where
  ext:∀k l,m k=some l->m' k=some l
  mu:∀b,b<w.heap.size→¬M b→¬M' b
  keep:∀b,b<w.heap.size→¬M b->w'.heap[b]? =w.heap[b]?
  size:w.heap.size<=w'.heap.size
section
variable {w w' w'':World} {m m' m'':vW} {M M' M'':Mu}
theorem Later.refl [Fuel]:Later w m M w m M:=⟨λ_ _ h=>h,λ_ _ h=>h,λ_ _ _=>rfl,Nat.le_refl _⟩
theorem Later.trans [Fuel] (h:Later w m M w' m' M') (k:Later w' m' M' w'' m'' M''):Later w m M w'' m'' M'':=
  ⟨λx l e=>k.ext x l (h.ext x l e),λb hb hM=>k.mu b (Nat.lt_of_lt_of_le hb h.size) (h.mu b hb hM),
   λb hb hM=>(k.keep b (Nat.lt_of_lt_of_le hb h.size) (h.mu b hb hM)).trans (h.keep b hb hM),Nat.le_trans h.size k.size⟩
theorem adB [Fuel] {b off:Nat} (hk:w'.heap[b]? =w.heap[b]?):w'.cell? ⟨b,off,none⟩=w.cell? ⟨b,off,none⟩:=
  World.cell?_of_block hk
theorem OZ.later [Fuel] (L:Later w m M w' m' M') {x:CV} {v:Value} (h:OZ w M x v):OZ w' M' x v:=by
  induction h with
  |val v=>exact .val v
  |e0 a=>exact .e0 a
  |rd0 z f a cap=>exact .rd0 z f a cap
  | rd z n f b off cap c hb hs hn hl hc h1 _ ih=>
    exact .rd z n f b off cap c (L.mu b hs hb) (Nat.lt_of_lt_of_le hs L.size) hn hl
      (λj hj=>(adB (L.keep b hs hb)).trans (hc j hj)) h1 (λi j x hi hx=>ih i j x hi hx)
  |ls t xs v _ ih=>exact .ls t xs v ih
  |lsn t xs v _ hn ih=>exact .lsn t xs v ih hn
theorem lU.later [Fuel] (L:Later w m M w' m' M') {x:SC} {v:Value} (h:lU w m M x v):lU w' m' M' x v:=by
  cases h with
  |c h=>exact .c (h.later L)
  | rp cs b off c hb hs hc h=>
    exact .rp cs b off c (L.mu b hs hb) (Nat.lt_of_lt_of_le hs L.size) (λj hj=>(adB (L.keep b hs hb)).trans (hc j hj)) (λj x hx=>(h j x hx).later L)
  |own k l hk=>exact .own k l (L.ext _ _ hk)
  |sl k lo len l a c hk h0 h1 h2 h3=>exact .sl k lo len l a c (L.ext _ _ hk) h0 h1 h2 h3
  |pb k off b l hk hb=>exact .pb k off b l (L.ext _ _ hk) hb
  |pe k i off b l hk hb hi=>exact .pe k i off b l (L.ext _ _ hk) hb hi
  |fn f caps vs hs h=>exact .fn f caps vs hs (λi k hi=>let⟨l,b,e,r⟩:=h i k hi;⟨l,b,L.ext _ _ e,r⟩)
  |mp k b l hk hb=>exact .mp k b l (L.ext _ _ hk) hb
  |fb f k off b l hk hb=>exact .fb f k off b l (L.ext _ _ hk) hb
  |bot v=>exact .bot v
theorem UF.later [Fuel] (L:Later w m M w' m' M') {cs:List SC} {vs:Array Value} (h:UF w m M cs vs):UF w' m' M' cs vs:=
  ⟨h.1,λi x hx=>(h.2 i x hx).later L⟩
theorem Fp.later [Fuel] (L:Later w m M w' m' M') {a:AV} {v:Value} (h:Fp w m M a v):Fp w' m' M' a v:=by
  cases a with
  |s x=>exact lU.later L h
  |agg cs=>obtain⟨vs,e,hl⟩:=h;exact⟨vs,e,hl.later L⟩
theorem nZ.later [Fuel] (L:Later w m M w' m' M') {s:SV} {v:Value} (h:nZ w m M s v):nZ w' m' M' s v:=by
  cases s with
  |one a=>exact Fp.later L h
  |tup as'=>obtain⟨vs,e,hz,hl⟩:=h;exact⟨vs,e,hz,λi a ha=>(hl i a ha).later L⟩
end
def UG [Fuel] (w w':World):Prop:=w'.output=w.output/\(Dr->w.drawn<=w'.drawn)
theorem UG.same [Fuel] (w:World):UG w w:=⟨rfl,λ_=>Nat.le_refl _⟩
theorem UG.trans [Fuel] {a b c:World} (h:UG a b) (k:UG b c):UG a c:=⟨k.1.trans h.1,λd=>Nat.le_trans (h.2 d) (k.2 d)⟩
structure Stp [Fuel] (X:Mu) (w:World) (m:vW) (h:List bF) (w':World) (m':vW) (h':List bF):Prop where
  rel:bI X w' m' h'
  later:Later w m (MX X m h) w' m' (MX X m' h')
  os:w'.os=w.os
  tape:w'.tape=w.tape
  output:UG w w'
  keep:∀b,b<w.heap.size→¬Mut m h b->w'.heap[b]? =w.heap[b]?
  mt:∀b,Mut m' h' b->Mut m h b\/w.heap.size<=b
  nw:∀k,h[k]? =some .dead->h'[k]? =some .dead->m k=none->m' k=none
theorem Stp.refl [Fuel] {X:Mu} {w:World} {m:vW} {h:List bF} (H:bI X w m h):Stp X w m h w m h:=
  ⟨H,Later.refl,rfl,rfl,UG.same _,λ_ _ _=>rfl,λ_ hb=> .inl hb,λ_ _ _ h=>h⟩
theorem lt_of_block [Fuel] {w:World} {b:Nat} {o:Obj} (h:w.heap[b]? =some o):b<w.heap.size:=by
  rcases Nat.lt_or_ge b w.heap.size with h'|h'
  · exact h'
  · rw [Array.getElem?_eq_none h']at h;cases h
theorem bI.change [Fuel] {X:Mu} {w w':World} {m m':vW} {h h':List bF} (H:bI X w m h) (ch:Nat->Prop)
    (hlen:h'.length=h.length) (hsame:∀k,¬ch k->h'[k]? =h[k]?)
    (hext:∀k l,m k=some l->m' k=some l) (hm:∀k,¬ch k->m' k=m k)
    (hnew:∀k,h.length<=k->m' k=none)
    (hos:w'.os=w.os) (ajv:w'.tape=w.tape) (hout:UG w w')
    (hsize:w.heap.size<=w'.heap.size)
    (RI:∀k o l b,ch k->h'[k]? =some o->o.live->m' k=some l->l.blk=some b->Mut m h b\/w.heap.size<=b)
    (hkeep:∀b,b<w.heap.size->(w'.heap[b]? =w.heap[b]?)\/(Mut m h b∧∀k o l,¬ch k->h[k]? =some o->o.live->m k=some l->l.blk=some b->False))
    (hinj:∀k k' o o' l l' b,ch k->h'[k]? =some o->h'[k']? =some o'->o.live->o'.live->m' k=some l->m' k'=some l'->l.blk=some b->l'.blk=some b->k=k')
    (hnw:∀k,ch k->h'[k]? =some .dead->m k=none->m' k=none)
    (ajw:Later w m (MX X m h) w' m' (MX X m' h')→∀k o,ch k->h'[k]? =some o->Sr w' m' (MX X m' h') k o):
    Stp X w m h w' m' h':=by
  have apb:∀b,Mut m' h' b->Mut m h b\/w.heap.size<=b:=by
    rintro b ⟨k,o,l,hk,hl,hmk,hb⟩
    by_cases hc:ch k
    · exact RI k o l b hc hk hl hmk hb
    · rw [hsame k hc]at hk;rw [hm k hc]at hmk
      exact .inl ⟨k,o,l,hk,hl,hmk,hb⟩
  have hK:∀b,b<w.heap.size→¬Mut m h b->w'.heap[b]? =w.heap[b]? :=by
    intro b hb hM
    rcases hkeep b hb with h1|⟨h1,_⟩
    · exact h1
    · exact absurd h1 hM
  have hL:Later w m (MX X m h) w' m' (MX X m' h'):=by
    refine⟨hext,λb hb hM hM'=> ?_,λb hb hM=>hK b hb (λh1=>hM (.inr h1)),hsize⟩
    rcases hM' with h0|h0
    · exact hM (.inl h0)
    · rcases apb b h0 with h1|h1
      · exact hM (.inr h1)
      · omega
  refine⟨⟨λk o hk=> ?_,λk k' o o' l l' b h1 h2 h3 h4 h5 h6 h7 h8=> ?_,λk hk=>hnew k (by omega),λb hb hX=> ?_,λb hX=>Nat.lt_of_lt_of_le (H.xlt b hX) hsize⟩,hL,hos,ajv,hout,hK,apb,λk _ h2 h3=>by by_cases hc:ch k;exact hnw k hc h2 h3;rw [hm k hc];exact h3⟩
  · by_cases hc:ch k
    · exact ajw hL k o hc hk
    · have hk0:=hk
      rw [hsame k hc]at hk
      have ho:=H.obj k o hk
      cases o with
      |dead=>trivial
      | box cs=>
        obtain⟨l,b,T,vs,e1,e2,e3,e4,e5⟩:=ho
        refine⟨l,b,T,vs,hext _ _ e1,e2,?_,e4.later hL,e5⟩
        rcases hkeep b (lt_of_block e3)with h1|⟨_,h1⟩
        · rw [h1];exact e3
        · exact(h1 k _ l hc hk trivial e1 e2).elim
      | arr z n f=>
        obtain⟨l,e1,e2,e3,e4,e5⟩:=ho
        refine⟨l,hext _ _ e1,e2,e3,e4,λb hb=> ?_⟩
        obtain⟨e6,T,vs,e7,e8,e9,e10⟩:=e5 b hb
        refine⟨e6,T,vs,?_,e8,e9,λi hi=>⟨(e10 i hi).1,λj x hx=>((e10 i hi).2 j x hx).later hL⟩⟩
        rcases hkeep b (lt_of_block e7)with h1|⟨_,h1⟩
        · rw [h1];exact e7
        · exact(h1 k _ l hc hk trivial e1 hb).elim
      | mp es=>
        obtain⟨l,b,rows,clock,e1,e2,e3,e4⟩:=ho
        refine⟨l,b,rows,clock,hext _ _ e1,e2,?_,e4⟩
        rcases hkeep b (lt_of_block e3)with h1|⟨_,h1⟩
        · rw [h1];exact e3
        · exact(h1 k _ l hc hk trivial e1 e2).elim
      | ms es=>
        obtain⟨l,b,rows,clock,e1,e2,e3,e4⟩:=ho
        refine⟨l,b,rows,clock,hext _ _ e1,e2,?_,e4⟩
        rcases hkeep b (lt_of_block e3)with h1|⟨_,h1⟩
        · rw [h1];exact e3
        · exact(h1 k _ l hc hk trivial e1 e2).elim
      | ra z n cs=>
        obtain⟨l,b,T,vs,e1,e2,e3,e4,e5,e6,e7,e8,e9,e10⟩:=ho
        refine⟨l,b,T,vs,hext _ _ e1,e2,e3,e4,e5,?_,e7,e8,e9,λi x hx=>(e10 i x hx).later hL⟩
        rcases hkeep b (lt_of_block e6)with h1|⟨_,h1⟩
        · rw [h1];exact e6
        · exact(h1 k _ l hc hk trivial e1 e4).elim
  · by_cases hc:ch k
    · exact hinj k k' o o' l l' b hc h1 h2 h3 h4 h5 h6 h7 h8
    · by_cases hc':ch k'
      · exact(hinj k' k o' o l' l b hc' h2 h1 h4 h3 h6 h5 h8 h7).symm
      · rw [hsame k hc]at h1;rw [hsame k' hc']at h2;rw [hm k hc]at h5;rw [hm k' hc']at h6
        exact H.inj k k' o o' l l' b h1 h2 h3 h4 h5 h6 h7 h8
  · rcases apb b hb with h1|h1
    · exact H.adA b h1 hX
    · have:=H.xlt b hX;omega
end Go.AM
namespace Go.AM
open Go Go.CP Go.RowKit
def mkv (v:Value):SV:= .one (.s (.c (.val v)))
def adC:Value->AV
  | .agg cs=> .agg (cs.toList.map λv=> .c (.val v))
  |v=> .s (.c (.val v))
structure St where
  σ:List (Nat×SV)
  h:List bF
def look:List (Nat×SV)->Nat->Option SV
  | [],_=>none
  |(i,s)::r,t=>bif Nat.beq i t then some s else look r t
def del:List (Nat×SV)->Nat->List (Nat×SV)
  | [],_=> []
  |(i,s)::r,t=>bif Nat.beq i t then del r t else(i,s)::del r t
def Sv (σ:List (Nat×SV)) (d:Option Nat) (s:SV):List (Nat×SV):=
  match d with
  |some t=>(t,s)::del σ t
  |none=>σ
def opd (σ:List (Nat×SV)):Operand->Option SV
  | .tmp t=>look σ t
  | .const v=>some (.one (adC v))
  | .func f=>some (.one (.s (.fn f [])))
  | .global _=>none
def mX (h:List bF) (k:Nat):bF:=(h[k]?).getD .dead
def iq:AV->List SC
  | .s x=> [x]
  | .agg cs=>cs
def SC.scalar:SC->Bool
  | .c (.val v)=>v.oneCell'
  | .bot=>false
  |_=>true
def Mv:List SC->Option (List CV)
  | []=>some []
  | .c x::r=>match Mv r with
    |some xs=>some (x::xs)
    |none=>none
  |_::_=>none
def splice {α:Type} (cs:List α) (off:Nat) (xs:List α):List α:=cs.take off++(xs++cs.drop (off+xs.length))
def upd (f:Nat->List CV) (i:Nat) (c:List CV):Nat->List CV:=λj=>if j=i then c else f j
def app (n:Nat) (f g:Nat->List CV):Nat->List CV:=λi=>if i<n then f i else g (i - n)
def cpy (lo n:Nat) (f g:Nat->List CV):Nat->List CV:=λi=>if lo<=i/\i<lo+n then g (i - lo)else f i
structure Eff where
  r:SV
  ws:List (Nat×bF):= []
  bs:List Bool:= []
  cs:List Prop:= []
def Mw (P:Program) (t:TypeId):Bool:=
  match P.underlying t with
  |some (.struct _)=>true
  |some (.array _ _)=>true
  |_=>false
def Sw (P:Program) (T:TypeId) (cs:List SC) (off:Nat):Option AV:=
  match P.underlying T with
  |none=>none
  | some _=>
    bif Mw P T then
      match P.info? T with
      |some i=>if off+i.size<=cs.length then some (.agg ((cs.drop off).take i.size))else none
      |none=>none
    else
      match cs[off]? with
      |some x=>some (.s x)
      |none=>none
def agB (P:Program) (T:TypeId) (get:Nat->bF) (p:SC):Option Eff:=
  match p with
  | .pb k off=>match get k with
    | .box cs=>match Sw P T cs off with
      |some v=>some {r:= .one v}
      |none=>none
    |_=>none
  | .pe k i off=>match get k with
    | .arr _ _ f=>match Sw P T ((f i).map .c) off with
      |some v=>some {r:= .one v}
      |none=>none
    |_=>none
  | .rp cs=>match Sw P T (cs.map .c) 0 with
    |some v=>some {r:= .one v}
    |none=>none
  |_=>none
def YJ (P:Program) (T:TypeId) (get:Nat->bF) (p:SC) (v:AV):Option Eff:=
  match P.info? T with
  |none=>none
  | some i=>
    bif Nat.beq (iq v).length i.size&&(iq v).all SC.scalar then
      match p with
      | .pb k off=>match get k with
        | .box cs=>bif Nat.ble (off+i.size) cs.length then some {r:=mkv undef,ws:= [(k,.box (splice cs off (iq v)))]}else none
        |_=>none
      | .pe k j off=>match get k,Mv (iq v)with
        | .arr z n f,some xs=>bif Nat.ble (off+i.size) z then some {r:=mkv undef,ws:= [(k,.arr z n (upd f j (splice (f j) off xs)))]}else none
        |_,_=>none
      |_=>none
    else none
def vw (get:Nat->bF):SC->SC
  | .own k=>match get k with
    | .arr _ n _=> .sl k 0 n
    |_=> .own k
  | .c (.ls t xs)=> .c (.rd (wd t) xs.length (fE t xs))
  |x=>x
def apc (z:Nat):CV->Option (Nat×(Nat->List CV)×List Bool)
  | .rd z' n f=>bif Nat.beq z z' then some (n,f,[])else none
  | .e0=>some (0,λ_=> [],[])
  | .val (.slice none 0 _)=>some (0,λ_=> [],[])
  |_=>none
def aqT:CV->Option (Nat×(Nat->List CV)×List Bool×List (Nat×bF))
  | .e0=>some (0,λ_=> [],[],[])
  | .val (.slice none 0 0)=>some (0,λ_=> [],[],[])
  |_=>none
def Tg (z:Nat) (get:Nat->bF):SC->Option (Nat×(Nat->List CV)×List Bool)
  | .sl k lo len=>match get k with
    | .arr z' n f=>bif Nat.beq z z' then some (len,λi=>f (lo+i),[decide (lo+len<=n)])else none
    |_=>none
  | .c x=>apc z x
  |_=>none
def LP (z:Nat) (get:Nat->bF):SC->Option (Nat×(Nat->List CV)×List Bool)
  | .own k=>match get k with
    | .arr z' n f=>bif Nat.beq z z' then some (n,f,[])else none
    |_=>none
  | .c (.ls t xs)=>bif Nat.beq z (wd t)then some (xs.length,fE t xs,[])else none
  |x=>Tg z get x
def YK (z:Nat) (get:Nat->bF):SC->Option (Nat×(Nat->List CV)×List Bool×List (Nat×bF))
  | .own k=>match get k with
    | .arr z' n f=>bif Nat.beq z z' then some (n,f,[],[(k,.dead)])else none
    |_=>none
  | .c x=>aqT x
  |_=>none
def mY (P:Program) (t:TypeId):Option (TypeId×TypeInfo×Array Value):=
  match P.underlying t with
  | some (.slice e)=>match P.info? e with
    | some i=>match i.zero with
      |some z=>bif Nat.beq z.cells.size i.size&&(z.cells.all Value.oneCell')&&Nat.blt 0 i.size&&Nat.blt 0 i.bytes then some (e,i,z.cells)else none
      |none=>none
    |none=>none
  |_=>none
def RJ (P:Program) (t:TypeId) (id:Nat) (get:Nat->bF) (s x:SC):Option Eff:=
  match mY P t with
  |none=>none
  | some (_,i,_)=>
    match YK i.size get s,LP i.size get x with
    | some (n,f,c1,w1),some (k,g,c2)=>
      some {r:= .one (.s (.own id)),ws:=w1++ [(id,.arr i.size (n+k) (app n f g))],bs:=c1++(c2++ [decide ((n+k)*i.bytes<=140737488355328)])}
    |_,_=>none
def agC (P:Program) (t:TypeId) (id:Nat) (n:Int):Option Eff:=
  match mY P t with
  |none=>none
  |some (_,i,z)=>
      some {r:= .one (.s (.own id)),ws:= [(id,.arr i.size n.toNat (λ_=>z.toList.map .val))],bs:= [decide (0<n/\n*i.bytes<=140737488355328)]}
def Wj (P:Program) (t:TypeId) (get:Nat->bF) (s x:SC):Option Eff:=
  match mY P t with
  |none=>none
  | some (_,i,_)=>
    match s,LP i.size get x with
    | .sl k lo len,some (m,g,c2)=>match get k with
      | .arr z n f=>bif Nat.beq z i.size then some {r:=mkv (.int .i64 ((min m len:Nat):Int)),ws:= [(k,.arr z n (cpy lo (min m len) f g))],bs:=c2++ [decide (lo+len<=n)]}else none
      |_=>none
    |_,_=>none
def agD (P:Program) (t:TypeId) (get:Nat->bF) (s x:SC):Option Eff:=Wj P t get (vw get s) x
def RN (P:Program) (t:TypeId) (get:Nat->bF) (s:SC):Option Eff:=
  match mY P t with
  |none=>none
  | some (_,i,z)=>
    match s with
    | .sl k lo len=>match get k with
      | .arr z' n f=>bif Nat.beq z' i.size then some {r:= .tup [],ws:= [(k,.arr z' n (cpy lo len f (λ_=>z.toList.map .val)))],bs:= [decide (lo+len<=n)]}else none
      |_=>none
    |_=>none
def ab2 (P:Program) (t:TypeId) (get:Nat->bF) (s:SC):Option Eff:=RN P t get (vw get s)
def lenOf (x:SC):Option Nat:=
  match x with
  | .sl _ _ len=>some len
  | .c (.rd _ n _)=>some n
  | .c .e0=>some 0
  | .c (.val (.slice _ n _))=>some n
  |_=>none
def ajx (op:BinOp) (k:IntKind) (a b:Int):Option (Value×List Bool):=
  match op with
  | .add=>some (.int k (k.wrap (a+b)),[])
  | .sub=>some (.int k (k.wrap (a - b)),[])
  | .mul=>some (.int k (k.wrap (a*b)),[])
  | .quo=>some (.int k (k.wrap (a.tdiv b)),[decide (b≠0)])
  | .rem=>some (.int k (a.tmod b),[decide (b≠0)])
  | .and=>some (.int k (k.wrap ((BitVec.ofInt k.bits a&&&BitVec.ofInt k.bits b).toNat)),[])
  | .or=>some (.int k (k.wrap ((BitVec.ofInt k.bits a|||BitVec.ofInt k.bits b).toNat)),[])
  | .xor=>some (.int k (k.wrap ((BitVec.ofInt k.bits a^^^BitVec.ofInt k.bits b).toNat)),[])
  | .andNot=>some (.int k (k.wrap ((BitVec.ofInt k.bits a&&& ~~~ BitVec.ofInt k.bits b).toNat)),[])
  | .eql=>some (.bool (a==b),[])
  | .neq=>some (.bool (a !=b),[])
  | .lss=>some (.bool (decide (a<b)),[])
  | .leq=>some (.bool (decide (a<=b)),[])
  | .gtr=>some (.bool (decide (b<a)),[])
  | .geq=>some (.bool (decide (b<=a)),[])
  |_=>none
def Yv (op:BinOp) (k:IntKind) (a b:Int):Option (Value×List Bool):=
  match op with
  | .shl=>some (.int k (k.wrap (a*2^(min b.toNat k.bits))),[decide (0<=b)])
  | .shr=>some (.int k (a.fdiv (2^(min b.toNat k.bits))),[decide (0<=b)])
  |_=>none
def ajy (op:BinOp) (x y:ByteArray):Option (Value×List Bool):=
  match op with
  | .add=>some (.string (x++y),[decide (x.size+y.size<=9223372036854775807)])
  | .eql=>some (.bool (x.toList==y.toList),[])
  | .neq=>some (.bool (!(x.toList==y.toList)),[])
  | .lss=>some (.bool (Op.bytesLess x.toList y.toList),[])
  | .leq=>some (.bool (Op.bytesLess x.toList y.toList||x.toList==y.toList),[])
  | .gtr=>some (.bool (!(Op.bytesLess x.toList y.toList||x.toList==y.toList)),[])
  | .geq=>some (.bool (!(Op.bytesLess x.toList y.toList)),[])
  |_=>none
def agE (P:Program) (op:BinOp) (t:TypeId) (x y:Value):Option (Value×List Bool):=
  match x,y with
  | .int k a,.int k' b=>
    match op with
    | .shl=>Yv .shl k a b
    | .shr=>Yv .shr k a b
    |_=>if k=k' then ajx op k a b else none
  | .string a,.string b=>ajy op a b
  | .bool a,.bool b=>
    match P.underlying t,op with
    |some .bool,.eql=>some (.bool (a==b),[])
    |some .bool,.neq=>some (.bool (!(a==b)),[])
    |_,_=>none
  | .slice none 0 0,.slice none 0 0=>
    match P.underlying t,op with
    |some (.slice _),.eql=>some (.bool true,[])
    |some (.slice _),.neq=>some (.bool false,[])
    |_,_=>none
  |_,_=>none
def ajz (P:Program) (t:TypeId) (x y:Value):Option Bool:=
  match P.underlying t,x,y with
  |some .bool,.bool a,.bool b=>some (a==b)
  |some (.int _),.int k a,.int k' b=>if k=k' then some (a==b)else none
  |some .string,.string a,.string b=>some (a.toList==b.toList)
  |_,_,_=>none
def cellV (xs:List SC) (i:Nat):Option Value:=
  match xs[i]? with
  |some (.c (.val v))=>some v
  |_=>none
def within (P:Program) (n off:Nat) (t:TypeId):Bool:=
  match P.info? t with
  |some i=>Nat.ble (off+i.size) n&&Nat.blt 0 i.size
  |none=>false
def leaves (P:Program):Nat->TypeId->Nat->Option (List (Nat×TypeId))
  |0,_,_=>none
  | d + 1,t,off=>
    match P.underlying t with
    | some (.struct fs)=>bif P.stoodInHeld t then none else
      fs.toList.foldr (λf acc=>match leaves P d f.type (off+f.offset),acc with
        |some l,some r=>bif f.name== "_" then none else bif within P (P.cellsOf t) f.offset f.type then some (l++r)else none
        |_,_=>none) (some [])
    |some (.array _ _)=>none
    |some _=>some [(off,t)]
    |none=>none
def afe (P:Program) (xs ys:List SC):List (Nat×TypeId)->Option Bool
  | []=>some true
  | (off,t)::r=>
    match cellV xs off,cellV ys off with
    | some x,some y=>match ajz P t x y,afe P xs ys r with
      |some a,some b=>some (a&&b)
      |_,_=>none
    |_,_=>none
def apz:SC->Bool
  | .pb _ _=>true
  | .pe _ _ _=>true
  | .rp _=>true
  |_=>false
def anV (P:Program) (op:BinOp) (t:TypeId) (x y:SV):Option Eff:=
  match x,y with
  | .one (.s (.c (.val a))),.one (.s (.c (.val b)))=>match agE P op t a b with
    |some (v,c)=>some {r:=mkv v,bs:=c}
    |none=>none
  | .one (.s (.c (.ls _ (_::_)))),.one (.s (.c (.val (.slice none 0 0))))=>match P.underlying t,op with
    |some (.slice _),.eql=>some {r:=mkv (.bool false)}
    |some (.slice _),.neq=>some {r:=mkv (.bool true)}
    |_,_=>none
  | .one (.agg xs),.one (.agg ys)=>
    bif P.eqGuardType P.depth t|| !(Mw P t&&(P.info? t).isSome&&Nat.beq xs.length (P.cellsOf t)&&Nat.beq ys.length (P.cellsOf t))then none else
    match leaves P 100 t 0 with
    |none=>none
    | some ls=>match afe P xs ys ls,op with
      |some b,.eql=>some {r:=mkv (.bool b)}
      |some b,.neq=>some {r:=mkv (.bool (!b))}
      |_,_=>none
  |_,_=>none
def arD (op:UnOp) (x:Value):Option Value:=
  match op,x with
  | .not,.bool b=>some (.bool (!b))
  | .neg,.int k n=>some (.int k (k.wrap (0 - n)))
  |_,_=>none
def placeOf (P:Program) (fs:Array Field) (i:Nat):Option (Nat×Nat):=
  match fs[i]? with
  | some f=>match P.info? f.type with
    |some j=>some (f.offset,j.size)
    |none=>none
  |none=>none
def PE (place:Nat->Option (Nat×Nat)) (cells:List SC):List (Nat×AV)->Option (List SC)
  | []=>some cells
  | (i,v)::r=>match place i with
    |none=>none
    | some (off,size)=>
      bif Nat.beq (iq v).length size&&Nat.ble (off+size) cells.length&&(iq v).all SC.scalar then PE place (splice cells off (iq v)) r else none
def partsOf (ρ:Operand->Option SV):List (Nat×Operand)->Option (List (Nat×AV))
  | []=>some []
  | (i,x)::r=>match ρ x,partsOf ρ r with
    |some (.one v),some l=>some ((i,v)::l)
    |_,_=>none
def vals (cs:List Value):List SC:=cs.map λv=> .c (.val v)
def afx (P:Program) (t:TypeId) (parts:List (Nat×AV)):Option Eff:=
  match P.info? t,P.underlying t with
  | some i,some (.struct fs)=>
    match i.zero with
    | some (.agg z)=>
      bif z.all Value.oneCell'&&fs.all (λf=>(P.info? f.type).isSome)then
        match PE (placeOf P fs) (vals z.toList) parts with
        |some cs=>some {r:= .one (.agg cs)}
        |none=>none
      else none
    |_=>none
  | some i,some (.array _ e)=>
    match i.zero,P.info? e with
    | some (.agg z),some j=>
      bif z.all Value.oneCell' then
        match PE (λk=>some (k*j.size,j.size)) (vals z.toList) parts with
        |some cs=>some {r:= .one (.agg cs)}
        |none=>none
      else none
    |_,_=>none
  |_,_=>none
def rep (z:List SC):Nat->List SC
  |0=> []
  |n+1=>z++rep z n
def Cv (P:Program) (t:TypeId) (id len:Nat) (parts:List (Nat×AV)):Option Eff:=
  match mY P t with
  |none=>none
  | some (_,i,z)=>
    bif Nat.ble (len*i.size) 16777216 then
      match PE (λk=>some (k*i.size,i.size)) (rep (vals z.toList) len) parts with
      | some cs=>match Mv cs with
        |some xs=>some {r:= .one (.s (.own id)),ws:= [(id,.arr i.size len (λj=>(xs.drop (j*i.size)).take i.size))]}
        |none=>none
      |none=>none
    else none
def Xi:Nat->List (Nat×AV)->Option (List Nat)
  |_,[]=>some []
  | j,(i,.s (.own k))::r=>bif Nat.beq i j then(match Xi (j+1) r with
    |some l=>some (k::l)
    |none=>none)else none
  |_,_=>none
def rdO:bF->CV
  | .arr z n f=> .rd z n f
  |_=> .e0
def Xj:bF->Bool
  | .arr _ _ _=>true
  |_=>false
def X0 (ks:List Nat):List (Nat×bF):=ks.map λk=>(k,.dead)
def ajA (P:Program) (t:TypeId) (id:Nat) (get:Nat->bF) (len:Nat) (ks:List Nat):Option Eff:=
  match mY P t with
  |none=>none
  | some (_,i,_)=>
    bif Nat.beq i.size 1&&Nat.beq ks.length len&&Nat.ble (len*i.size) 16777216&&ks.all (λk=>Xj (get k))then
      some {r:= .one (.s (.own id)),ws:=X0 ks++ [(id,.arr i.size len (λj=>((ks.map λk=>rdO (get k)).drop (j*i.size)).take i.size))]}
    else none
def abb (P:Program) (t:TypeId) (id:Nat) (get:Nat->bF) (len:Nat) (l:List (Nat×AV)):Option Eff:=
  match l,Xi 0 l with
  |_::_,some ks=>ajA P t id get len ks
  |_,_=>Cv P t id len l
def agF (P :Program) (t:TypeId) (id:Nat) (l c:Int):Option Eff:=
  match mY P t with
  |none=>none
  | some (_,i,z)=>
    some { r:= .one (.s (.own id)),ws:= [(id,.arr i.size l.toNat (λ_=>z.toList.map .val))],
           bs:= [decide (0<=l/\l<=c/\c<=9223372036854775807/\c*i.bytes<=140737488355328)]}
def O0 (ρ:Operand->Option SV):Option Operand->Option (Option Int)
  |none=>some none
  | some x=>match ρ x with
    |some (.one (.s (.c (.val (.int _ n)))))=>some (some n)
    |_=>none
def RO (P : Program) (t:TypeId) (get:Nat->bF) (x:SC) (lo hi mx:Option Int):Option Eff:=
  match P.underlying t with
  | some (.slice e)=>
    match P.info? e with
    |none=>none
    |some ie=>
    match mx with
    | some m=>match lo,hi,lenOf x with
      |none,some h,some _=>bif(h==0)&&(m==0)then some {r:= .one (.s (.c .e0))}else none
      |_,_,_=>none
    | none=>
      match x with
      | .sl k l len=>match get k with
        | .arr z _ _=>bif Nat.beq z ie.size then
            let b:Int:=match hi with|some h=>h|none=>(len:Int)
            match lo with
            |none=>some {r:= .one (.s (.sl k l b.toNat)),bs:= [decide (0<=b/\b<=len)]}
            |some a=>some {r:= .one (.s (.sl k (l+a.toNat) (b.toNat - a.toNat))),bs:= [decide (0<=a/\a<=b/\b<=len)]}
          else none
        |_=>none
      | .c (.rd z n f)=>
        bif Nat.beq z ie.size then
        let b:Int:=match hi with|some h=>h|none=>(n:Int)
        match lo with
        |none=>some {r:= .one (.s (.c (.rd z b.toNat f))),bs:= [decide (0<=b/\b<=n)]}
        |some a=>some {r:= .one (.s (.c (.rd z (b.toNat - a.toNat) (λi=>f (a.toNat+i))))),bs:= [decide (0<=a/\a<=b/\b<=n)]}
        else none
      | .c (.val v)=>match v,lo,hi with
        | .slice none 0 0,none,some b=>bif decide (b=0)then some {r:=mkv (.slice none 0 0)}else none
        |_,_,_=>none
      |_=>none
  | some .string=>
    match x,mx with
    | .c (.val (.string s)),none=>
      let b:Int:=match hi with|some h=>h|none=>(s.size:Int)
      let a:Int:=match lo with|some h=>h|none=>0
      some {r:=mkv (.string (s.extract a.toNat b.toNat)),bs:= [decide (0<=a/\a<=b/\b<=s.size)]}
    |_,_=>none
  |_=>none
def ab3 (P:Program) (t:TypeId) (get:Nat->bF) (x:SC) (lo hi mx:Option Int):Option Eff:=RO P t get (vw get x) lo hi mx
def Wl (P:Program) (s:TypeId) (f:Nat):Option (Nat×TypeId):=
  match P.underlying s with
  | some (.struct fs)=>match fs[f]? with
    | some fl=>match P.info? fl.type with
      |some i=>bif Nat.beq i.size 0 then none else some (fl.offset,fl.type)
      |none=>none
    |none=>none
  |_=>none
def TT (P:Program) (s:TypeId) (x:SC) (f:Nat):Option Eff:=
  match Wl P s f with
  |none=>none
  | some (o,_)=>match x with
    | .pb k off=>some {r:= .one (.s (.pb k (off+o)))}
    | .pe k i off=>some {r:= .one (.s (.pe k i (off+o)))}
    | .rp cs=>some {r:= .one (.s (.rp (cs.drop o)))}
    |_=>none
def Cw (P:Program) (t:TypeId) (get:Nat->bF) (x:SC) (i:Int):Option Eff:=
  match P.underlying t with
  | some (.slice e)=>match P.info? e with
    |none=>none
    | some ie=>match x with
      | .sl k lo len=>match get k with
        | .arr z n _=>bif Nat.beq z ie.size then some {r:= .one (.s (.pe k (lo+i.toNat) 0)),bs:= [decide (0<=i/\i<len),decide (lo+len<=n)]}else none
        |_=>none
      | .c (.rd z n f)=>bif Nat.beq z ie.size then some {r:= .one (.s (.rp (f i.toNat))),bs:= [decide (0<=i/\i<n)]}else none
      |_=>none
  | some (.array len e)=>match P.info? e with
    |none=>none
    | some ie=>match x with
      | .pb k off=>some {r:= .one (.s (.pb k (off+i.toNat*ie.size))),bs:= [decide (0<=i/\i<len)]}
      | .pe k j off=>some {r:= .one (.s (.pe k j (off+i.toNat*ie.size))),bs:= [decide (0<=i/\i<len)]}
      | .rp cs=>some {r:= .one (.s (.rp (cs.drop (i.toNat*ie.size)))),bs:= [decide (0<=i/\i<len)]}
      |_=>none
  |_=>none
def JE (P:Program) (t0:TypeId) (get:Nat->bF) (x:SC) (i:Int):Option Eff:=
  match x with
  | .own k=>match P.underlying t0 with
    | some (.slice e)=>match P.info? e,get k with
      |some ie,.arr z n _=>bif Nat.beq z ie.size then some {r:= .one (.s (.pe k i.toNat 0)),bs:= [decide (0<=i/\i<n)]}else none
      |_,_=>none
    |_=>none
  | .c (.ls t xs)=>Cw P t0 get (.c (.rd (wd t) xs.length (fE t xs))) i
  |x=>Cw P t0 get x i
def aqU:List Value->Option Value
  | []=>none
  | .int k x::r=>r.foldl (λacc v=>match acc,v with
    |some (.int k x),.int _ y=>some (.int k (if y<x then y else x))
    |_,_=>none) (some (.int k x))
  |_=>none
def aqV:List Value->Option Value
  | []=>none
  | .int k x::r=>r.foldl (λacc v=>match acc,v with
    |some (.int k x),.int _ y=>some (.int k (if x<y then y else x))
    |_,_=>none) (some (.int k x))
  |_=>none
def JF (ρ:Operand->Option SV):List Operand->Option (List Value)
  | []=>some []
  | x::r=>match ρ x,JF ρ r with
    |some (.one (.s (.c (.val v)))),some l=>some (v::l)
    |_,_=>none
def agG:SV->Option Nat
  | .one (.s (.c (.val (.string s))))=>some s.size
  |_=>none
def alZ (P:Program) (get:Nat->bF) (t:TypeId) (x:SV):Option Eff:=
  match P.underlying t with
  | some .string=>match agG x with
    |some n=>some {r:=mkv (.int .i64 (n:Int))}
    |none=>none
  | some (.slice _)=>match x with
    | .one (.s y)=>match lenOf (vw get y)with
      |some n=>some {r:=mkv (.int .i64 (n:Int))}
      |none=>none
    |_=>none
  |some (.array n _)=>some {r:=mkv (.int .i64 (n:Int))}
  |_=>none
def GZ (P:Program) (id:Nat) (get:Nat->bF) (ρ:Operand->Option SV) (b:Builtin) (args:List Operand) (ts:List TypeId):Option Eff:=
  match b,args,ts with
  | .len,[x],t::_=>match ρ x with
    |some v=>alZ P get t v
    |none=>none
  | .append,[s,x],[t,u]=>match ρ s,ρ x,P.underlying u with
    |some (.one (.s s)),some (.one (.s x)),some (.slice _)=>RJ P t id get s x
    |some (.one (.s (.c (.val (.slice none 0 0))))),some (.one (.s (.c (.val (.int _ n))))),some (.int _)=>agC P t id n
    |_,_,_=>none
  | .copy,[s,x],t::_=>match ρ s,ρ x with
    |some (.one (.s s)),some (.one (.s x))=>agD P t get s x
    |_,_=>none
  | .clear,[s],t::_=>match ρ s with
    |some (.one (.s s))=>ab2 P t get s
    |_=>none
  | .cap,[x],t::_=>match ρ x,P.underlying t with
    |some (.one (.s (.c (.val (.slice none 0 0))))),some (.slice _)=>some {r:=mkv (.int .i64 0)}
    |_,_=>none
  | .min,args,_=>match JF ρ args with
    | some vs=>match aqU vs with
      |some v=>some {r:=mkv v}
      |none=>none
    |none=>none
  | .max,args,_=>match JF ρ args with
    | some vs=>match aqV vs with
      |some v=>some {r:=mkv v}
      |none=>none
    |none=>none
  |_,_,_=>none
def Xk (ρ:Operand->Option SV):List Operand->Option (List Nat)
  | []=>some []
  | x::r=>match ρ x,Xk ρ r with
    |some (.one (.s (.pb k 0))),some l=>some (k::l)
    |_,_=>none
def aqW:List CV->Bool
  | [.val (.int .u8 _)]=>true
  |_=>false
def u8v:List CV->UInt8
  | [.val (.int .u8 n)]=>UInt8.ofNat n.toNat
  |_=>0
def adD (n:Nat) (f:Nat->List CV):ByteArray:=(List.range n).foldl (λr i=>r.push (u8v (f i))) ByteArray.empty
def ajB (P:Program) (e:TypeId) (o:bF):Option Eff:=
  match o with
  | .arr z n f=>match P.underlying e with
    |some (.int .u8)=>bif Nat.beq z 1 then some {r:=mkv (.string (adD n f)),bs:= [(List.range n).all λi=>aqW (f i)]}else none
    |_=>none
  |_=>none
def ajC (P:Program) (t:TypeId):Option Int:=
  match P.underlying t with
  | some (.map k e)=>match P.underlying k,P.info? e with
    | some (.int .i64),some i=>match i.zero with
      |some (.int .i64 z)=>some z
      |_=>none
    |_,_=>none
  |_=>none
def adE (P:Program) (get:Nat->bF) (t:TypeId) (x i:Option SV) (ok:Bool):Option Eff:=
  match ajC P t,x,i,ok with
  | some z,some (.one (.s (.mp k))),some (.one (.s (.c (.val (.int .i64 n))))),false=>match get k with
    | .mp es=>some {r:=mkv (.int .i64 (afm z es n))}
    |_=>none
  |_,_,_,_=>none
def ajD (P:Program) (get:Nat->bF) (t:TypeId) (x i v:Option SV):Option Eff:=
  match ajC P t,x,i,v with
  | some _,some (.one (.s (.mp k))),some (.one (.s (.c (.val (.int .i64 n))))),some (.one (.s (.c (.val (.int .i64 u)))))=>match get k with
    | .mp es=>some {r:=mkv undef,ws:= [(k,.mp (alV es n u))]}
    |_=>none
  |_,_,_,_=>none
def evalOp (P:Program) (id:Nat) (ρ:Operand->Option SV) (get:Nat->bF):Op->Option Eff
  | .move x=>match ρ x with
    |some v=>some {r:=v}
    |none=>none
  | .assign x=>match ρ x with
    |some v=>some {r:=v}
    |none=>none
  | .pick c a b=>match ρ c with
    | some (.one (.s (.c (.val (.bool true)))))=>match ρ a with
      |some v=>some {r:=v}
      |none=>none
    | some (.one (.s (.c (.val (.bool false)))))=>match ρ b with
      |some v=>some {r:=v}
      |none=>none
    |_=>none
  | .alloc T=>match P.info? T with
    | some i=>match i.zero with
      |some z=>bif z.cells.all Value.oneCell' then some {r:= .one (.s (.pb id 0)),ws:= [(id,.box (vals z.cells.toList))]}else none
      |none=>none
    |none=>none
  | .box _ x=>match ρ x with
    |some (.one v)=>bif(iq v).all SC.scalar then some {r:= .one (.s (.pb id 0)),ws:= [(id,.box (iq v))]}else none
    |_=>none
  | .build t ps=>match partsOf ρ ps.toList with
    |some l=>afx P t l
    |none=>none
  | .buildSlice t n ps=>match partsOf ρ ps.toList with
    |some l=>abb P t id get n l
    |none=>none
  | .load T a=>match ρ a with
    |some (.one (.s p))=>agB P T get p
    |_=>none
  | .store T a v=>match ρ a,ρ v with
    |some (.one (.s p)),some (.one v)=>YJ P T get p v
    |_,_=>none
  | .nilCheck x=>match ρ x with
    |some (.one (.s p))=>bif apz p then some {r:= .one (.s p)}else none
    |_=>none
  | .binOp op t x y _=>match ρ x,ρ y with
    |some x,some y=>anV P op t x y
    |_,_=>none
  | .unOp op _ x=>match ρ x with
    | some (.one (.s (.c (.val v))))=>match arD op v with
      |some u=>some {r:=mkv u}
      |none=>none
    |_=>none
  | .convert s d x=>match P.underlying s,P.underlying d,ρ x with
    |some (.int _),some (.int k),some (.one (.s (.c (.val (.int _ n)))))=>some {r:=mkv (.int k (k.wrap n))}
    |some .string,some .string,some (.one (.s (.c (.val (.string b)))))=>some {r:=mkv (.string b)}
    |some (.slice e),some .string,some (.one (.s (.own k)))=>ajB P e (get k)
    |_,_,_=>none
  | .makeFunc fn first caps=>match fn,Xk ρ caps.toList with
    | .func f,some ks=>bif Nat.beq first.size 0 then some {r:= .one (.s (.fn f ks))}else none
    |_,_=>none
  | .makeSlice t l c=>match ρ l,ρ c with
    |some (.one (.s (.c (.val (.int _ l))))),some (.one (.s (.c (.val (.int _ c)))))=>agF P t id l c
    |_,_=>none
  | .slice t x lo hi mx=>match ρ x,O0 ρ lo,O0 ρ hi,O0 ρ mx with
    |some (.one (.s x)),some lo,some hi,some mx=>ab3 P t get x lo hi mx
    |_,_,_,_=>none
  | .fieldAddr s x f=>match ρ x with
    |some (.one (.s p))=>TT P s p f
    |_=>none
  | .field s x f=>match ρ x,Wl P s f with
    | some (.one (.agg cs)),some (o,t)=>match Sw P t cs o with
      |some v=>some {r:= .one v}
      |none=>none
    |_,_=>none
  | .indexAddr t x i=>match ρ x,ρ i with
    |some (.one (.s p)),some (.one (.s (.c (.val (.int _ n)))))=>JE P t get p n
    |_,_=>none
  | .index t x i=>match P.underlying t,ρ x,ρ i with
    |some .string,some (.one (.s (.c (.val (.string s))))),some (.one (.s (.c (.val (.int _ n)))))=>some {r:=mkv (.int .u8 (((s.data.toList.getD n.toNat 0).toNat:Nat):Int)),bs:= [decide (0<=n/\n<s.size)]}
    |_,_,_=>none
  | .extract x i=>match ρ x with
    | some (.tup vs)=>match vs[i]? with
      |some v=>some {r:= .one v}
      |none=>none
    |_=>none
  | .call c=>match c.callee with
    | .builtin b=>GZ P id get ρ b c.args.toList c.argTypes.toList
    |_=>none
  | .makeMap t none=>match ajC P t with
    |some _=>some {r:= .one (.s (.mp id)),ws:= [(id,.mp [])]}
    |none=>none
  | .lookup t x i ok=>adE P get t (ρ x) (ρ i) ok
  | .mapUpdate t x i v=>ajD P get t (ρ x) (ρ i) (ρ v)
  |_=>none
end Go.AM
namespace Go.AM
open Go Go.CP Go.RowKit
def bD (h:List bF):List (Nat×bF)->List bF
 | []=>h
 |(k,o)::r=>bD (h.set k o) r
theorem addr_add [Fuel] (b o n:Nat):(⟨b,o,none⟩:Addr).add n=⟨b,o+n,none⟩:=by
 unfold Addr.add;split<;>simp_all
def Ns (w:World) (m:vW) (M:Mu) (b off:Nat) (cs:List SC):Prop:=
 ∀(j:Nat) x,cs[j]? =some x→∃u,w.cell? ⟨b,off+j,none⟩=some u/\lU w m M x u
theorem Ns.drop [Fuel] {w:World} {m:vW} {M:Mu} {b off:Nat} {cs:List SC} (h:Ns w m M b off cs) (n:Nat):Ns w m M b (off+n) (cs.drop n):=by
 intro j x hx
 rw [List.getElem?_drop]at hx
 obtain⟨u,hu,hs⟩:=h _ _ hx
 exact⟨u,by rw [<-hu,Nat.add_assoc],hs⟩
section
variable {P:Program} {w:World} {m:vW} {M:Mu}
theorem X3 [Fuel] {b off n:Nat} {cs:List SC} (h:Ns w m M b off cs) (hn:n<=cs.length):
  ∃vs:Array Value,(loadCells ⟨b,off,none⟩ n).run P w= .ok vs w/\UF w m M (cs.take n) vs:=by
 have hu:∀j,j<n→∃u,w.cell? ⟨b,off+j,none⟩=some u∧∀x,cs[j]? =some x->lU w m M x u:=by
  intro j hj
  obtain⟨u,hu,hs⟩:=h j cs[j] (List.getElem?_eq_getElem (by omega))
  exact⟨u,hu,λx hx=>by rw [List.getElem?_eq_getElem (by omega)]at hx;cases hx;exact hs⟩
 let f:Nat->Value:=λj=>(w.cell? ⟨b,off+j,none⟩).getD undef
 have hf:∀j,j<n->w.cell? ((⟨b,off,none⟩:Addr).add j)=some (f j):=by
  intro j hj
  obtain⟨u,hu,_⟩:=hu j hj
  rw [addr_add];simp [f,hu]
 refine⟨_,run_loadCells w _ n f hf,by simp;omega,λi x hx=> ?_⟩
 have hi:i<n:=by
  rcases Nat.lt_or_ge i n with h'|h'
  ·exact h'
  ·rw [List.getElem?_take,if_neg (by omega)]at hx;cases hx
 obtain⟨u,hu,hs⟩:=hu i hi
 rw [List.getElem?_take,if_pos hi]at hx
 have:(((List.range n).map f).toArray.getD i undef)=u:=by
  simp [Array.getD,hi,f,hu]
 rw [this]
 exact hs x hx
theorem Ql [Fuel] {T:TypeId} {b off o:Nat} {cs:List SC} {v:AV} (h:Ns w m M b off cs) (hl:Sw P T cs o=some v):
  ∃u,(loadVar T ⟨b,off+o,none⟩).run P w= .ok u w/\Fp w m M v u:=by
 unfold Sw at hl
 cases hu:P.underlying T with
 |none=>rw [hu]at hl;cases hl
 | some d=>
  rw [hu]at hl
  simp only at hl
  cases hag:Mw P T with
  | true=>
   rw [hag]at hl
   cases hi:P.info? T with
   |none=>rw [hi]at hl;simp at hl
   | some i=>
    rw [hi]at hl
    simp only [cond_true]at hl
    split at hl
    ·rename_i hle
     cases hl
     obtain⟨vs,hr,hs⟩:=X3 (P:=P) (n:=i.size) (h.drop o) (by simp;omega)
     refine⟨.agg vs,?_,vs,rfl,hs⟩
     have hagg:(isAgg T).run P w= .ok true w:=by
      unfold Mw at hag;rw [hu]at hag
      unfold isAgg;simp only [Sem.run_bind,run_underlying hu,Result.andThen_ok]
      cases d<;>simp_all
     simp only [loadVar,Sem.run_bind,hagg,Result.andThen_ok,if_true,sizeOf,typeInfo,run_program,hi,Sem.run_pure,hr]
    ·cases hl
  | false=>
   rw [hag]at hl
   simp only [cond_false]at hl
   cases hx:cs[o]? with
   |none=>rw [hx]at hl;cases hl
   | some x=>
    rw [hx]at hl
    cases hl
    obtain⟨u,hu',hs⟩:=h o x hx
    refine⟨u,?_,hs⟩
    have hagg:(isAgg T).run P w= .ok false w:=by
     unfold Mw at hag;rw [hu]at hag
     unfold isAgg;simp only [Sem.run_bind,run_underlying hu,Result.andThen_ok]
     cases d<;>simp_all
    simp only [loadVar,Sem.run_bind,hagg,Result.andThen_ok,Bool.false_eq_true,if_false,run_load,hu']
end
section
variable {P:Program} {X:Mu} {w:World} {m:vW} {h:List bF}
theorem l5 [Fuel] {k:Nat} {o:bF} (e:mX h k=o) (ho:o.live):h[k]? =some o:=by
 unfold mX at e
 cases hk:h[k]? with
 |none=>rw [hk]at e;subst e;exact ho.elim
 |some x=>rw [hk]at e;simp at e;rw [e]
theorem adF [Fuel] (H:bI X w m h) {k:Nat} {cs:List SC} (e:mX h k= .box cs) {b:Nat} {l:Loc} (hk:m k=some l) (hb:l.blk=some b):
  Ns w m (MX X m h) b 0 cs:=by
 obtain⟨l',b',T,vs,e1,e2,e3,e4,_⟩:=H.obj k _ (l5 e trivial)
 rw [hk]at e1;cases e1;rw [hb]at e2;cases e2
 intro j x hx
 have hj:j<cs.length:=by
  rcases Nat.lt_or_ge j cs.length with h'|h'
  ·exact h'
  ·rw [List.getElem?_eq_none h']at hx;cases hx
 refine⟨vs.getD j undef,?_,e4.2 j x hx⟩
 rw [cell_of_row w b _ vs T _ e3]
 have:j<vs.size:=by rw [e4.1];exact hj
 simp [Array.getD,this]
theorem ajE [Fuel] (H:bI X w m h) {k z n:Nat} {f:Nat->List CV} (e:mX h k= .arr z n f) {l:Loc} (hk:m k=some l):l.n=n:=by
 obtain⟨l',e1,_,e3,_⟩:=H.obj k _ (l5 e trivial)
 rw [hk]at e1;cases e1;exact e3.1
theorem lU.vw [Fuel] (H:bI X w m h) {get:Nat->bF} (hget:∀k,(get k).live->mX h k=get k) {x:SC} {v:Value} (hs:lU w m (MX X m h) x v):lU w m (MX X m h) (Go.AM.vw get x) v:=by
 cases x with
 | own k=>
  simp only [Go.AM.vw]
  cases hg:get k with
  | arr z n f=>
   have hg':=hget k (by rw [hg];trivial)
   rw [hg]at hg'
   obtain⟨l',e1,_,e3,e4,e5⟩:=H.obj k _ (l5 hg' trivial)
   cases hs with
   |own _ l hk=>
    rw [hk]at e1;cases e1
    rw [<-e3.1]
    rw [<-e3.1]at e3
    refine .sl k 0 l'.n l' _ _ hk (λ_=>⟨rfl,rfl⟩) (λhne=> ?_) e3.2 (by omega)
    cases hb:l'.blk with
    |none=>have:=e4 hb;omega
    |some b=>exact⟨b,rfl,by rw [(e5 b hb).1,Nat.zero_mul]⟩
  |box cs=>exact hs
  |mp es=>exact hs
  |ra z1 n1 cs1=>exact hs
  |ms es1=>exact hs
  |dead=>exact hs
 |c y=>cases y with
  |ls t xs=>cases hs with|c h=>cases h with|ls _ _ _ h=>exact .c h
  |_=>exact hs
 |_=>exact hs
theorem ajF [Fuel] (H:bI X w m h) {k z n:Nat} {f:Nat->List CV} (e:mX h k= .arr z n f) {b:Nat} {l:Loc} (hk:m k=some l) (hb:l.blk=some b) {i:Nat} (hi:i<n):
  Ns w m (MX X m h) b (i*l.z) ((f i).map .c):=by
 obtain⟨l',e1,e2,e3,_,e5⟩:=H.obj k _ (l5 e trivial)
 rw [hk]at e1;cases e1
 obtain⟨e6,T,vs,e7,e8,_,e10⟩:=e5 b hb
 obtain⟨hlen,hc⟩:=e10 i hi
 intro j x hx
 rw [List.getElem?_map]at hx
 cases hy:(f i)[j]? with
 |none=>rw [hy]at hx;cases hx
 | some y=>
  rw [hy]at hx;cases hx
  have hj:j<z:=by
   rw [<-hlen]
   rcases Nat.lt_or_ge j (f i).length with h'|h'
   ·exact h'
   ·rw [List.getElem?_eq_none h']at hy;cases hy
  refine⟨vs.getD (i*z+j) undef,?_,.c (hc j y hy)⟩
  rw [e2,cell_of_row w b _ vs T _ e7]
  have h1:i*z+z<=l.cap*z:=by rw [<-Nat.succ_mul];exact Nat.mul_le_mul_right _ (by omega)
  have:i*z+j<vs.size:=by omega
  simp [Array.getD,this]
theorem al0 [Fuel] {cs:List CV} {b off:Nat} {M:Mu} {v:Value} (hs:lU w m M (.rp cs) v):∃b off,v= .pointer (some ⟨b,off,none⟩)/\Ns w m M b off (cs.map .c):=by
 cases hs with
 | rp _ b off c hb hs hc h=>
  refine⟨b,off,rfl,λj x hx=> ?_⟩
  rw [List.getElem?_map]at hx
  cases hy:cs[j]? with
  |none=>rw [hy]at hx;cases hx
  | some y=>
   rw [hy]at hx;cases hx
   have hj:j<cs.length:=by
    rcases Nat.lt_or_ge j cs.length with h'|h'
    ·exact h'
    ·rw [List.getElem?_eq_none h']at hy;cases hy
   exact⟨c j,hc j hj,.c (h j y hy)⟩
theorem ah1 [Fuel] (H:bI X w m h) {T:TypeId} {p:SC} {v:Value} {eff:Eff} (hp:lU w m (MX X m h) p v) (he:agB P T (mX h) p=some eff):
  ∃u,(Instr.loadAt T v).run P w= .ok u w/\eff.ws= []/\nZ w m (MX X m h) eff.r u:=by
 unfold agB at he
 cases p with
 | pb k off=>
  simp only at he
  cases hg:mX h k with
  | box cs=>
   rw [hg]at he
   simp only at he
   cases hl:Sw P T cs off with
   |none=>rw [hl]at he;cases he
   | some a=>
    rw [hl]at he;cases he
    cases hp with
    |pb _ _ b l hk hb=>
     obtain⟨u,hr,hs⟩:=Ql (P:=P) (adF H hg hk hb) hl
     refine⟨u,?_,rfl,hs⟩
     rw [Nat.zero_add]at hr
     simp only [Instr.loadAt,Instr.sureAddr,Sem.run_bind,Sem.run_pure,Result.andThen_ok,hr]
  |arr z n f=>rw [hg]at he;cases he
  |mp es=>rw [hg]at he;cases he
  |ra z1 n1 cs1=>rw [hg]at he;cases he
  |ms es1=>rw [hg]at he;cases he
  |dead=>rw [hg]at he;cases he
 | pe k i off=>
  simp only at he
  cases hg:mX h k with
  | arr z n f=>
   rw [hg]at he
   simp only at he
   cases hl:Sw P T ((f i).map .c) off with
   |none=>rw [hl]at he;cases he
   | some a=>
    rw [hl]at he;cases he
    cases hp with
    |pe _ _ _ b l hk hb hi=>
     rw [ajE H hg hk]at hi
     obtain⟨u,hr,hs⟩:=Ql (P:=P) (ajF H hg hk hb hi) hl
     refine⟨u,?_,rfl,hs⟩
     simp only [Instr.loadAt,Instr.sureAddr,Sem.run_bind,Sem.run_pure,Result.andThen_ok,hr]
  |box cs=>rw [hg]at he;cases he
  |mp es=>rw [hg]at he;cases he
  |ra z1 n1 cs1=>rw [hg]at he;cases he
  |ms es1=>rw [hg]at he;cases he
  |dead=>rw [hg]at he;cases he
 | rp cs=>
  simp only at he
  cases hl:Sw P T (cs.map .c) 0 with
  |none=>rw [hl]at he;cases he
  |some a=>
   rw [hl]at he;cases he
   obtain⟨b,off,rfl,hcells⟩:=al0 (b:=0) (off:=0) hp
   obtain⟨u,hr,hs⟩:=Ql (P:=P) hcells hl
   refine⟨u,?_,rfl,hs⟩
   simp only [Instr.loadAt,Instr.sureAddr,Sem.run_bind,Sem.run_pure,Result.andThen_ok]
   exact hr
 |c x=>cases he
 |own k=>cases he
 |sl k lo len=>cases he
 |fn f caps=>cases he
 |mp k=>cases he
 |fb f k off=>cases he
 |bot=>cases he
theorem agH [Fuel] (H:bI X w m h) {k:Nat} {o:bF} {l:Loc} {b:Nat} (hk:h[k]? =some o) (ho:o.live) (hm:m k=some l) (hb:l.blk=some b):b<w.heap.size:=by
 have:=H.obj k o hk
 cases o with
 |dead=>exact ho.elim
 |box cs=>
  obtain⟨l',b',T,vs,e1,e2,e3,_⟩:=this
  rw [hm]at e1;cases e1;rw [hb]at e2;cases e2
  exact lt_of_block e3
 |arr z n f=>
  obtain⟨l',e1,_,_,_,e5⟩:=this
  rw [hm]at e1;cases e1
  obtain⟨_,T,vs,e7,_⟩:=e5 b hb
  exact lt_of_block e7
 |ms es=>
  obtain⟨l',b',rows,clock,e1,e2,e3,_⟩:=this
  rw [hm]at e1;cases e1;rw [hb]at e2;cases e2
  exact lt_of_block e3
 |ra z n cs=>
  obtain⟨l',b',T,vs,e1,_,_,e2,_,e3,_⟩:=this
  rw [hm]at e1;cases e1;rw [hb]at e2;cases e2
  exact lt_of_block e3
 |mp es=>
  obtain⟨l',b',rows,clock,e1,e2,e3,_⟩:=this
  rw [hm]at e1;cases e1;rw [hb]at e2;cases e2
  exact lt_of_block e3
def Qf (m:vW) (id:Nat) (l:Loc):vW:=λk=>if k=id then some l else m k
def LQ (h:List bF):Option Nat->List bF
 |some k=>h.set k .dead
 |none=>h
theorem G5 [Fuel] (h:List bF) (kl:Option Nat):(LQ h kl).length=h.length:=by cases kl<;>simp [LQ]
theorem aR [Fuel] {α:Type} {l:List α} {i:Nat} {x:α} (h:l[i]? =some x):i<l.length:=by
 rcases Nat.lt_or_ge i l.length with h'|h'
 ·exact h'
 ·rw [List.getElem?_eq_none h']at h;cases h
theorem Stp.make [Fuel] (H:bI X w m h) {id:Nat} (hid:h[id]? =some .dead) (hm:m id=none) (kl:Option Nat) (l:Loc) (o:bF) (hol:o.live) {w':World}
  (hos:w'.os=w.os) (ajv:w'.tape=w.tape) (hout:UG w w') (hsize:w.heap.size<=w'.heap.size)
  (hkeep:∀b,b<w.heap.size->w'.heap[b]? =w.heap[b]? ∨∃k ok lk,kl=some k/\h[k]? =some ok/\ok.live/\m k=some lk/\lk.blk=some b)
  (hblk:∀b,l.blk=some b->w.heap.size<=b∨∃k ok lk,kl=some k/\h[k]? =some ok/\ok.live/\m k=some lk/\lk.blk=some b)
  (ajw:Later w m (MX X m h) w' (Qf m id l) (MX X (Qf m id l) ((LQ h kl).set id o))->Sr w' (Qf m id l) (MX X (Qf m id l) ((LQ h kl).set id o)) id o):
  Stp X w m h w' (Qf m id l) ((LQ h kl).set id o):=by
 have hlt:id<h.length:=aR hid
 have hk':∀k,kl=some k→¬k=id->((LQ h kl).set id o)[k]? =some .dead\/h.length<=k:=by
  intro k hk hne
  subst hk
  rcases Nat.lt_or_ge k h.length with h'|h'
  ·left;simp only [LQ];rw [List.getElem?_set_ne (by omega),List.getElem?_set_self h']
  ·exact .inr h'
 have hat:((LQ h kl).set id o)[id]? =some o:=by rw [List.getElem?_set_self (by rw [G5];exact hlt)]
 refine H.change (λk=>k=id\/kl=some k) (by rw [List.length_set,G5]) ?_ ?_ ?_ ?_ hos ajv hout hsize ?_ ?_ ?_ ?_ ?_
 ·intro k hk
  rw [List.getElem?_set_ne (by intro e;exact hk (.inl e.symm))]
  cases kl with
  |none=>rfl
  |some j=>simp only [LQ];rw [List.getElem?_set_ne (by intro e;exact hk (.inr (by rw [e])))]
 ·intro k l' hk
  unfold Qf
  rw [if_neg (by intro e;rw [e,hm]at hk;cases hk)];exact hk
 ·intro k hk;unfold Qf;rw [if_neg (by intro e;exact hk (.inl e))]
 ·intro k hk;unfold Qf;rw [if_neg (by omega)];exact H.used k hk
 ·intro k o' l' b hk ho hl hml hb
  by_cases e:k=id
  ·subst e
   unfold Qf at hml;rw [if_pos rfl]at hml;cases hml
   rcases hblk b hb with h1|⟨j,ok,lk,_,h2,h3,h4,h5⟩
   ·exact .inr h1
   ·exact .inl ⟨j,ok,lk,h2,h3,h4,h5⟩
  ·rcases hk with hk|hk
   ·exact absurd hk e
   ·rcases hk' k hk e with h1|h1
    ·rw [ho]at h1;cases h1;exact hl.elim
    ·have:=aR ho;rw [List.length_set,G5]at this;omega
 ·intro b hb
  rcases hkeep b hb with h1|⟨j,ok,lk,h1,h2,h3,h4,h5⟩
  ·exact .inl h1
  ·refine .inr ⟨⟨j,ok,lk,h2,h3,h4,h5⟩,λk o' l' hk ho hl hml hb'=>hk (.inr ?_)⟩
   rw [h1,H.inj j k ok o' lk l' b h2 ho h3 hl h4 hml h5 hb']
 ·intro k k' o1 o2 l1 l2 b hk h1 h2 h3 h4 h5 h6 h7 h8
  have Wm:∀q oq,((LQ h kl).set id o)[q]? =some oq->oq.live->kl=some q->q=id:=by
   intro q oq hq hlq hkl
   apply Classical.byContradiction
   intro e
   rcases hk' q hkl e with h9|h9
   ·rw [hq]at h9;cases h9;exact hlq.elim
   ·have:=aR hq;rw [List.length_set,G5]at this;omega
  have atK:k=id:=by
   rcases hk with hk|hk
   ·exact hk
   ·exact Wm k o1 h1 h3 hk
  subst atK
  apply Classical.byContradiction
  intro hne
  have hne':¬k'=k:=λe=>hne e.symm
  have hnk:¬kl=some k':=λe=>hne' (Wm k' o2 h2 h4 e)
  have h2':h[k']? =some o2:=by
   rw [List.getElem?_set_ne (by omega)]at h2
   cases kl with
   |none=>exact h2
   |some j=>simp only [LQ]at h2;rw [List.getElem?_set_ne (by intro e;exact hnk (by rw [e]))]at h2;exact h2
  have h6':m k'=some l2:=by unfold Qf at h6;rw [if_neg hne']at h6;exact h6
  unfold Qf at h5;rw [if_pos rfl]at h5;cases h5
  rcases hblk b h7 with h9|⟨j,ok,lk,h9,h10,h11,h12,h13⟩
  ·have:=agH H h2' h4 h6' h8;omega
  ·have:=H.inj j k' ok o2 lk l2 b h10 h2' h11 h4 h12 h6' h13 h8
   subst this
   exact hnk h9
 ·intro k hk h1 h2
  by_cases e:k=id
  ·subst e;rw [hat]at h1;cases h1;exact hol.elim
  ·unfold Qf;rw [if_neg e];exact h2
 ·intro hL k o' hk ho
  by_cases e:k=id
  ·subst e;rw [hat]at ho;cases ho;exact ajw hL
  ·rcases hk with hk|hk
   ·exact absurd hk e
   ·rcases hk' k hk e with h1|h1
    ·rw [ho]at h1;cases h1;trivial
    ·have:=aR ho;rw [List.length_set,G5]at this;omega
theorem Stp.write [Fuel] (H:bI X w m h) {k:Nat} {o o':bF} {l:Loc} {b:Nat} (hk:h[k]? =some o) (ho:o.live) (hm:m k=some l) (hb:l.blk=some b) {w':World}
  (hos:w'.os=w.os) (ajv:w'.tape=w.tape) (hout:UG w w') (hsize:w.heap.size<=w'.heap.size)
  (hkeep:∀c,c<w.heap.size->c≠b->w'.heap[c]? =w.heap[c]?)
  (ajw:Later w m (MX X m h) w' m (MX X m (h.set k o'))->Sr w' m (MX X m (h.set k o')) k o'):
  Stp X w m h w' m (h.set k o'):=by
 have hlt:k<h.length:=aR hk
 have hat:(h.set k o')[k]? =some o':=List.getElem?_set_self hlt
 refine H.change (λj=>j=k) (by simp) (λj hj=>List.getElem?_set_ne (by omega)) (λ_ _ h=>h) (λ_ _=>rfl) H.used hos ajv hout hsize ?_ ?_ ?_ (λ_ _ _ h=>h) ?_
 ·rintro j oj lj c rfl h1 h2 h3 h4
  rw [hm]at h3;cases h3;rw [hb]at h4;cases h4
  exact .inl ⟨j,o,l,hk,ho,hm,hb⟩
 ·intro c hc
  by_cases e:c=b
  ·subst e
   refine .inr ⟨⟨k,o,l,hk,ho,hm,hb⟩,λj oj lj hj h1 h2 h3 h4=>hj (H.inj j k oj o lj l c h1 hk h2 ho h3 hm h4 hb)⟩
  ·exact .inl (hkeep c hc e)
 ·rintro j k' o1 o2 l1 l2 c rfl h1 h2 h3 h4 h5 h6 h7 h8
  rw [hm]at h5;cases h5
  by_cases e:k'=j
  ·exact e.symm
  ·rw [List.getElem?_set_ne (by omega)]at h2
   exact H.inj j k' o o2 l l2 c hk h2 ho h4 hm h6 h7 h8
 ·rintro hL j oj rfl h1
  rw [hat]at h1;cases h1;exact ajw hL
theorem dU [Fuel] {α:Type} (cs:List α) (off:Nat) (xs:List α) (hl:off+xs.length<=cs.length) (i:Nat):
  (splice cs off xs)[i]? =if off<=i/\i<off+xs.length then xs[i - off]? else cs[i]? :=by
 unfold splice
 rcases Nat.lt_or_ge i off with h1|h1
 ·rw [if_neg (by omega),List.getElem?_append_left (by simp;omega),List.getElem?_take,if_pos h1]
 ·rw [List.getElem?_append_right (by simp;omega)]
  have e1:(cs.take off).length=off:=by simp;omega
  rw [e1]
  rcases Nat.lt_or_ge i (off+xs.length)with h2|h2
  ·rw [if_pos ⟨h1,h2⟩,List.getElem?_append_left (by omega)]
  ·rw [if_neg (by omega),List.getElem?_append_right (by omega),List.getElem?_drop]
   congr 1;omega
theorem jh [Fuel] {α:Type} (cs:List α) (off:Nat) (xs:List α) (hl:off+xs.length<=cs.length):(splice cs off xs).length=cs.length:=by
 unfold splice;simp;omega
end
end Go.AM
namespace Go.AM
open Go Go.CP Go.RowKit
section
variable {P:Program} {X:Mu} {w:World} {m:vW} {h:List bF} {M:Mu}
theorem YL [Fuel] {z n:Nat} {f:Nat->List CV} {v:Value} (h:OZ w M (.rd z n f) v):v.oneCell'=true:=by cases h<;>rfl
theorem lU.one [Fuel] {x:SC} {v:Value} (hs:lU w m M x v) (hx:x.scalar=true):v.oneCell'=true:=by
 cases hs with
 |c h=>cases h with
  |val v=>exact hx
  |ls _ _ _ h=>exact YL h
  |lsn _ _ _ h=>exact YL h
  |_=>rfl
 |bot v=>cases hx
 |_=>rfl
theorem adG [Fuel] {v:Value} (h:v.oneCell'=true):v.cells= #[v]:=by
 cases v<;>first|rfl|cases h
theorem Fp.cells [Fuel] {a:AV} {v:Value} (hs:Fp w m M a v) (ha:(iq a).all SC.scalar=true):
  UF w m M (iq a) v.cells∧∀u∈v.cells.toList,u.oneCell'=true:=by
 cases a with
 |s x=>
  have hx:x.scalar=true:=by simpa [iq]using ha
  have h1:=lU.one hs hx
  rw [adG h1]
  refine⟨⟨rfl,λi y hy=> ?_⟩,by simpa using h1⟩
  match i,hy with
  |0,hy=>cases hy;exact hs
  |i+1,hy=>simp [iq]at hy
 |agg cs=>
  obtain⟨vs,rfl,hl⟩:=hs
  refine⟨hl,λu hu=> ?_⟩
  obtain⟨i,hi,rfl⟩:=List.getElem_of_mem hu
  have hi':i<vs.size:=by simpa [Value.cells]using hi
  have hi2:i<cs.length:=by rw [<-hl.1];exact hi'
  have:=hl.2 i cs[i] (List.getElem?_eq_getElem hi2)
  have h1:=lU.one this (by simp only [iq,List.all_eq_true]at ha;exact ha _ (List.getElem_mem hi2))
  simpa [Array.getD,hi',Value.cells]using h1
theorem Qm [Fuel] {T:TypeId} {i:TypeInfo} (hi:P.info? T=some i) {b off:Nat} {cur:Array Value} {t:TypeId} {v:Value} (hg:w.heap[b]? =some (.cells cur t (0,0)))
  (hsz:v.cells.size=i.size) (hl:off+v.cells.size<=cur.size) (h1:∀u∈v.cells.toList,u.oneCell'=true):
  (Instr.storeAt T (.pointer (some ⟨b,off,none⟩)) v).run P w= .ok () (w.setRow b (splice cur.toList off v.cells.toList).toArray):=by
 have hst:=run_storeCells_at P b off t v.cells.toList 0 cur w hg (by simpa using hl) h1
 simp only [Nat.add_zero]at hst
 simp only [Instr.storeAt,Instr.sureAddr,storeVar,sizeOf,typeInfo,Sem.run_bind,Sem.run_pure,Result.andThen_ok,run_program,hi,hsz,ne_eq,not_true_eq_false,if_false]
 rw [hst]
 simp [splice,List.append_assoc]
theorem jw [Fuel] {l:List Value} {i:Nat}:l.toArray.getD i undef=(l[i]?).getD undef:=by
 simp [Array.getD]
 by_cases hi:i<l.length<;>simp [hi]
theorem iY [Fuel] {a:Array Value} {i:Nat}:a.getD i undef=(a.toList[i]?).getD undef:=by
 simp [Array.getD]
 by_cases hi:i<a.size<;>simp [hi]
theorem Cy [Fuel] {cur:List Value} {off:Nat} {vs:List Value} (hl:off+vs.length<=cur.length) (hc:∀i,i<cur.length->((cur[i]?).getD undef).oneCell'=true) (h1:∀u∈vs,u.oneCell'=true):
  ∀i,i<(splice cur off vs).toArray.size->((splice cur off vs).toArray.getD i undef).oneCell'=true:=by
 intro i hi
 rw [List.size_toArray,jh _ _ _ hl]at hi
 rw [jw,dU _ _ _ hl]
 split
 ·rename_i hx
  have:i - off<vs.length:=by omega
  rw [List.getElem?_eq_getElem this]
  exact h1 _ (List.getElem_mem this)
 ·exact hc i hi
theorem UH [Fuel]:∀{cs:List SC} {xs:List CV},Mv cs=some xs->cs=xs.map .c
 | [],xs,h=>by simp [Mv]at h;subst h;rfl
 | .c x::cs,xs,h=>by
  simp only [Mv]at h
  cases hr:Mv cs with
  |none=>rw [hr]at h;cases h
  |some ys=>rw [hr]at h;cases h;rw [UH hr];rfl
 | .rp _::cs,xs,h=>by simp [Mv]at h
 | .sl _ _ _::cs,xs,h=>by simp [Mv]at h
 | .pb _ _::cs,xs,h=>by simp [Mv]at h
 | .pe _ _ _::cs,xs,h=>by simp [Mv]at h
 | .fn _ _::cs,xs,h=>by simp [Mv]at h
 | .bot::cs,xs,h=>by simp [Mv]at h
theorem afy [Fuel] (H:bI X w m h) {T:TypeId} {p:SC} {a:AV} {pv v:Value} {eff:Eff} (hp:lU w m (MX X m h) p pv) (ha:Fp w m (MX X m h) a v)
  (he:YJ P T (mX h) p a=some eff):
  ∃w',(Instr.storeAt T pv v).run P w= .ok () w'/\eff.r=mkv undef/\Stp X w m h w' m (bD h eff.ws):=by
 unfold YJ at he
 cases hi:P.info? T with
 |none=>rw [hi]at he;cases he
 | some i =>
  rw [hi]at he
  simp only at he
  cases hb:(Nat.beq (iq a).length i.size&&(iq a).all SC.scalar)with
  |false=>rw [hb]at he;cases he
  | true =>
   rw [hb]at he
   simp only [cond_true]at he
   simp only [Bool.and_eq_true]at hb
   obtain⟨hsz,hsc⟩:=hb
   have hsz:=Nat.eq_of_beq_eq_true hsz
   obtain⟨hL,h1⟩:=Fp.cells ha hsc
   have hvs:v.cells.size=i.size:=by rw [hL.1];exact hsz
   cases p with
   | pb k off=>
    simp only at he
    cases hg:mX h k with
    | box cs=>
     rw [hg]at he
     simp only at he
     cases hle:Nat.ble (off+i.size) cs.length with
     |false=>rw [hle]at he;cases he
     | true=>
      rw [hle]at he;simp only [cond_true]at he;cases he
      have hle:=Nat.le_of_ble_eq_true hle
      cases hp with
      | pb _ _ b l hk hbk=>
       have hget:=l5 hg trivial
       obtain⟨l',b',t,cur,e1,e2,e3,e4,e5⟩:=H.obj k _ hget
       rw [hk]at e1;cases e1;rw [hbk]at e2;cases e2
       have hcl:off+v.cells.size<=cur.size:=by rw [e4.1,hvs];exact hle
       refine⟨_,Qm hi e3 hvs hcl h1,rfl,?_⟩
       refine Stp.write H hget trivial hk hbk rfl rfl ⟨rfl,λ_=>Nat.le_refl _⟩ (by simp) (λc _ hc=>setRow_other w b c _ hc) (λhLt=> ?_)
       refine⟨l,b,t,_,hk,hbk,setRow_heap w b cur _ t _ e3,⟨?_,λj x hx=> ?_⟩,?_⟩
       ·rw [List.size_toArray,jh _ _ _ (by simpa using hcl),jh _ _ _ (by rw [<-hL.1,hvs];exact hle)]
        simpa using e4.1
       ·rw [dU _ _ _ (by rw [<-hL.1,hvs];exact hle)]at hx
        rw [jw,dU _ _ _ (by simpa using hcl)]
        have hll:(iq a).length=v.cells.toList.length:=by rw [<-hL.1];simp
        rw [hll]at hx
        split at hx
        ·rename_i hin
         rw [if_pos hin]
         have:=(hL.2 _ _ hx).later hLt
         rwa [iY]at this
        ·rename_i hin
         rw [if_neg hin]
         have:=(e4.2 _ _ hx).later hLt
         rwa [iY]at this
       ·exact Cy (by simpa using hcl) (λj hj=>by have:=e5 j (by simpa using hj);rwa [iY]at this) h1
    |arr z n f=>rw [hg]at he;cases he
    |mp es=>rw [hg]at he;cases he
    |ra z1 n1 cs1=>rw [hg]at he;cases he
    |ms es1=>rw [hg]at he;cases he
    |dead=>rw [hg]at he;cases he
   | pe k j off=>
    simp only at he
    cases hg:mX h k with
    | arr z n f=>
     rw [hg]at he
     cases hcv:Mv (iq a)with
     |none=>rw [hcv]at he;cases he
     | some xs=>
      rw [hcv]at he
      simp only at he
      cases hle:Nat.ble (off+i.size) z with
      |false=>rw [hle]at he;cases he
      | true=>
       rw [hle]at he;simp only [cond_true]at he;cases he
       have hle:=Nat.le_of_ble_eq_true hle
       have hxs:iq a=xs.map .c:=UH hcv
       cases hp with
       | pe _ _ _ b l hk hbk hj=>
        rw [ajE H hg hk]at hj
        have hget:=l5 hg trivial
        obtain⟨l',e1,e2,e3,e4,e5⟩:=H.obj k _ hget
        rw [hk]at e1;cases e1
        obtain⟨e6,t,cur,e7,e8,e9,e10⟩:=e5 b hbk
        subst e2
        have hjz:j*l.z+l.z<=l.cap*l.z:=by rw [<-Nat.succ_mul];exact Nat.mul_le_mul_right _ (by omega)
        have hcl:j*l.z+off+v.cells.size<=cur.size:=by rw [e8,hvs];omega
        have hxl:xs.length=i.size:=by rw [<-hsz,hxs];simp
        refine⟨_,Qm hi e7 hvs hcl h1,rfl,?_⟩
        refine Stp.write H hget trivial hk hbk rfl rfl ⟨rfl,λ_=>Nat.le_refl _⟩ (by simp) (λc _ hc=>setRow_other w b c _ hc) (λhLt=> ?_)
        refine⟨l,hk,rfl,e3,e4,λb' hb'=> ?_⟩
        obtain rfl:b=b':=by rw [hbk]at hb';exact Option.some.inj hb'
        refine⟨e6,t,_,setRow_heap w b cur _ t _ e7,?_,?_,λq hq=> ?_⟩
        ·rw [List.size_toArray,jh _ _ _ (by simpa using hcl)];simpa using e8
        ·exact Cy (by simpa using hcl) (λj hj=>by have:=e9 j (by simpa using hj);rwa [iY]at this) h1
        ·obtain⟨hql,hqc⟩:=e10 q hq
         have hjl:=(e10 j hj).1
         unfold upd
         split
         ·rename_i hqj
          subst hqj
          refine⟨by rw [jh _ _ _ (by omega)];exact hql,λu x hx=> ?_⟩
          rw [dU _ _ _ (by omega)]at hx
          rw [jw,dU _ _ _ (by simpa using hcl)]
          have hvl:v.cells.toList.length=xs.length:=by simp [hvs,hxl]
          rw [hvl]
          have hu:u<l.z:=by
           split at hx
           ·omega
           ·rw [<-hql];exact aR hx
          split at hx
          ·rename_i hin
           rw [if_pos (by omega)]
           have hs:=hL.2 (u - off) (.c x) (by rw [hxs,List.getElem?_map,hx];rfl)
           rw [iY]at hs
           have e:q*l.z+u - (q*l.z+off)=u - off:=by omega
           rw [e]
           cases hs.later hLt with
           |c hs=>exact hs
          ·rename_i hin
           rw [if_neg (by omega)]
           have:=(hqc u x hx).later hLt
           rwa [iY]at this
         ·rename_i hqj
          refine⟨hql,λu x hx=> ?_⟩
          have hu:u<l.z:=by rw [<-hql];exact aR hx
          rw [jw,dU _ _ _ (by simpa using hcl)]
          have hvl:v.cells.toList.length=i.size:=by simp [hvs]
          rw [hvl,if_neg ?_]
          ·have:=(hqc u x hx).later hLt
           rwa [iY]at this
          ·rcases Nat.lt_or_gt_of_ne hqj with h'|h'
           ·have:q*l.z+l.z<=j*l.z:=by rw [<-Nat.succ_mul];exact Nat.mul_le_mul_right _ (by omega)
            omega
           ·have:j*l.z+l.z<=q*l.z:=by rw [<-Nat.succ_mul];exact Nat.mul_le_mul_right _ (by omega)
            omega
    |box cs=>rw [hg]at he;cases he
    |mp es=>rw [hg]at he;cases he
    |ra z1 n1 cs1=>rw [hg]at he;cases he
    |ms es1=>rw [hg]at he;cases he
    |dead=>rw [hg]at he;cases he
   |c x=>cases he
   |own k=>cases he
   |rp cs=>cases he
   |sl k lo len=>cases he
   |fn f caps=>cases he
   |mp k=>cases he
   |fb f k off=>cases he
   |bot=>cases he
end
end Go.AM
namespace Go.AM
open Go Go.CP Go.RowKit
inductive K7 {α β:Type} (R:α->β->Prop):List α->List β->Prop
 |nil:K7 R [] []
 |cons {a:α} {b:β} {l:List α} {r:List β} (h:R a b) (t:K7 R l r):K7 R (a::l) (b::r)
theorem Mx [Fuel] (w:World) (o:Obj):(w.alloc o).heap[w.heap.size]? =some o:=by
 show(w.heap.push o)[w.heap.size]? =_
 simp
section
variable {P:Program} {X:Mu} {w:World} {m:vW} {h:List bF}
theorem yX [Fuel] (w:World) (o:Obj) (b:Nat) (hb:b<w.heap.size):(w.alloc o).heap[b]? =w.heap[b]? :=Below.heap_alloc w o b hb
theorem Stp.am7 [Fuel] (H:bI X w m h) {id:Nat} (hid:h[id]? =some .dead) (hm:m id=none) {cs:List SC} {vs:Array Value} (T:TypeId)
  (hL:UF w m (MX X m h) cs vs) (h1:∀i,i<vs.size->(vs.getD i undef).oneCell'=true):
  ∃m',Stp X w m h (w.alloc (.cells vs T)) m' (bD h [(id,.box cs)])/\lU (w.alloc (.cells vs T)) m' (MX X m' (bD h [(id,.box cs)])) (.pb id 0) (.pointer (some ⟨w.heap.size,0,none⟩)):=by
 let l:Loc:=⟨some ⟨w.heap.size,0,none⟩,0,0,some w.heap.size,0⟩
 refine⟨Qf m id l,?_,.pb id 0 w.heap.size l (by simp [Qf]) rfl⟩
 refine Stp.make H hid hm none l (.box cs) trivial rfl rfl ⟨rfl,λ_=>Nat.le_refl _⟩ (by simp) (λb hb=> .inl (yX w _ b hb)) (λb hb=> ?_) (λhLt=> ?_)
 ·cases hb;exact .inl (Nat.le_refl _)
 ·exact⟨l,w.heap.size,T,vs,by simp [Qf],rfl,Mx w _,hL.later hLt,h1⟩
theorem Stp.agI [Fuel] (H:bI X w m h) {id:Nat} (hid:h[id]? =some .dead) (hm:m id=none) {w1:World} (hw1:w1.heap=w.heap) (hos:w1.os=w.os) (ht:w1.tape=w.tape) (ho:UG w w1)
  (kl:Option Nat) {z n cap:Nat} {f:Nat->List CV} {vs:Array Value} (T:TypeId)
  (hn:n<=cap) (hsz:vs.size=cap*z) (h1:∀i,i<vs.size->(vs.getD i undef).oneCell'=true)
  (hf:∀i,i<n->(f i).length=z∧∀(j:Nat) x,(f i)[j]? =some x->OZ w (MX X m h) x (vs.getD (i*z+j) undef)):
  ∃m',Stp X w m h (w1.alloc (.cells vs T)) m' ((LQ h kl).set id (.arr z n f))∧
   lU (w1.alloc (.cells vs T)) m' (MX X m' ((LQ h kl).set id (.arr z n f))) (.own id) (.slice (some ⟨w.heap.size,0,none⟩) n cap):=by
 let l:Loc:=⟨some ⟨w.heap.size,0,none⟩,cap,z,some w.heap.size,n⟩
 have hsz1:w1.heap.size=w.heap.size:=by rw [hw1]
 refine⟨Qf m id l,?_,.own id l (by simp [Qf])⟩
 refine Stp.make H hid hm kl l (.arr z n f) trivial hos ht ho (by simp [hsz1]) (λb hb=> .inl ?_) (λb hb=> ?_) (λhLt=> ?_)
 ·rw [yX w1 _ b (by rw [hsz1];exact hb),hw1]
 ·cases hb;exact .inl (Nat.le_refl _)
 ·refine⟨l,by simp [Qf],rfl,⟨rfl,hn⟩,(λe=>by cases e),λb hb=> ?_⟩
  cases hb
  refine⟨rfl,T,vs,?_,hsz,h1,λi hi=>⟨(hf i hi).1,λj x hx=>((hf i hi).2 j x hx).later hLt⟩⟩
  rw [<-hsz1];exact Mx w1 _
theorem Qn [Fuel] {M:Mu} (cs:List Value):UF w m M (vals cs) cs.toArray:=by
 refine⟨by simp [vals],λi x hx=> ?_⟩
 simp only [vals,List.getElem?_map]at hx
 cases hc:cs[i]? with
 |none=>rw [hc]at hx;cases hx
 |some v=>rw [hc]at hx;cases hx;rw [jw,hc];exact .c (.val v)
theorem foldl_set [Fuel] (off:Nat):∀(l:List Value) (k:Nat) (cells:Array Value),off+k+l.length<=cells.size→
  (l.zipIdx k).foldl (λ(cs:Array Value) (x:Value×Nat)=>cs.setIfInBounds (off+x.2) x.1) cells=(splice cells.toList (off+k) l).toArray
 | [],k,cells,hl=>by
  simp only [List.zipIdx_nil,List.foldl_nil]
  apply Array.ext'
  simp [splice]
 | c::r,k,cells,hl=>by
  simp only [List.length_cons]at hl
  rw [List.zipIdx_cons,List.foldl_cons]
  have ih:=foldl_set off r (k+1) (cells.setIfInBounds (off+k) c) (by simp;omega)
  rw [ih]
  congr 1
  apply List.ext_getElem?
  intro i
  rw [dU _ _ _ (by simp;omega),dU _ _ _ (by simp;omega)]
  simp only [Array.toList_setIfInBounds,List.length_cons]
  by_cases h1:off+(k+1)<=i/\i<off+(k+1)+r.length
  ·rw [if_pos h1,if_pos (by omega)]
   have:i - (off+k)=(i - (off+(k+1)))+1:=by omega
   rw [this,List.getElem?_cons_succ]
  ·rw [if_neg h1]
   by_cases h2:i=off+k
   ·subst h2
    rw [if_pos (by omega),List.getElem?_set_self (by simp;omega)]
    simp
   ·rw [if_neg (by omega),List.getElem?_set_ne (by omega)]
theorem adH [Fuel] (v:Array Value) (off:Nat) (cells:Array Value) (hl:off+v.size<=cells.size):
  (v.zipIdx.foldl (λcs (x:Value×Nat)=>cs.setIfInBounds (off+x.2) x.1) cells)=(splice cells.toList off v.toList).toArray:=by
 rw [<-Array.foldl_toList,Array.toList_zipIdx]
 exact foldl_set off v.toList 0 cells (by simpa using hl)
theorem UJ [Fuel] {M:Mu} {place:Nat->Option (Nat×Nat)}:∀{ps:List (Nat×AV)} {qs:List (Nat×Value)} {cells:List SC} {vs:Array Value} {cs':List SC},
  K7 (λ(a:Nat×AV) (b:Nat×Value)=>a.1=b.1/\Fp w m M a.2 b.2) ps qs->UF w m M cells vs->(∀i,i<vs.size->(vs.getD i undef).oneCell'=true)→
  PE place cells ps=some cs'→∃vs',Instr.fill place vs qs=some vs'/\UF w m M cs' vs'∧∀i,i<vs'.size->(vs'.getD i undef).oneCell'=true
 |_,_,cells,vs,cs',.nil,hL,h1,hf=>by
  simp only [PE,Option.some.injEq]at hf;subst hf
  exact⟨vs,rfl,hL,h1⟩
 | (i, a)::ps,(i',v)::qs,cells,vs,cs',.cons ⟨hi,ha⟩ hr,hL,h1,hf=>by
  simp only at hi ha;subst hi
  simp only [PE]at hf
  cases hp:place i with
  |none=>rw [hp]at hf;cases hf
  | some q=>
   obtain⟨off,size⟩:=q
   rw [hp]at hf
   simp only at hf
   cases hb:(Nat.beq (iq a).length size&&Nat.ble (off+size) cells.length&&(iq a).all SC.scalar)with
   |false=>rw [hb]at hf;cases hf
   | true=>
    rw [hb]at hf
    simp only [cond_true]at hf
    simp only [Bool.and_eq_true]at hb
    obtain⟨⟨b1,b2⟩,b3⟩:=hb
    have b1:=Nat.eq_of_beq_eq_true b1
    have b2:=Nat.le_of_ble_eq_true b2
    obtain⟨hc,ho⟩:=Fp.cells ha b3
    have e1:v.cells.size=size:=by rw [hc.1];exact b1
    have hcl:off+v.cells.size<=vs.size:=by rw [hL.1,e1];exact b2
    have hcl':off+(iq a).length<=cells.length:=by omega
    have hL':UF w m M (splice cells off (iq a)) (splice vs.toList off v.cells.toList).toArray:=by
     refine⟨?_,λj x hx=> ?_⟩
     ·rw [List.size_toArray,jh _ _ _ (by simpa using hcl),jh _ _ _ hcl'];simpa using hL.1
     ·rw [dU _ _ _ hcl']at hx
      rw [jw,dU _ _ _ (by simpa using hcl)]
      have hll:(iq a).length=v.cells.toList.length:=by rw [<-hc.1];simp
      rw [hll]at hx
      split at hx
      ·rename_i hin
       rw [if_pos hin]
       have:=hc.2 _ _ hx
       rwa [iY]at this
      ·rename_i hin
       rw [if_neg hin]
       have:=hL.2 _ _ hx
       rwa [iY]at this
    obtain⟨vs',r1,r2,r3⟩:=UJ hr hL' (Cy (by simpa using hcl) (λj hj=>by have:=h1 j (by simpa using hj);rwa [iY]at this) ho) hf
    refine⟨vs',?_,r2,r3⟩
    simp only [Instr.fill,hp]
    rw [if_neg (by simp [e1];omega),adH v.cells off vs hcl]
    exact r1
theorem Xl [Fuel] (z:List SC):∀(n i:Nat),i<n*z.length->(rep z n)[i]? =z[i%z.length]?
 |0,i,hi=>by simp at hi
 | n+1,i,hi=>by
  simp only [rep]
  rcases Nat.lt_or_ge i z.length with h1|h1
  ·rw [List.getElem?_append_left h1,Nat.mod_eq_of_lt h1]
  ·rw [List.getElem?_append_right h1,Xl z n (i - z.length) (by rw [Nat.succ_mul]at hi;omega)]
   congr 1
   rw [Nat.mod_eq_sub_mod h1]
theorem JA [Fuel] (z:List SC):∀n,(rep z n).length=n*z.length
 |0=>by simp [rep]
 |n+1=>by simp [rep,JA z n,Nat.succ_mul];omega
theorem ab4 [Fuel] {M:Mu} (z:Array Value) (n:Nat) (hz:0<z.size) (h1:z.all Value.oneCell'=true):
  UF w m M (rep (vals z.toList) n) ((Array.range (n*z.size)).map (z[· %z.size]!))∧
  ∀i,i<((Array.range (n*z.size)).map (z[· %z.size]!)).size->(((Array.range (n*z.size)).map (z[· %z.size]!)).getD i undef).oneCell'=true:=by
 have hat:∀i,i<n*z.size->((Array.range (n*z.size)).map (z[· %z.size]!)).getD i undef=z[i%z.size]'(Nat.mod_lt _ hz):=by
  intro i hi
  have:i%z.size<z.size:=Nat.mod_lt _ hz
  simp [Array.getD,hi,this]
 refine⟨⟨by simp [JA,vals],λi x hx=> ?_⟩,λi hi=> ?_⟩
 ·have hi:=aR hx
  rw [JA]at hi
  rw [Xl _ _ _ hi]at hx
  have e:(vals z.toList).length=z.size:=by simp [vals]
  rw [e]at hx hi
  rw [hat i hi]
  simp only [vals,List.getElem?_map]at hx
  have hlt:i%z.size<z.size:=Nat.mod_lt _ hz
  simp [hlt]at hx
  rw [<-hx]
  exact .c (.val _)
 ·simp at hi
  rw [hat i hi]
  rw [Array.all_eq_true]at h1
  exact h1 _ _
end
end Go.AM
namespace Go.AM
open Go Go.CP Go.RowKit
section
variable {P:Program} {X:Mu} {w:World} {m:vW} {h:List bF}
theorem run_places [Fuel]:∀(fs:List Field),(fs.all λf=>(P.info? f.type).isSome)=true→
  (fs.mapM λf=>do pure (f.offset,<-sizeOf f.type):Sem (List (Nat×Nat))).run P w= .ok (fs.map λf=>(f.offset,P.cellsOf f.type)) w
 | [],_=>by simp
 | f::fs,hf=>by
  simp only [List.all_cons,Bool.and_eq_true]at hf
  obtain⟨hi,hr⟩:=hf
  cases apd:P.info? f.type with
  |none=>rw [apd]at hi;cases hi
  |some i=>
   have ih:=run_places fs hr
   simp only [List.mapM_cons,Sem.run_bind,sizeOf,typeInfo,run_program,Result.andThen_ok,apd,Sem.run_pure,Program.cellsOf,Option.map_some,Option.getD_some,List.map_cons]
   simp only [sizeOf,typeInfo,Program.cellsOf]at ih
   rw [ih]
   simp
theorem ab5 [Fuel] (fs:Array Field) (hf:(fs.all λf=>(P.info? f.type).isSome)=true):
  (λi=>(fs.map λf=>(f.offset,P.cellsOf f.type))[i]?)=placeOf P fs:=by
 funext i
 unfold placeOf
 rw [Array.getElem?_map]
 cases hfi:fs[i]? with
 |none=>rfl
 | some f=>
  have hlt:i<fs.size:=by
   rcases Nat.lt_or_ge i fs.size with h'|h'
   ·exact h'
   ·rw [Array.getElem?_eq_none h']at hfi;cases hfi
  have:=(Array.all_eq_true.1 hf) i hlt
  have e:fs[i]=f:=by rw [Array.getElem?_eq_getElem hlt]at hfi;exact Option.some.inj hfi
  rw [e]at this
  cases apd:P.info? f.type with
  |none=>rw [apd]at this;cases this
  |some j=>simp [Program.cellsOf,apd]
theorem mZ [Fuel] {t:TypeId} {i:TypeInfo} {z:Value} (hi:P.info? t=some i) (hz:i.zero=some z):(zeroValue t).run P w= .ok z w:=by
 simp [zeroValue,typeInfo,hi,hz]
theorem oF [Fuel] {t:TypeId} {i:TypeInfo} (hi:P.info? t=some i):(sizeOf t).run P w= .ok i.size w:=by
 simp [sizeOf,typeInfo,hi]
theorem ab6 [Fuel] {z:Array Value} (hz:z.all Value.oneCell'=true):∀i,i<z.toList.toArray.size->(z.toList.toArray.getD i undef).oneCell'=true:=by
 intro i hi
 simp at hi
 have:=(Array.all_eq_true.1 hz) i hi
 simpa [Array.getD,hi]using this
theorem afz [Fuel] {t:TypeId} {ps:List (Nat×AV)} {qs:Array (Nat×Value)} {eff:Eff} {M:Mu} (hq:K7 (λ(a:Nat×AV) (b:Nat×Value)=>a.1=b.1/\Fp w m M a.2 b.2) ps qs.toList)
  (he:afx P t ps=some eff):∃v,(Instr.build t qs).run P w= .ok v w/\eff.ws= []/\eff.bs= []/\nZ w m M eff.r v:=by
 unfold afx at he
 cases hi:P.info? t with
 |none=>rw [hi]at he;simp at he
 | some i=>
  cases hu:P.underlying t with
  |none=>rw [hi,hu]at he;simp at he
  | some d=>
   rw [hi,hu]at he
   cases d with
   | struct fs=>
    simp only at he
    cases hz:i.zero with
    |none=>rw [hz]at he;cases he
    | some zv=>
     rw [hz]at he
     cases zv with
     | agg z=>
      simp only at he
      cases hb:(z.all Value.oneCell'&&fs.all (λf=>(P.info? f.type).isSome))with
      |false=>rw [hb]at he;cases he
      | true=>
       rw [hb]at he
       simp only [cond_true]at he
       simp only [Bool.and_eq_true]at hb
       cases hf:PE (placeOf P fs) (vals z.toList) ps with
       |none=>rw [hf]at he;cases he
       | some cs=>
        rw [hf]at he;cases he
        obtain⟨vs',r1,r2,_⟩:=UJ hq (Qn z.toList) (ab6 hb.1) hf
        refine⟨.agg vs',?_,rfl,rfl,vs',rfl,r2⟩
        have hpl:(fs.mapM λf=>do pure (f.offset,<-sizeOf f.type):Sem (Array (Nat×Nat))).run P w= .ok (fs.map λf=>(f.offset,P.cellsOf f.type)) w:=by
         rw [Array.mapM_eq_mapM_toList,Sem.run_map,run_places fs.toList (by simpa using hb.2)]
         simp only [Result.andThen_ok]
         congr 1
         apply Array.ext'
         simp
        simp only [Instr.build,Sem.run_bind,mZ hi hz,Result.andThen_ok,run_underlying hu,hpl,ab5 fs hb.2,Value.cells]
        have r1':Instr.fill (placeOf P fs) z qs.toList=some vs':=by simpa using r1
        rw [r1']
        simp
     |_=>cases he
   | array n e=>
    simp only at he
    cases hz:i.zero with
    |none=>rw [hz]at he;cases he
    | some zv=>
     cases hj:P.info? e with
     |none=>rw [hz,hj]at he;cases zv<;>cases he
     | some j=>
      rw [hz,hj]at he
      cases zv with
      | agg z=>
       simp only at he
       cases hb:z.all Value.oneCell' with
       |false=>rw [hb]at he;cases he
       | true=>
        rw [hb]at he
        simp only [cond_true]at he
        cases hf:PE (λk=>some (k*j.size,j.size)) (vals z.toList) ps with
        |none=>rw [hf]at he;cases he
        |some cs=>
         rw [hf]at he;cases he
         obtain⟨vs',r1,r2,_⟩:=UJ hq (Qn z.toList) (ab6 hb) hf
         refine⟨.agg vs',?_,rfl,rfl,vs',rfl,r2⟩
         have r1':Instr.fill (λk=>some (k*j.size,j.size)) z qs.toList=some vs':=by simpa using r1
         simp only [Instr.build,Sem.run_bind,mZ hi hz,Result.andThen_ok,run_underlying hu,oF hj,Value.cells,r1',Sem.run_pure]
      |_=>cases he
   |_=>cases he
theorem pE [Fuel] {t:TypeId} {e:TypeId} {i:TypeInfo} {z:Array Value} (he:mY P t=some (e,i,z)):
  P.underlying t=some (.slice e)/\P.info? e=some i/\(∃zv,i.zero=some zv/\zv.cells=z)/\z.size=i.size/\z.all Value.oneCell'=true/\0<i.size/\0<i.bytes:=by
 unfold mY at he
 cases hu:P.underlying t with
 |none=>rw [hu]at he;cases he
 | some d=>
  rw [hu]at he
  cases d with
  | slice e'=>
   simp only at he
   cases hi:P.info? e' with
   |none=>rw [hi]at he;cases he
   | some i'=>
    rw [hi]at he
    simp only at he
    cases hz:i'.zero with
    |none=>rw [hz]at he;cases he
    | some zv=>
     rw [hz]at he
     simp only at he
     cases hb:(Nat.beq zv.cells.size i'.size&&(zv.cells.all Value.oneCell')&&Nat.blt 0 i'.size&&Nat.blt 0 i'.bytes)with
     |false=>rw [hb]at he;cases he
     | true=>
      rw [hb]at he
      simp only [cond_true]at he
      cases he
      simp only [Bool.and_eq_true]at hb
      refine⟨rfl,hi,⟨zv,hz,rfl⟩,Nat.eq_of_beq_eq_true hb.1.1.1,hb.1.1.2,?_,?_⟩
      ·have:=hb.1.2
       simp only [Nat.blt]at this
       exact Nat.le_of_ble_eq_true this
      ·have:=hb.2
       simp only [Nat.blt]at this
       exact Nat.le_of_ble_eq_true this
  |_=>cases he
theorem ajG [Fuel] {cs:List SC} {xs:List CV} (hx:Mv cs=some xs):xs.length=cs.length:=by rw [UH hx];simp
theorem YM [Fuel] {place:Nat->Option (Nat×Nat)}:∀{ps:List (Nat×AV)} {cells cs:List SC},PE place cells ps=some cs->cs.length=cells.length
 | [],cells,cs,h=>by simp [PE]at h;rw [h]
 | (i,a)::ps,cells,cs,h=>by
  simp only [PE]at h
  cases hp:place i with
  |none=>rw [hp]at h;cases h
  | some q=>
   rw [hp]at h
   simp only at h
   cases hb:(Nat.beq (iq a).length q.2&&Nat.ble (q.1+q.2) cells.length&&(iq a).all SC.scalar)with
   |false=>rw [hb]at h;cases h
   |true=>
    rw [hb]at h
    simp only [cond_true]at h
    simp only [Bool.and_eq_true]at hb
    have h1:=Nat.eq_of_beq_eq_true hb.1.1
    have h2:=Nat.le_of_ble_eq_true hb.1.2
    rw [YM h,jh _ _ _ (by omega)]
theorem O1 [Fuel] (H:bI X w m h) {id:Nat} (hid:h[id]? =some .dead) (hm:m id=none) {t:TypeId} {n:Nat} {ps:List (Nat×AV)} {qs:Array (Nat×Value)} {eff:Eff}
  (hq:K7 (λ(a:Nat×AV) (b:Nat×Value)=>a.1=b.1/\Fp w m (MX X m h) a.2 b.2) ps qs.toList) (he:Cv P t id n ps=some eff):
  ∃v w' m',(Instr.buildSlice t n qs).run P w= .ok v w'/\Stp X w m h w' m' (bD h eff.ws)/\nZ w' m' (MX X m' (bD h eff.ws)) eff.r v:=by
 unfold Cv at he
 cases hei:mY P t with
 |none=>rw [hei]at he;cases he
 | some q=>
  obtain⟨e,i,z⟩:=q
  rw [hei]at he
  simp only at he
  obtain⟨hu,hi,⟨zv,hz,hzc⟩,hzs,hz1,hpos,YN⟩:=pE hei
  cases hb:Nat.ble (n*i.size) 16777216 with
  |false=>rw [hb]at he;cases he
  | true=>
   rw [hb]at he
   simp only [cond_true]at he
   have hb:=Nat.le_of_ble_eq_true hb
   cases hf:PE (λk=>some (k*i.size,i.size)) (rep (vals z.toList) n) ps with
   |none=>rw [hf]at he;cases he
   | some cs=>
    rw [hf]at he
    simp only at he
    cases hx:Mv cs with
    |none=>rw [hx]at he;cases he
    | some xs=>
     rw [hx]at he
     cases he
     obtain⟨hr,hr1⟩:=ab4 (w:=w) (m:=m) (M:=MX X m h) z n (by omega) hz1
     obtain⟨vs',r1,r2,r3⟩:=UJ hq hr hr1 hf
     have hlen:cs.length=n*i.size:=by rw [YM hf,JA];simp [vals,hzs]
     have hcx:=UH hx
     obtain⟨m',hS,hs⟩:=Stp.agI H hid hm (w1:=w) rfl rfl rfl (UG.same _) none (z:=i.size) (n:=n) (cap:=n) (f:=λj=>(xs.drop (j*i.size)).take i.size) (vs:=vs') e (Nat.le_refl _)
      (by rw [r2.1,hlen]) r3 (λq hq'=>by
       have hqz:q*i.size+i.size<=n*i.size:=by rw [<-Nat.succ_mul];exact Nat.mul_le_mul_right _ (by omega)
       have hxl:xs.length=n*i.size:=by rw [ajG hx,hlen]
       refine⟨by simp;omega,λj x hx'=> ?_⟩
       have hj:j<i.size:=by have:=aR hx';simp at this;omega
       rw [List.getElem?_take,if_pos hj,List.getElem?_drop]at hx'
       have:=r2.2 (q*i.size+j) (.c x) (by rw [hcx,List.getElem?_map,hx'];rfl)
       cases this with
       |c hc=>exact hc)
     refine⟨_,_,m',?_,hS,hs⟩
     have hzero:∀zz:Array Value,zz=(if n*i.size=0 then #[]else z)->((Array.range (n*i.size)).map (zz[· %zz.size]!))=((Array.range (n*z.size)).map (z[· %z.size]!)):=by
      intro zz hzz
      rw [hzs]
      by_cases h0:n*i.size=0
      ·rw [h0];simp
      ·rw [if_neg h0]at hzz;rw [hzz,hzs]
     simp only [Instr.buildSlice,Sem.run_bind,run_underlying hu,Result.andThen_ok,oF hi]
     rw [if_neg (by omega)]
     by_cases h0:n*i.size=0
     ·rw [if_pos h0]
      simp only [Sem.run_bind,Sem.run_pure,Result.andThen_ok]
      rw [hzero #[] (by rw [if_pos h0]),r1]
      simp [newRow]
     ·rw [if_neg h0]
      simp only [Sem.run_bind,Sem.run_pure,Result.andThen_ok,mZ hi hz,hzc]
      rw [hzero z (by rw [if_neg h0]),r1]
      simp [newRow]
theorem ah2 [Fuel] (H:bI X w m h) {id:Nat} (hid:h[id]? =some .dead) (hm:m id=none) {t:TypeId} {k1 k2:IntKind} {l c:Int} {eff:Eff}
  (he:agF P t id l c=some eff) (hc:∀q∈eff.bs,q=true):
  ∃v w' m',(Instr.makeSlice t (.int k1 l) (.int k2 c)).run P w= .ok v w'/\Stp X w m h w' m' (bD h eff.ws)/\nZ w' m' (MX X m' (bD h eff.ws)) eff.r v:=by
 unfold agF at he
 cases hei:mY P t with
 |none=>rw [hei]at he;cases he
 | some q=>
  obtain⟨e,i,z⟩:=q
  rw [hei]at he
  cases he
  obtain⟨hu,hi,⟨zv,hz,hzc⟩,hzs,hz1,hpos,YN⟩:=pE hei
  obtain⟨c1,c2,c3,c4⟩:0<=l/\l<=c/\c<=9223372036854775807/\c*i.bytes<=140737488355328:=of_decide_eq_true (hc _ (by simp))
  obtain⟨hr,hr1⟩:=ab4 (w:=w) (m:=m) (M:=MX X m h) z c.toNat (by omega) hz1
  have hat:∀q,q<c.toNat*z.size->((Array.range (c.toNat*z.size)).map (z[· %z.size]!)).getD q undef=z[q%z.size]'(Nat.mod_lt _ (by omega)):=by
   intro q hq
   have:q%z.size<z.size:=Nat.mod_lt _ (by omega)
   simp [Array.getD,hq,this]
  obtain⟨m',hS,hs⟩:=Stp.agI H hid hm (w1:=w) rfl rfl rfl (UG.same _) none (z:=i.size) (n:=l.toNat) (cap:=c.toNat) (f:=λ_=>z.toList.map .val)
   (vs:=((Array.range (c.toNat*z.size)).map (z[· %z.size]!))) e (by omega) (by simp [hzs]) hr1 (λq hq'=>by
    refine⟨by simp [hzs],λj x hx=> ?_⟩
    rw [List.getElem?_map]at hx
    cases hzj:z.toList[j]? with
    |none=>rw [hzj]at hx;cases hx
    | some v=>
     rw [hzj]at hx;cases hx
     have hj:j<z.size:=by have:=aR hzj;simpa using this
     have hqz:q*i.size+i.size<=c.toNat*i.size:=by rw [<-Nat.succ_mul];exact Nat.mul_le_mul_right _ (by omega)
     rw [hat _ (by rw [hzs]at hj⊢;omega)]
     have hmod:(q*i.size+j)%z.size=j:=by rw [<-hzs,Nat.mul_comm,Nat.mul_add_mod,Nat.mod_eq_of_lt hj]
     have hv:v=z[j]:=by
      simp [hj]at hzj;exact hzj.symm
     have:z[(q*i.size+j)%z.size]'(Nat.mod_lt _ (by omega))=v:=by
      rw [hv];congr 1
     rw [this]
     exact .val v)
  refine⟨_,_,m',?_,hS,hs⟩
  have wl:IntKind.i64.wrap l=l:=IntWalk.i64_in _ (by omega)
  have wc:IntKind.i64.wrap c=c:=IntWalk.i64_in _ (by omega)
  have hb:(i.bytes:Int)*c<=281474976710656:=by rw [Int.mul_comm];omega
  have hzero:∀zz:Array Value,zz=(if c.toNat*i.size=0 then #[]else z)->((Array.range (c.toNat*i.size)).map (zz[· %zz.size]!))=((Array.range (c.toNat*z.size)).map (z[· %z.size]!)):=by
   intro zz hzz
   rw [hzs]
   by_cases h0:c.toNat*i.size=0
   ·rw [h0];simp
   ·rw [if_neg h0]at hzz;rw [hzz,hzs]
  have hti:(typeInfo e).run P w= .ok i w:=by simp [typeInfo,hi]
  simp only [Instr.makeSlice,Sem.run_bind,run_underlying hu,Result.andThen_ok,asInt,asIntOf,Sem.run_pure,hti,wl,wc]
  rw [if_neg (by simp;omega)]
  simp only [Sem.run_bind,Result.andThen_ok,run_askRoom,oF hi]
  by_cases h0:c.toNat*i.size=0
  ·rw [if_pos h0]
   simp only [Sem.run_bind,Sem.run_pure,Result.andThen_ok]
   rw [hzero #[] (by rw [if_pos h0])]
   simp [newRow]
  ·rw [if_neg h0]
   simp only [Sem.run_bind,Sem.run_pure,Result.andThen_ok,mZ hi hz,hzc]
   rw [hzero z (by rw [if_neg h0])]
   simp [newRow]
end
end Go.AM
namespace Go.AM
open Go Go.CP Go.RowKit
section
variable {P:Program} {X:Mu} {w:World} {m:vW} {h:List bF}
def Src (w:World) (M:Mu) (z k:Nat) (g:Nat->List CV) (v:Value) (news:List Value):Prop:=
 (∃a c,v= .slice a k c/\(k=0∨∃b off,a=some ⟨b,off,none⟩∧∀(j:Nat) u,news[j]? =some u->w.cell? ⟨b,off+j,none⟩=some u))∧
 news.length=k*z/\(∀u∈news,u.oneCell'=true)∧∀i,i<k->(g i).length=z∧∀(j:Nat) x,(g i)[j]? =some x->OZ w M x ((news[i*z+j]?).getD undef)
theorem Yw [Fuel] {w:World} {M:Mu} {z:Nat} {g:Nat->List CV} {a:Option Addr} {c:Nat}:Src w M z 0 g (.slice a 0 c) []:=
 ⟨⟨a,c,rfl,.inl rfl⟩,by simp,by simp,λi hi=>by omega⟩
theorem ajH [Fuel] (f:Nat->Value) (n:Nat) (j:Nat) (hj:j<n):(((List.range n).map f)[j]?).getD undef=f j:=by
 simp [hj]
theorem TU [Fuel] (H:bI X w m h) {z k:Nat} {g:Nat->List CV} {cs:List Bool} {x:SC} {v:Value} (hx:lU w m (MX X m h) x v)
  (hs:Tg z (mX h) x=some (k,g,cs)) (hc:∀q∈cs,q=true):∃news,Src w (MX X m h) z k g v news:=by
 unfold Tg at hs
 cases x with
 | sl k' lo len=>
  simp only at hs
  cases hg:mX h k' with
  | arr z' n f=>
   rw [hg]at hs
   simp only at hs
   cases hb:Nat.beq z z' with
   |false=>rw [hb]at hs;cases hs
   | true=>
    rw [hb]at hs
    have hb:=Nat.eq_of_beq_eq_true hb
    subst hb
    simp only [cond_true]at hs
    cases hs
    have hle:lo+k<=n:=of_decide_eq_true (hc _ (by simp))
    cases hx with
    | sl _ _ _ l a c hk h0 h1 h2 h3=>
     by_cases hk0:k=0
     ·subst hk0;exact⟨[],Yw⟩
     ·obtain⟨b,hb,ha⟩:=h1 hk0
      obtain⟨l',e1,e2,e3,e4,e5⟩:=H.obj k' _ (l5 hg trivial)
      rw [hk]at e1;cases e1
      obtain⟨e6,T,vs,e7,e8,e9,e10⟩:=e5 b hb
      subst e2
      have hz:(lo+k)*l.z<=vs.size:=by rw [e8];exact Nat.mul_le_mul_right _ (by omega)
      rw [Nat.add_mul]at hz
      refine⟨(List.range (k*l.z)).map (λj=>vs.getD (lo*l.z+j) undef),⟨a,c,rfl,.inr ⟨b,lo*l.z,ha,λj u hu=> ?_⟩⟩,by simp,λu hu=> ?_,λi hi=> ?_⟩
      ·have hj:j<k*l.z:=by have:=aR hu;simpa using this
       simp [hj]at hu
       rw [cell_of_row w b _ vs T _ e7]
       have:lo*l.z+j<vs.size:=by omega
       simp [Array.getD,this]at hu⊢
       exact hu
      ·simp only [List.mem_map,List.mem_range]at hu
       obtain⟨j,hj,rfl⟩:=hu
       exact e9 _ (by omega)
      ·obtain⟨q1,q2⟩:=e10 (lo+i) (by omega)
       refine⟨q1,λj y hy=> ?_⟩
       have hj:j<l.z:=by rw [<-q1];exact aR hy
       have hiz:i*l.z+l.z<=k*l.z:=by rw [<-Nat.succ_mul];exact Nat.mul_le_mul_right _ (by omega)
       rw [ajH _ _ _ (by omega)]
       have:=q2 j y hy
       rw [Nat.add_mul]at this
       rw [<-Nat.add_assoc]
       exact this
  |box cs=>rw [hg]at hs;cases hs
  |mp es=>rw [hg]at hs;cases hs
  |ra z1 n1 cs1=>rw [hg]at hs;cases hs
  |ms es1=>rw [hg]at hs;cases hs
  |dead=>rw [hg]at hs;cases hs
 | c x =>
  simp only [apc]at hs
  cases x with
  | rd z' n f=>
   simp only at hs
   cases hb:Nat.beq z z' with
   |false=>rw [hb]at hs;cases hs
   | true=>
    rw [hb]at hs
    have hb:=Nat.eq_of_beq_eq_true hb
    subst hb
    simp only [cond_true]at hs
    cases hs
    cases hx with
    | c hx=>
     cases hx with
     |rd0 _ _ a cap=>exact⟨[],Yw⟩
     | rd _ _ _ b off cap c hb hs hn hl hcell h1 Cz=>
      refine⟨(List.range (k*z)).map c,⟨_,cap,rfl,.inr ⟨b,off,rfl,λj u hu=> ?_⟩⟩,by simp,λu hu=> ?_,λi hi=>⟨hl i hi,λj y hy=> ?_⟩⟩
      ·have hj:j<k*z:=by have:=aR hu;simpa using this
       simp [hj]at hu
       rw [hcell j hj,hu]
      ·simp only [List.mem_map,List.mem_range]at hu
       obtain⟨j,hj,rfl⟩:=hu
       exact h1 j hj
      ·have hj:j<z:=by rw [<-hl i hi];exact aR hy
       have hiz:i*z+z<=k*z:=by rw [<-Nat.succ_mul];exact Nat.mul_le_mul_right _ (by omega)
       rw [ajH _ _ _ (by omega)]
       exact Cz i j y hi hy
  | e0=>
   simp only at hs
   cases hs
   cases hx with
   |c hx=>cases hx with
    |e0 a=>exact⟨[],Yw⟩
  | val u=>
   cases hx with
   | c hx=>
    cases hx
    cases v with
    | slice a n c=>
     cases a with
     |none=>
      cases n with
      |zero=>simp only at hs;cases hs;exact⟨[],Yw⟩
      |succ n=>cases hs
     |some a=>cases hs
    |_=>cases hs
  |ls t xs=>cases hs
  |lsn t xs=>cases hs
 |_=>cases hs
theorem YO [Fuel] (z k:Nat) {g:Nat->List CV} {v:Value} {news:List Value} {M:Mu} (hs:Src w M z k g v news) {w1:World} (hw:w1.heap=w.heap):
  (Builtin.firstCells z k v).run P w1= .ok news.toArray w1:=by
 obtain⟨⟨a,c,rfl,ha⟩,hl,_⟩:=hs
 rcases ha with rfl|⟨b,off,rfl,hn⟩
 ·have:news= []:=List.eq_nil_of_length_eq_zero (by simpa using hl)
  subst this
  cases a<;>simp [Builtin.firstCells,loadCells,loadCellsFrom]
 ·refine run_firstCells_some w1 z k ⟨b,off,none⟩ k c news hl (λj v hv=> ?_)
  rw [addr_add]
  have:w1.cell? ⟨b,off+j,none⟩=w.cell? ⟨b,off+j,none⟩:=World.cell?_of_block (by rw [hw])
  rw [this];exact hn j v hv
theorem UK [Fuel] (z k:Nat) {g:Nat->List CV} {v:Value} {news:List Value} {M:Mu} (hs:Src w M z k g v news) {w1:World}:(Builtin.lenOf v).run P w1= .ok k w1:=by
 obtain⟨⟨a,c,rfl,ha⟩,_⟩:=hs
 simp [Builtin.lenOf]
theorem agJ [Fuel] {t u e:TypeId} {i:TypeInfo} {zv:Value} {ty:TypeId} (hu:P.underlying t=some (.slice e)) {e':TypeId} (hu':P.underlying u=some (.slice e')) (hi:P.info? e=some i) (hz:i.zero=some zv)
  {base:Option Addr} {n cap k:Nat} {x:Value} {olds news:List Value} {g:Nat->List CV} {M:Mu} (hs:Src w M i.size k g x news)
  (ho:∀w1:World,w1.heap=w.heap->(Builtin.firstCells i.size n (.slice base n cap)).run P w1= .ok olds.toArray w1)
  (hgr:cap<n+k) (h63:n+k<=9223372036854775807) (hfit:Builtin.nextslicecap (n+k) cap*i.bytes<=281474976710656):
  (Builtin.append_ #[t,u] ty #[.slice base n cap,x]).run P w=
   .ok (.slice (some ⟨w.heap.size,0,none⟩) (n+k) (grownCap w (n+k) cap e))
    (w.drew.alloc (.cells (olds.toArray++news.toArray++Builtin.zeroCells zv.cells (grownCap w (n+k) cap e - (n+k))) e)):=by
 have hn:¬(n+k<=cap):=by omega
 have h63':¬(9223372036854775807<((n:Int)+(k:Int))):=by omega
 have h48':¬(281474976710656<Builtin.nextslicecap (n+k) cap*i.bytes):=by omega
 have hf:=YO (P:=P) i.size k hs (w1:=w.drew) rfl
 have hfo:=ho w.drew rfl
 have hl:=UK (P:=P) i.size k hs (w1:=w)
 simp [Builtin.append_,run_underlying hu,run_underlying hu',sizeOf,typeInfo,zeroValue,hi,hz,hl,hn,h63',h48',Question.forced,hf,hfo,newRow,grownCap]
 congr 2
 apply Array.ext'
 simp [List.append_assoc]
theorem agK [Fuel] {t u e:TypeId} {i:TypeInfo} {ty:TypeId} (hu:P.underlying t=some (.slice e)) {e':TypeId} (hu':P.underlying u=some (.slice e')) (hi:P.info? e=some i)
  {b n cap k:Nat} {x:Value} {news:List Value} {g:Nat->List CV} {M:Mu} (hs:Src w M i.size k g x news) {cur:Array Value} {T:TypeId} (hg:w.heap[b]? =some (.cells cur T (0,0)))
  (hroom:n+k<=cap) (hfit:n*i.size+news.length<=cur.size):
  (Builtin.append_ #[t,u] ty #[.slice (some ⟨b,0,none⟩) n cap,x]).run P w=
   .ok (.slice (some ⟨b,0,none⟩) (n+k) cap) (w.setRow b (splice cur.toList (n*i.size) news).toArray):=by
 have hf:=YO (P:=P) i.size k hs (w1:=w) rfl
 have hl:=UK (P:=P) i.size k hs (w1:=w)
 have hst:=run_storeCells_at P b (n*i.size) T news 0 cur w hg (by simpa using hfit) hs.2.2.1
 simp only [Nat.add_zero]at hst
 simp [Builtin.append_,run_underlying hu,run_underlying hu',sizeOf,typeInfo,hi,hl,hroom,hf,Addr.add_lit,hst,splice,List.append_assoc]
theorem al1 [Fuel] {t u e:TypeId} {i:TypeInfo} {ty:TypeId} (hu:P.underlying t=some (.slice e)) {e':TypeId} (hu':P.underlying u=some (.slice e')) (hi:P.info? e=some i)
  {base:Option Addr} {x:Value} {news:List Value} {g:Nat->List CV} {M:Mu} (hs:Src w M i.size 0 g x news):
  (Builtin.append_ #[t,u] ty #[.slice base 0 0,x]).run P w= .ok (.slice base 0 0) w:=by
 have hf:=YO (P:=P) i.size 0 hs (w1:=w) rfl
 have hl:=UK (P:=P) i.size 0 hs (w1:=w)
 have hn:news= []:=List.eq_nil_of_length_eq_zero (by simpa using hs.2.1)
 subst hn
 cases base<;>simp [Builtin.append_,run_underlying hu,run_underlying hu',sizeOf,typeInfo,hi,hl,hf,storeCells]
theorem ah3 [Fuel] (H:bI X w m h) {z n:Nat} {f:Nat->List CV} {cs:List Bool} {ws:List (Nat×bF)} {s:SC} {v:Value} (hs:lU w m (MX X m h) s v)
  (hd:YK z (mX h) s=some (n,f,cs,ws)) (hc:∀q∈cs,q=true):
  ∃ base cap kl,v= .slice base n cap/\(∀id o,bD h (ws++ [(id,o)])=(LQ h kl).set id o)∧
   ((n=0/\cap=0)∨∃k ok l b T vs,kl=some k/\h[k]? =some ok/\ok.live/\m k=some l/\l.blk=some b/\l.cap=cap/\l.z=z/\l.base=base/\base=some ⟨b,0,none⟩/\n<=cap∧
    w.heap[b]? =some (.cells vs T (0,0))/\vs.size=cap*z/\(∀i,i<vs.size->(vs.getD i undef).oneCell'=true)∧
    ∀i,i<n->(f i).length=z∧∀(j:Nat) x,(f i)[j]? =some x->OZ w (MX X m h) x (vs.getD (i*z+j) undef)):=by
 unfold YK at hd
 cases s with
 | own k=>
   simp only at hd
   cases hg:mX h k with
   | arr z' n' f'=>
    rw [hg]at hd
    simp only at hd
    cases hb:Nat.beq z z' with
    |false=>rw [hb]at hd;cases hd
    | true=>
     rw [hb]at hd
     have hb:=Nat.eq_of_beq_eq_true hb
     subst hb
     simp only [cond_true]at hd
     cases hd
     cases hs with
     | own _ l hk=>
      have hln:=ajE H hg hk
      have hget:=l5 hg trivial
      obtain⟨l',e1,e2,e3,e4,e5⟩:=H.obj k _ hget
      rw [hk]at e1;cases e1
      refine⟨l.base,l.cap,some k,by rw [hln],λid o=>rfl,?_⟩
      cases hbl:l.blk with
      |none=>left;have:=e4 hbl;omega
      |some b=>
       right
       obtain⟨e6,T,vs,e7,e8,e9,e10⟩:=e5 b hbl
       refine⟨k,_,l,b,T,vs,rfl,hget,trivial,hk,hbl,rfl,e2,rfl,e6,e3.2,e7,e8,e9,e10⟩
   |box cs=>rw [hg]at hd;cases hd
   |mp es=>rw [hg]at hd;cases hd
   |ra z1 n1 cs1=>rw [hg]at hd;cases hd
   |ms es1=>rw [hg]at hd;cases hd
   |dead=>rw [hg]at hd;cases hd
 | c x =>
  simp only [aqT]at hd
  cases x with
  | e0=>
   simp only at hd
   cases hd
   cases hs with
   |c hs=>cases hs with
    |e0 a=>exact⟨a,0,none,rfl,λ_ _=>rfl,.inl ⟨rfl,rfl⟩⟩
  | val u=>
   cases hs with
   | c hs=>
    cases hs
    cases v with
    | slice a n' c=>
     cases a with
     | none=>
      cases n' with
      |zero=>cases c with
       |zero=>simp only at hd;cases hd;exact⟨none,0,none,rfl,λ_ _=>rfl,.inl ⟨rfl,rfl⟩⟩
       |succ c=>cases hd
      |succ n'=>cases hd
     |some a=>cases hd
    |_=>cases hd
  |rd z n f=>cases hd
  |ls t xs=>cases hd
  |lsn t xs=>cases hd
 |_=>cases hd
theorem abd [Fuel] (H:bI X w m h) {z k:Nat} {g:Nat->List CV} {cs:List Bool} {x:SC} {v:Value} (hx:lU w m (MX X m h) x v)
  (hs:LP z (mX h) x=some (k,g,cs)) (hc:∀q∈cs,q=true):∃news,Src w (MX X m h) z k g v news:=by
 unfold LP at hs
 have hv:=lU.vw H (get:=mX h) (λ_ _=>rfl) hx
 split at hs
 ·rename_i j
  split at hs
  ·rename_i z' n f hg
   cases hb:Nat.beq z z' with
   |false=>rw [hb]at hs;cases hs
   |true=>
    rw [hb]at hs
    simp only [cond_true]at hs
    cases hs
    simp only [Go.AM.vw,hg]at hv
    have:=TU (z:=z) (k:=k) (cs:= [decide (0+k<=k)]) (g:=λi=>g (0+i)) H hv (by simp only [Tg,hg,hb,cond_true]) (by simp)
    simpa using this
  ·cases hs
 ·rename_i t xs
  cases hb:Nat.beq z (wd t)with
  |false=>rw [hb]at hs;cases hs
  |true=>
   rw [hb]at hs
   simp only [cond_true]at hs
   cases hs
   simp only [Go.AM.vw]at hv
   exact TU (cs:= []) H hv (by simp only [Tg,apc,hb,cond_true]) (by simp)
 ·exact TU H hx hs hc
theorem ajI [Fuel] {M:Mu} {n k z:Nat} {f g:Nat->List CV} {vs:List Value} (hf:∀i,i<n->(f i).length=z∧∀(j:Nat) x,(f i)[j]? =some x->OZ w M x ((vs[i*z+j]?).getD undef))
  (hg:∀i,i<k->(g i).length=z∧∀(j:Nat) x,(g i)[j]? =some x->OZ w M x ((vs[(n+i)*z+j]?).getD undef)):
  ∀i,i<n+k->(app n f g i).length=z∧∀(j:Nat) x,(app n f g i)[j]? =some x->OZ w M x ((vs[i*z+j]?).getD undef):=by
 intro i hi
 unfold app
 split
 ·rename_i h;exact hf i h
 ·rename_i h
  have:=hg (i - n) (by omega)
  rw [show n+(i - n)=i by omega]at this
  exact this
theorem adI [Fuel] (H:bI X w m h) {id:Nat} (hid:h[id]? =some .dead) (hm:m id=none) {t u ty:TypeId} {e':TypeId} (hu':P.underlying u=some (.slice e')) {s x:SC} {sv xv:Value} {eff:Eff}
  (hs:lU w m (MX X m h) s sv) (hx:lU w m (MX X m h) x xv) (he:RJ P t id (mX h) s x=some eff) (hc:∀q∈eff.bs,q=true):
  ∃v w' m',(Builtin.append_ #[t,u] ty #[sv,xv]).run P w= .ok v w'/\Stp X w m h w' m' (bD h eff.ws)/\nZ w' m' (MX X m' (bD h eff.ws)) eff.r v:=by
 unfold RJ at he
 cases hei:mY P t with
 |none=>rw [hei]at he;cases he
 | some q =>
  obtain⟨e,i,z⟩:=q
  rw [hei]at he
  simp only at he
  obtain⟨hu,hi,⟨zv,hz,hzc⟩,hzs,hz1,hpos,YN⟩:=pE hei
  cases hd:YK i.size (mX h) s with
  |none=>rw [hd]at he;cases he
  | some q=>
   obtain⟨n,f,c1,w1⟩:=q
   cases hsr:LP i.size (mX h) x with
   |none=>rw [hd,hsr]at he;cases he
   | some q=>
    obtain⟨k,g,c2⟩:=q
    rw [hd,hsr]at he
    cases he
    obtain⟨news,hS⟩:=abd H hx hsr (λq hq=>hc q (by simp [hq]))
    obtain⟨base,cap,kl,rfl,hap,hD⟩:=ah3 H hs hd (λq hq=>hc q (by simp [hq]))
    have hbytes:(n+k)*i.bytes<=140737488355328:=of_decide_eq_true (hc _ (by simp))
    have h63:n+k<=9223372036854775807:=by
     have:(n+k)*1<=(n+k)*i.bytes:=Nat.mul_le_mul_left _ YN
     omega
    have hnl:news.length=k*i.size:=hS.2.1
    simp only [hap]
    by_cases hroom:n+k<=cap
    ·rcases hD with⟨h0,h00⟩|⟨kk,ok,l,b,T,vs,rfl,g1,g2,g3,g4,g5,g6,g7,g8,g9,g10,g11,g12,g13⟩
     ·have hk0:k=0:=by omega
      subst hk0;subst h0;subst h00
      let l:Loc:=⟨base,0,i.size,none,0⟩
      refine⟨_,w,Qf m id l,al1 hu hu' hi hS,?_,?_⟩
      ·refine Stp.make H hid hm kl l _ (by exact trivial) rfl rfl (UG.same _) (Nat.le_refl _) (λb hb=> .inl rfl) (λb hb=>by cases hb) (λhLt=> ?_)
       exact⟨l,by simp [Qf],rfl,⟨rfl,Nat.le_refl _⟩,λ_=>rfl,λb hb=>by cases hb⟩
      ·exact .own id l (if_pos rfl)
     ·subst g8
      have hfit:n*i.size+news.length<=vs.size:=by rw [hnl,g11,<-Nat.add_mul];exact Nat.mul_le_mul_right _ hroom
      refine⟨_,_,Qf m id {l with n:=n+k},agK hu hu' hi hS g10 hroom hfit,?_,?_⟩
      ·refine Stp.make H hid hm (some kk) {l with n:=n+k} _ (by exact trivial) rfl rfl ⟨rfl,λ_=>Nat.le_refl _⟩ (by simp) (λc hcb=> ?_) (λc hcb=> ?_) (λhLt=> ?_)
       ·by_cases hcc:c=b
        ·subst hcc;exact .inr ⟨kk,ok,l,rfl,g1,g2,g3,g4⟩
        ·exact .inl (setRow_other w b c _ hcc)
       ·have hcb:l.blk=some c:=hcb
        rw [g4]at hcb;cases hcb
        exact .inr ⟨kk,ok,l,rfl,g1,g2,g3,g4⟩
       ·refine⟨{l with n:=n+k},if_pos rfl,g6,⟨rfl,by show n+k<=l.cap;omega⟩,λhh=>(by have hh:l.blk=none:=hh;rw [g4]at hh;cases hh),λc hcb=> ?_⟩
        have hcb:l.blk=some c:=hcb
        obtain rfl:b=c:=by rw [g4]at hcb;exact Option.some.inj hcb
        refine⟨g7,T,_,setRow_heap w b vs _ T _ g10,?_,?_,?_⟩
        ·rw [List.size_toArray,jh _ _ _ (by simpa using hfit),g5];simpa using g11
        ·exact Cy (by simpa using hfit) (λj hj=>by have:=g12 j (by simpa using hj);rwa [iY]at this) hS.2.2.1
        ·simp only [jw]
         refine ajI (λq hq=> ?_) (λq hq=> ?_)
         ·obtain⟨p1,p2⟩:=g13 q hq
          refine⟨p1,λj y hy=> ?_⟩
          have hj:j<i.size:=by rw [<-p1];exact aR hy
          have hqz:q*i.size+i.size<=n*i.size:=by rw [<-Nat.succ_mul];exact Nat.mul_le_mul_right _ (by omega)
          rw [dU _ _ _ (by simpa using hfit),if_neg (by omega)]
          have:=(p2 j y hy).later hLt
          rwa [iY]at this
         ·obtain⟨p1,p2⟩:=hS.2.2.2 q hq
          refine⟨p1,λj y hy=> ?_⟩
          have hj:j<i.size:=by rw [<-p1];exact aR hy
          have hqz:q*i.size+i.size<=k*i.size:=by rw [<-Nat.succ_mul];exact Nat.mul_le_mul_right _ (by omega)
          rw [dU _ _ _ (by simpa using hfit),Nat.add_mul,if_pos (by omega)]
          have e:n*i.size+q*i.size+j - n*i.size=q*i.size+j:=by omega
          rw [e]
          exact(p2 j y hy).later hLt
      ·show lU _ (Qf m id {l with n:=n+k}) _ (.own id) _
       rw [<-g7,<-g5]
       exact .own id {l with n:=n+k} (if_pos rfl)
    ·have hgrow:cap<n+k:=by omega
     have hfit:=growslice_fits hgrow hbytes
     obtain⟨olds,ho1,ho2,ho3,ho4⟩:∃olds:List Value,olds.length=n*i.size/\(∀u∈olds,u.oneCell'=true)∧
       (∀w1:World,w1.heap=w.heap->(Builtin.firstCells i.size n (.slice base n cap)).run P w1= .ok olds.toArray w1)∧
       ∀q,q<n->(f q).length=i.size∧∀(j:Nat) x,(f q)[j]? =some x->OZ w (MX X m h) x ((olds[q*i.size+j]?).getD undef):=by
      rcases hD with⟨h0,h00⟩|⟨kk,ok,l,b,T,vs,rfl,g1,g2,g3,g4,g5,g6,g7,g8,g9,g10,g11,g12,g13⟩
      ·subst h0
       refine⟨[],by simp,by simp,λw1 _=> ?_,λq hq=>by omega⟩
       cases base<;>simp [Builtin.firstCells,loadCells,loadCellsFrom]
      ·subst g8
       have hle:n*i.size<=vs.size:=by rw [g11];exact Nat.mul_le_mul_right _ g9
       refine⟨vs.toList.take (n*i.size),by simp;omega,λu hu=> ?_,λw1 hw1=> ?_,λq hq=> ?_⟩
       ·obtain⟨j,hj,rfl⟩:=List.getElem_of_mem hu
        have hj':j<n*i.size:=by simp at hj;omega
        have:=g12 j (by omega)
        rw [iY]at this
        rw [List.getElem_take]
        have hj2:j<vs.toList.length:=by simp;omega
        rw [List.getElem?_eq_getElem hj2]at this
        exact this
       ·refine run_firstCells_some w1 i.size n ⟨b,0,none⟩ n cap _ (by simp;omega) (λj v hv=> ?_)
        rw [addr_add]
        have hj:j<n*i.size:=by have:=aR hv;simp at this;omega
        rw [cell_of_row w1 b _ vs T _ (by rw [hw1];exact g10)]
        rw [List.getElem?_take,if_pos hj]at hv
        simpa using hv
       ·obtain⟨p1,p2⟩:=g13 q hq
        refine⟨p1,λj y hy=> ?_⟩
        have hj:j<i.size:=by rw [<-p1];exact aR hy
        have hqz:q*i.size+i.size<=n*i.size:=by rw [<-Nat.succ_mul];exact Nat.mul_le_mul_right _ (by omega)
        rw [List.getElem?_take,if_pos (by omega)]
        have:=p2 j y hy
        rwa [iY]at this
     have hrun:=agJ (ty:=ty) hu hu' hi hz hS ho3 hgrow h63 hfit
     have hge:=grownCap_ge w (n+k) cap e
     generalize grownCap w (n+k) cap e=nc at hrun hge
     have hsz:(olds.toArray++news.toArray++Builtin.zeroCells zv.cells (nc - (n+k))).size=nc*i.size:=by
      simp only [Array.size_append,List.size_toArray,size_zeroCells,hzc,hzs,ho1,hnl,<-Nat.add_mul]
      congr 1;omega
     have htl:(olds.toArray++news.toArray++Builtin.zeroCells zv.cells (nc - (n+k))).toList=olds++(news++(Builtin.zeroCells zv.cells (nc - (n+k))).toList):=by simp
     obtain⟨m',hSt,Cz⟩:=Stp.agI H hid hm (w1:=w.drew) rfl rfl rfl ⟨rfl,λ_=>Nat.le_succ _⟩ kl (z:=i.size) (n:=n+k) (cap:=nc) (f:=app n f g) (vs:=olds.toArray++news.toArray++Builtin.zeroCells zv.cells (nc - (n+k))) e hge hsz
      (λq hq=>by
       rw [iY,htl]
       rcases Nat.lt_or_ge q olds.length with h1|h1
       ·rw [List.getElem?_append_left h1,List.getElem?_eq_getElem h1];exact ho2 _ (List.getElem_mem h1)
       ·rw [List.getElem?_append_right h1]
        rcases Nat.lt_or_ge (q - olds.length) news.length with h2|h2
        ·rw [List.getElem?_append_left h2,List.getElem?_eq_getElem h2];exact hS.2.2.1 _ (List.getElem_mem h2)
        ·rw [List.getElem?_append_right h2]
         have h3:q - olds.length - news.length<(Builtin.zeroCells zv.cells (nc - (n+k))).toList.length:=by
          have h5:(Builtin.zeroCells zv.cells (nc - (n+k))).toList.length=(nc - (n+k))*i.size:=by simp only [Array.length_toList,size_zeroCells,hzc,hzs]
          rw [h5]
          rw [hsz]at hq
          have e2:(nc - (n+k))*i.size+(n+k)*i.size=nc*i.size:=by rw [<-Nat.add_mul];congr 1;omega
          rw [Nat.add_mul]at e2
          omega
         rw [List.getElem?_eq_getElem h3]
         simp only [Option.getD_some,Array.getElem_toList,Builtin.zeroCells,Array.getElem_map,Array.getElem_range,hzc]
         have h4:(q - olds.length - news.length)%z.size<z.size:=Nat.mod_lt _ (by omega)
         simp only [h4,getElem!_pos]
         exact(Array.all_eq_true.1 hz1) _ h4)
      (by
       simp only [iY,htl]
       refine ajI (λq hq=> ?_) (λq hq=> ?_)
       ·obtain⟨p1,p2⟩:=ho4 q hq
        refine⟨p1,λj y hy=> ?_⟩
        have hj:j<i.size:=by rw [<-p1];exact aR hy
        have hqz:q*i.size+i.size<=n*i.size:=by rw [<-Nat.succ_mul];exact Nat.mul_le_mul_right _ (by omega)
        rw [List.getElem?_append_left (by omega)]
        exact p2 j y hy
       ·obtain⟨p1,p2⟩:=hS.2.2.2 q hq
        refine⟨p1,λj y hy=> ?_⟩
        have hj:j<i.size:=by rw [<-p1];exact aR hy
        have hqz:q*i.size+i.size<=k*i.size:=by rw [<-Nat.succ_mul];exact Nat.mul_le_mul_right _ (by omega)
        rw [Nat.add_mul,List.getElem?_append_right (by omega),List.getElem?_append_left (by omega)]
        have e:n*i.size+q*i.size+j - olds.length=q*i.size+j:=by omega
        rw [e]
        exact p2 j y hy)
     exact⟨_,_,m',hrun,hSt,Cz⟩
end
end Go.AM
namespace Go.AM
open Go Go.CP Go.RowKit
section
variable {P:Program} {X:Mu} {w:World} {m:vW} {h:List bF} {M:Mu}
theorem afA [Fuel] (H : bI X w m h) {t u ty:TypeId} {s x:SC} {sv xv:Value} {eff:Eff}
    (hs:lU w m (MX X m h) s sv) (hx:lU w m (MX X m h) x xv) (he:Wj P t (mX h) s x=some eff) (hc:∀q∈eff.bs,q=true):
    ∃v w',(Builtin.copy_ #[t,u] ty #[sv,xv]).run P w= .ok v w'/\Stp X w m h w' m (bD h eff.ws)/\nZ w' m (MX X m (bD h eff.ws)) eff.r v:=by
  unfold Wj at he
  cases hei:mY P t with
  |none=>rw [hei]at he;cases he
  | some q=>
    obtain⟨e,i,z⟩:=q
    rw [hei]at he
    simp only at he
    obtain⟨hu,hi,⟨zv,hz,hzc⟩,hzs,hz1,hpos,YN⟩:=pE hei
    cases s with
    | sl k lo len =>
      cases hsr:LP i.size (mX h) x with
      |none=>rw [hsr]at he;cases he
      | some q=>
        obtain⟨mm,g,c2⟩:=q
        rw [hsr]at he
        simp only at he
        cases hg:mX h k with
        | arr z' n f=>
          rw [hg]at he
          simp only at he
          cases hb:Nat.beq z' i.size with
          |false=>rw [hb]at he;cases he
          | true=>
            rw [hb]at he
            have hb:=Nat.eq_of_beq_eq_true hb
            subst hb
            simp only [cond_true]at he
            cases he
            have hle:lo+len<=n:=of_decide_eq_true (hc _ (by simp))
            obtain⟨news,hS⟩:=abd H hx hsr (λq hq=>hc q (by simp [hq]))
            cases hs with
            | sl _ _ _ l a c hk h0 h1 h2 h3=>
              have hget:=l5 hg trivial
              obtain⟨l',e1,e2,e3,e4,e5⟩:=H.obj k _ hget
              rw [hk]at e1;cases e1
              have hlen:=UK (P:=P) i.size mm hS (w1:=w)
              -- the first cells of the source
              have am8:(Builtin.firstCells i.size (min mm len) xv).run P w= .ok (news.take (min mm len*i.size)).toArray w:=by
                obtain⟨⟨a',c',rfl,ha'⟩,hnl,_⟩:=hS
                rcases ha' with rfl|⟨b',off',rfl,hn'⟩
                · have:news= []:=List.eq_nil_of_length_eq_zero (by simpa using hnl)
                  subst this
                  cases a'<;>simp [Builtin.firstCells,loadCells,loadCellsFrom]
                · refine run_firstCells_some w i.size (min mm len) ⟨b',off',none⟩ mm c' _ ?_ (λj v hv=> ?_)
                  · rw [List.length_take,hnl]
                    have:min mm len*i.size<=mm*i.size:=Nat.mul_le_mul_right _ (Nat.min_le_left _ _)
                    omega
                  · rw [addr_add]
                    have hj:=aR hv
                    simp at hj
                    rw [List.getElem?_take,if_pos (by omega)]at hv
                    exact hn' j v hv
              by_cases hz0:min mm len=0
              · refine⟨_,w,?_,?_,.c (.val _)⟩
                · have hf2:(Builtin.firstCells i.size (Nat.min mm len) xv).run P w= .ok (news.take (min mm len*i.size)).toArray w:=am8
                  rw [hz0]at hf2
                  simp only [Nat.zero_mul,List.take_zero]at hf2
                  have e0:Nat.min mm len=0:=hz0
                  rw [e0]at hf2
                  cases a<;>simp [Builtin.copy_,run_underlying hu,hlen,sizeOf,typeInfo,hi,e0,hf2,storeCells,goInt,hz0]
                · have:Stp X w m h w m h:=Stp.refl H
                  have hcp:cpy lo (min mm len) f g=f:=by
                    funext q;unfold cpy;rw [hz0,if_neg (by omega)]
                  have hset:h.set k (.arr i.size n f)=h:=by
                    apply List.ext_getElem?
                    intro q
                    by_cases hq:k=q
                    · subst hq;rw [List.getElem?_set_self (aR hget),hget]
                    · rw [List.getElem?_set_ne hq]
                  show Stp X w m h w m (h.set k (.arr i.size n (cpy lo (min mm len) f g)))
                  rw [hcp,hset]
                  exact this
              · have hl0:len≠0:=by omega
                obtain⟨b,hbk,ha⟩:=h1 hl0
                obtain⟨e6,T,vs,e7,e8,e9,e10⟩:=e5 b hbk
                have hnl:news.length=mm*i.size:=hS.2.1
                have hmn:min mm len*i.size<=mm*i.size:=Nat.mul_le_mul_right _ (Nat.min_le_left _ _)
                have hln:(news.take (min mm len*i.size)).length=min mm len*i.size:=by rw [List.length_take,hnl];omega
                have hfit:lo*i.size+(news.take (min mm len*i.size)).length<=vs.size:=by
                  rw [hln,e8,<-Nat.add_mul]
                  exact Nat.mul_le_mul_right _ (by have:=Nat.min_le_right mm len;omega)
                have h1n:∀u∈news.take (min mm len*i.size),u.oneCell'=true:=λu hu=>hS.2.2.1 u (List.mem_of_mem_take hu)
                have hst:=run_storeCells_at P b (lo*i.size) T (news.take (min mm len*i.size)) 0 vs w e7 (by simpa using hfit) h1n
                simp only [Nat.add_zero]at hst
                refine⟨.int .i64 ((min mm len:Nat):Int),w.setRow b (splice vs.toList (lo*i.size) (news.take (min mm len*i.size))).toArray,?_,?_,.c (.val _)⟩
                · have hf2:(Builtin.firstCells i.size (Nat.min mm len) xv).run P w= .ok (news.take (min mm len*i.size)).toArray w:=am8
                  rw [ha,e2]
                  simp [Builtin.copy_,run_underlying hu,hlen,sizeOf,typeInfo,hi,hf2,hst,goInt,splice,List.append_assoc]
                  first|done|rfl
                · refine Stp.write H hget trivial hk hbk rfl rfl ⟨rfl,λ_=>Nat.le_refl _⟩ (by simp) (λc _ hc=>setRow_other w b c _ hc) (λhLt=> ?_)
                  refine⟨l,hk,e2,e3,e4,λb' hb'=> ?_⟩
                  obtain rfl:b=b':=by rw [hbk]at hb';exact Option.some.inj hb'
                  refine⟨e6,T,_,setRow_heap w b vs _ T _ e7,?_,?_,λq hq=> ?_⟩
                  · rw [List.size_toArray,jh _ _ _ (by simpa using hfit)];simpa using e8
                  · exact Cy (by simpa using hfit) (λj hj=>by have:=e9 j (by simpa using hj);rwa [iY]at this) h1n
                  · unfold cpy
                    split
                    · rename_i hq2
                      obtain⟨p1,p2⟩:=hS.2.2.2 (q - lo) (by have:=Nat.min_le_left mm len;omega)
                      refine⟨p1,λj y hy=> ?_⟩
                      have hj:j<i.size:=by rw [<-p1];exact aR hy
                      have hq3:(q - lo)*i.size+i.size<=min mm len*i.size:=by rw [<-Nat.succ_mul];exact Nat.mul_le_mul_right _ (by omega)
                      have hq4:q*i.size=lo*i.size+(q - lo)*i.size:=by rw [<-Nat.add_mul];congr 1;omega
                      rw [jw,dU _ _ _ (by simpa using hfit),hln,if_pos (by omega)]
                      have e:q*i.size+j - lo*i.size=(q - lo)*i.size+j:=by omega
                      rw [e,List.getElem?_take,if_pos (by omega)]
                      exact(p2 j y hy).later hLt
                    · rename_i hq2
                      obtain⟨p1,p2⟩:=e10 q hq
                      refine⟨p1,λj y hy=> ?_⟩
                      have hj:j<i.size:=by rw [<-p1];exact aR hy
                      rw [jw,dU _ _ _ (by simpa using hfit),hln,if_neg ?_]
                      · have:=(p2 j y hy).later hLt
                        rwa [iY]at this
                      · rcases Nat.lt_or_ge q lo with h'|h'
                        · have:q*i.size+i.size<=lo*i.size:=by rw [<-Nat.succ_mul];exact Nat.mul_le_mul_right _ (by omega)
                          omega
                        · have:(lo+min mm len)*i.size<=q*i.size:=Nat.mul_le_mul_right _ (by omega)
                          rw [Nat.add_mul]at this
                          omega
        |box cs=>rw [hg]at he;cases he
        |mp es=>rw [hg]at he;cases he
        |ra z1 n1 cs1=>rw [hg]at he;cases he
        |ms es1=>rw [hg]at he;cases he
        |dead=>rw [hg]at he;cases he
    |_=>cases LP i.size (mX h) x<;>cases he
theorem ah4 [Fuel] (H:bI X w m h) {t u ty:TypeId} {s x:SC} {sv xv:Value} {eff:Eff}
    (hs:lU w m (MX X m h) s sv) (hx:lU w m (MX X m h) x xv) (he:agD P t (mX h) s x=some eff) (hc:∀q∈eff.bs,q=true):
    ∃v w',(Builtin.copy_ #[t,u] ty #[sv,xv]).run P w= .ok v w'/\Stp X w m h w' m (bD h eff.ws)/\nZ w' m (MX X m (bD h eff.ws)) eff.r v:=
  afA H (lU.vw H (λ_ _=>rfl) hs) hx he hc
theorem adJ [Fuel] (H : bI X w m h) {t ty:TypeId} {ts:List TypeId} {s:SC} {sv:Value} {eff:Eff}
    (hs:lU w m (MX X m h) s sv) (he:RN P t (mX h) s=some eff) (hc:∀q∈eff.bs,q=true):
    ∃v w',(Builtin.clear_ (t::ts).toArray ty #[sv]).run P w= .ok v w'/\Stp X w m h w' m (bD h eff.ws)/\nZ w' m (MX X m (bD h eff.ws)) eff.r v:=by
  unfold RN at he
  cases hei:mY P t with
  |none=>rw [hei]at he;cases he
  | some q=>
    obtain⟨e,i,z⟩:=q
    rw [hei]at he
    simp only at he
    obtain⟨hu,hi,⟨zv,hz,hzc⟩,hzs,hz1,hpos,YN⟩:=pE hei
    cases s with
    | sl k lo len =>
      simp only at he
      cases hg:mX h k with
      | arr z' n f=>
        rw [hg]at he
        simp only at he
        cases hb:Nat.beq z' i.size with
        |false=>rw [hb]at he;cases he
        | true=>
          rw [hb]at he
          have hb:=Nat.eq_of_beq_eq_true hb
          subst hb
          simp only [cond_true]at he
          cases he
          have hle:lo+len<=n:=of_decide_eq_true (hc _ (by simp))
          have hunit:∀(w':World) (M':Mu),nZ w' m M' (.tup []) (.tuple #[]):=λw' M'=>⟨#[],rfl,rfl,λq a hq=>by simp at hq⟩
          cases hs with
          | sl _ _ _ l a c hk h0 h1 h2 h3=>
            have hget:=l5 hg trivial
            obtain⟨l',e1,e2,e3,e4,e5⟩:=H.obj k _ hget
            rw [hk]at e1;cases e1
            by_cases hz0:len=0
            · refine⟨.tuple #[],w,?_,?_,hunit _ _⟩
              · subst hz0
                cases a<;>simp [Builtin.clear_,run_underlying hu]
              · have:Stp X w m h w m h:=Stp.refl H
                have hcp:cpy lo len f (λ_=>z.toList.map .val)=f:=by
                  funext q;unfold cpy;rw [hz0,if_neg (by omega)]
                have hset:h.set k (.arr i.size n f)=h:=by
                  apply List.ext_getElem?
                  intro q
                  by_cases hq:k=q
                  · subst hq;rw [List.getElem?_set_self (aR hget),hget]
                  · rw [List.getElem?_set_ne hq]
                show Stp X w m h w m (h.set k (.arr i.size n (cpy lo len f (λ_=>z.toList.map .val))))
                rw [hcp,hset]
                exact this
            · obtain⟨b,hbk,ha⟩:=h1 hz0
              obtain⟨e6,T,vs,e7,e8,e9,e10⟩:=e5 b hbk
              obtain⟨news,hnews⟩:∃news,news=(Builtin.zeroCells z len).toList:=⟨_,rfl⟩
              have hnl:news.length=len*i.size:=by rw [hnews];simp [Builtin.zeroCells,hzs]
              have hat:∀q,q<len*i.size->news[q]? =some (z[q%z.size]'(Nat.mod_lt _ (by omega))):=by
                intro q hq
                have h2:q%z.size<z.size:=Nat.mod_lt _ (by omega)
                have hq':q<len*z.size:=by rw [hzs];exact hq
                rw [hnews]
                simp [Builtin.zeroCells,hq',h2]
              have h1n:∀u∈news,u.oneCell'=true:=by
                intro u hu
                obtain⟨q,hq,rfl⟩:=List.getElem_of_mem hu
                have h2:q%z.size<z.size:=Nat.mod_lt _ (by omega)
                have:=hat q (by omega)
                rw [List.getElem?_eq_getElem hq]at this
                rw [Option.some.inj this]
                exact(Array.all_eq_true.1 hz1) _ h2
              have hfit:lo*i.size+news.length<=vs.size:=by
                rw [hnl,e8,<-Nat.add_mul]
                exact Nat.mul_le_mul_right _ (by omega)
              have hst:=run_storeCells_at P b (lo*i.size) T news 0 vs w e7 (by simpa using hfit) h1n
              simp only [Nat.add_zero]at hst
              refine⟨.tuple #[],w.setRow b (splice vs.toList (lo*i.size) news).toArray,?_,?_,hunit _ _⟩
              · rw [ha,e2]
                rw [hnews]at hst
                have hzv:=mZ (P:=P) (w:=w) hi hz
                cases len with
                |zero=>exact absurd rfl hz0
                |succ len=>
                simp only [Builtin.clear_,List.getElem?_toArray,List.getElem?_cons_zero,Sem.run_bind,run_underlying hu,Result.andThen_ok,hzv,hzc,Sem.run_pure]
                first
                  |(rw [hst];simp [splice,hnews,List.append_assoc];done)
                  |(simp [hzv,hzc,hst,splice,hnews,List.append_assoc];done)
              · refine Stp.write H hget trivial hk hbk rfl rfl ⟨rfl,λ_=>Nat.le_refl _⟩ (by simp) (λc _ hc=>setRow_other w b c _ hc) (λhLt=> ?_)
                refine⟨l,hk,e2,e3,e4,λb' hb'=> ?_⟩
                obtain rfl:b=b':=by rw [hbk]at hb';exact Option.some.inj hb'
                refine⟨e6,T,_,setRow_heap w b vs _ T _ e7,?_,?_,λq hq=> ?_⟩
                · rw [List.size_toArray,jh _ _ _ (by simpa using hfit)];simpa using e8
                · exact Cy (by simpa using hfit) (λj hj=>by have:=e9 j (by simpa using hj);rwa [iY]at this) h1n
                · unfold cpy
                  split
                  · rename_i hq2
                    refine⟨by simp [hzs],λj y hy=> ?_⟩
                    rw [List.getElem?_map]at hy
                    cases hzj:z.toList[j]? with
                    |none=>rw [hzj]at hy;cases hy
                    | some v=>
                      rw [hzj]at hy;cases hy
                      have hj:j<z.size:=by have:=aR hzj;simpa using this
                      have hq3:(q - lo)*i.size+i.size<=len*i.size:=by rw [<-Nat.succ_mul];exact Nat.mul_le_mul_right _ (by omega)
                      have hq4:q*i.size=lo*i.size+(q - lo)*i.size:=by rw [<-Nat.add_mul];congr 1;omega
                      rw [jw,dU _ _ _ (by simpa using hfit),hnl,if_pos (by rw [hzs]at hj;omega)]
                      have e:q*i.size+j - lo*i.size=(q - lo)*i.size+j:=by omega
                      rw [e,hat _ (by rw [hzs]at hj;omega)]
                      have hmod:((q - lo)*i.size+j)%z.size=j:=by rw [<-hzs,Nat.mul_comm,Nat.mul_add_mod,Nat.mod_eq_of_lt hj]
                      have hv:v=z[j]:=by simp [hj]at hzj;exact hzj.symm
                      have:z[((q - lo)*i.size+j)%z.size]'(Nat.mod_lt _ (by omega))=v:=by
                        rw [hv];congr 1
                      rw [Option.getD_some,this]
                      exact .val v
                  · rename_i hq2
                    obtain⟨p1,p2⟩:=e10 q hq
                    refine⟨p1,λj y hy=> ?_⟩
                    have hj:j<i.size:=by rw [<-p1];exact aR hy
                    rw [jw,dU _ _ _ (by simpa using hfit),hnl,if_neg ?_]
                    · have:=(p2 j y hy).later hLt
                      rwa [iY]at this
                    · rcases Nat.lt_or_ge q lo with h'|h'
                      · have:q*i.size+i.size<=lo*i.size:=by rw [<-Nat.succ_mul];exact Nat.mul_le_mul_right _ (by omega)
                        omega
                      · have:(lo+len)*i.size<=q*i.size:=Nat.mul_le_mul_right _ (by omega)
                        rw [Nat.add_mul]at this
                        omega
      |box cs=>rw [hg]at he;cases he
      |mp es=>rw [hg]at he;cases he
      |ra z1 n1 cs1=>rw [hg]at he;cases he
      |ms es1=>rw [hg]at he;cases he
      |dead=>rw [hg]at he;cases he
    |_=>cases he
theorem afB [Fuel] (H:bI X w m h) {t ty:TypeId} {ts:List TypeId} {s:SC} {sv:Value} {eff:Eff}
    (hs:lU w m (MX X m h) s sv) (he:ab2 P t (mX h) s=some eff) (hc:∀q∈eff.bs,q=true):
    ∃v w',(Builtin.clear_ (t::ts).toArray ty #[sv]).run P w= .ok v w'/\Stp X w m h w' m (bD h eff.ws)/\nZ w' m (MX X m (bD h eff.ws)) eff.r v:=
  adJ H (lU.vw H (λ_ _=>rfl) hs) he hc
theorem YP [Fuel] {s:TypeId} {f o:Nat} {t:TypeId} (he:Wl P s f=some (o,t)):
    ∃fs fl i,P.underlying s=some (.struct fs)/\fs[f]? =some fl/\P.info? fl.type=some i/\i.size≠0/\o=fl.offset/\t=fl.type:=by
  unfold Wl at he
  cases hu:P.underlying s with
  |none=>rw [hu]at he;cases he
  | some d=>
    rw [hu]at he
    cases d with
    | struct fs=>
      simp only at he
      cases hf:fs[f]? with
      |none=>rw [hf]at he;cases he
      | some fl=>
        rw [hf]at he
        simp only at he
        cases hi:P.info? fl.type with
        |none=>rw [hi]at he;cases he
        | some i=>
          rw [hi]at he
          simp only at he
          cases hb:Nat.beq i.size 0 with
          |true=>rw [hb]at he;cases he
          | false=>
            rw [hb]at he
            simp only [cond_false]at he
            cases he
            refine⟨fs,fl,i,rfl,hf,hi,λh0=> ?_,rfl,rfl⟩
            rw [h0]at hb;cases hb
    |_=>cases he
theorem TV [Fuel] {s:TypeId} {f o:Nat} {t:TypeId} (he:Wl P s f=some (o,t)) (b off:Nat):
    (Instr.fieldAt s (.pointer (some ⟨b,off,none⟩)) f).run P w= .ok (.pointer (some ⟨b,off+o,none⟩)) w:=by
  obtain⟨fs,fl,i,hu,hf,hi,h0,rfl,rfl⟩:=YP he
  simp only [Instr.fieldAt,Sem.run_bind,run_underlying hu,Result.andThen_ok,hf,Instr.sureAddr,Sem.run_pure,fieldPlace,oF hi,if_neg h0,addr_add]
theorem YQ [Fuel] {s:TypeId} {x:SC} {v:Value} {f:Nat} {eff:Eff} (hx:lU w m M x v) (he:TT P s x f=some eff):
    ∃u,(Instr.fieldAt s v f).run P w= .ok u w/\eff.ws= []/\nZ w m M eff.r u:=by
  unfold TT at he
  cases hf:Wl P s f with
  |none=>rw [hf]at he;cases he
  | some q=>
    obtain⟨o,t⟩:=q
    rw [hf]at he
    cases x with
    | pb k off=>
      cases he
      cases hx with
      |pb _ _ b l hk hb=>exact⟨_,TV hf b off,rfl,.pb k (off+o) b l hk hb⟩
    | pe k i off=>
      cases he
      cases hx with
      | pe _ _ _ b l hk hb hi=>
        refine⟨_,TV hf b _,rfl,?_⟩
        rw [Nat.add_assoc]
        exact .pe k i (off+o) b l hk hb hi
    | rp cs=>
      cases he
      cases hx with
      | rp _ b off c hb hs hc h=>
        refine⟨_,TV hf b off,rfl,?_⟩
        refine .rp (cs.drop o) b (off+o) (λj=>c (o+j)) hb hs (λj hj=> ?_) (λj x hx=> ?_)
        · rw [Nat.add_assoc];exact hc _ (by simp at hj;omega)
        · rw [List.getElem?_drop]at hx;exact h _ _ hx
    |_=>cases he
theorem agL [Fuel] {t:TypeId} {cs:List SC} {vs:Array Value} {o:Nat} {v:AV} (hL:UF w m M cs vs) (hl:Sw P t cs o=some v):
    ∃u,(part t vs o).run P w= .ok u w/\Fp w m M v u:=by
  unfold Sw at hl
  cases hu:P.underlying t with
  |none=>rw [hu]at hl;cases hl
  | some d=>
    rw [hu]at hl
    simp only at hl
    cases hag:Mw P t with
    | true=>
      rw [hag]at hl
      cases hi:P.info? t with
      |none=>rw [hi]at hl;simp at hl
      | some i=>
        rw [hi]at hl
        simp only [cond_true]at hl
        split at hl
        · rename_i hle
          cases hl
          have hagg:(isAgg t).run P w= .ok true w:=by
            unfold Mw at hag;rw [hu]at hag
            unfold isAgg;simp only [Sem.run_bind,run_underlying hu,Result.andThen_ok]
            cases d<;>simp_all
          refine⟨.agg (vs.extract o (o+i.size)),?_,_,rfl,?_,λj x hx=> ?_⟩
          · simp only [part,Sem.run_bind,hagg,Result.andThen_ok,if_true,oF hi,Sem.run_pure]
          · simp [hL.1];omega
          · have hj:=aR hx
            simp at hj
            rw [List.getElem?_take,if_pos (by omega),List.getElem?_drop]at hx
            have:=hL.2 _ _ hx
            rw [iY]at this⊢
            simpa [List.getElem?_take,List.getElem?_drop,show j<i.size by omega]using this
        · cases hl
    | false=>
      rw [hag]at hl
      simp only [cond_false]at hl
      cases hx:cs[o]? with
      |none=>rw [hx]at hl;cases hl
      | some x=>
        rw [hx]at hl
        cases hl
        have hagg:(isAgg t).run P w= .ok false w:=by
          unfold Mw at hag;rw [hu]at hag
          unfold isAgg;simp only [Sem.run_bind,run_underlying hu,Result.andThen_ok]
          cases d<;>simp_all
        have ho:o<vs.size:=by rw [hL.1];exact aR hx
        refine⟨vs[o],?_,?_⟩
        · simp only [part,Sem.run_bind,hagg,Result.andThen_ok,Bool.false_eq_true,if_false,Array.getElem?_eq_getElem ho,Sem.run_pure]
        · have:=hL.2 _ _ hx
          have e:vs.getD o undef=vs[o]:=by simp [Array.getD,ho]
          rw [e]at this
          exact this
theorem run_indexAt_slice [Fuel] {t e:TypeId} {ie:TypeInfo} (hu:P.underlying t=some (.slice e)) (hi:P.info? e=some ie) {k:IntKind} {i:Int} {b off n c:Nat} (hb:0<=i/\i<n):
    (Instr.indexAt t (.slice (some ⟨b,off,none⟩) n c) (.int k i)).run P w= .ok (.pointer (some ⟨b,off+i.toNat*ie.size,none⟩)) w:=by
  simp [Instr.indexAt,asIntOf,run_underlying hu,hb,sizeOf,typeInfo,hi,addr_add]
theorem run_indexAt_array [Fuel] {t e:TypeId} {ie:TypeInfo} {n:Nat} (hu:P.underlying t=some (.array n e)) (hi:P.info? e=some ie) {k:IntKind} {i:Int} {b off:Nat} (hb:0<=i/\i<n):
    (Instr.indexAt t (.pointer (some ⟨b,off,none⟩)) (.int k i)).run P w= .ok (.pointer (some ⟨b,off+i.toNat*ie.size,none⟩)) w:=by
  simp [Instr.indexAt,asIntOf,run_underlying hu,hb,sizeOf,typeInfo,hi,addr_add,Instr.sureAddr]
theorem Im [Fuel] {t:TypeId} {x:SC} {v:Value} {k:IntKind} {i:Int} {eff:Eff} (H:bI X w m h) (hx:lU w m (MX X m h) x v) (he:Cw P t (mX h) x i=some eff) (hc:∀q∈eff.bs,q=true):
    ∃u,(Instr.indexAt t v (.int k i)).run P w= .ok u w/\eff.ws= []/\nZ w m (MX X m h) eff.r u:=by
  unfold Cw at he
  cases hu:P.underlying t with
  |none=>rw [hu]at he;cases he
  | some d=>
    rw [hu]at he
    cases d with
    | slice e =>
      simp only at he
      cases hi:P.info? e with
      |none=>rw [hi]at he;cases he
      | some ie =>
        rw [hi]at he
        cases x with
        | sl k' lo len=>
          simp only at he
          cases hg:mX h k' with
          | arr z n f=>
            rw [hg]at he
            simp only at he
            cases hbz:Nat.beq z ie.size with
            |false=>rw [hbz]at he;cases he
            | true=>
              rw [hbz]at he
              have hbz:=Nat.eq_of_beq_eq_true hbz
              cases he
              have hb:0<=i/\i<len:=of_decide_eq_true (hc _ (by simp))
              cases hx with
              | sl _ _ _ l a c hk h0 h1 h2 h3=>
                have hb2:lo+len<=n:=of_decide_eq_true (hc _ (by simp))
                obtain⟨b,hbl,rfl⟩:=h1 (by omega)
                obtain⟨l',e1,e2,_⟩:=H.obj k' _ (l5 hg trivial)
                rw [hk]at e1;cases e1
                refine⟨_,run_indexAt_slice hu hi hb,rfl,?_⟩
                have e:lo*l.z+i.toNat*ie.size=(lo+i.toNat)*l.z+0:=by rw [Nat.add_mul,e2,hbz];omega
                rw [e]
                exact .pe k' (lo+i.toNat) 0 b l hk hbl (by rw [ajE H hg hk];omega)
          |box cs=>rw [hg]at he;cases he
          |mp es=>rw [hg]at he;cases he
          |ra z1 n1 cs1=>rw [hg]at he;cases he
          |ms es1=>rw [hg]at he;cases he
          |dead=>rw [hg]at he;cases he
        | c x =>
          cases x with
          | rd z n f=>
            simp only at he
            cases hbz:Nat.beq z ie.size with
            |false=>rw [hbz]at he;cases he
            | true=>
              rw [hbz]at he
              have hbz:=Nat.eq_of_beq_eq_true hbz
              cases he
              have hb:0<=i/\i<n:=of_decide_eq_true (hc _ (by simp))
              cases hx with
              | c hx=>
                cases hx with
                |rd0=>omega
                | rd _ _ _ b off cap c hb' hs hn hl hcell h1 Cz=>
                  refine⟨_,run_indexAt_slice hu hi hb,rfl,?_⟩
                  rw [<-hbz]
                  have hin:i.toNat<n:=by omega
                  have hz:i.toNat*z+z<=n*z:=by rw [<-Nat.succ_mul];exact Nat.mul_le_mul_right _ (by omega)
                  refine .rp (f i.toNat) b (off+i.toNat*z) (λj=>c (i.toNat*z+j)) hb' hs (λj hj=> ?_) (λj x hx=>Cz _ j x hin hx)
                  rw [hl _ hin]at hj
                  rw [Nat.add_assoc]
                  exact hcell _ (by omega)
          |_=>cases he
        |_=>cases he
    | array n e=>
      simp only at he
      cases hi:P.info? e with
      |none=>rw [hi]at he;cases he
      | some ie=>
        rw [hi]at he
        cases x with
        | pb k' off=>
          cases he
          have hb:0<=i/\i<n:=of_decide_eq_true (hc _ (by simp))
          cases hx with
          |pb _ _ b l hk hbl=>exact⟨_,run_indexAt_array hu hi hb,rfl,.pb k' _ b l hk hbl⟩
        | pe k' j off=>
          cases he
          have hb:0<=i/\i<n:=of_decide_eq_true (hc _ (by simp))
          cases hx with
          | pe _ _ _ b l hk hbl hj=>
            refine⟨_,run_indexAt_array hu hi hb,rfl,?_⟩
            rw [Nat.add_assoc]
            exact .pe k' j _ b l hk hbl hj
        | rp cs=>
          cases he
          have hb:0<=i/\i<n:=of_decide_eq_true (hc _ (by simp))
          cases hx with
          | rp _ b off c hb' hs hcl h=>
            refine⟨_,run_indexAt_array hu hi hb,rfl,?_⟩
            refine .rp (cs.drop (i.toNat*ie.size)) b (off+i.toNat*ie.size) (λj=>c (i.toNat*ie.size+j)) hb' hs (λj hj=> ?_) (λj x hx=> ?_)
            · rw [Nat.add_assoc];exact hcl _ (by simp at hj;omega)
            · rw [List.getElem?_drop]at hx;exact h _ _ hx
        |_=>cases he
    |_=>cases he
theorem YR [Fuel] {t:TypeId} {x:SC} {v:Value} {k:IntKind} {i:Int} {eff:Eff} (H:bI X w m h) (hx:lU w m (MX X m h) x v) (he:JE P t (mX h) x i=some eff) (hc:∀q∈eff.bs,q=true):
    ∃u,(Instr.indexAt t v (.int k i)).run P w= .ok u w/\eff.ws= []/\nZ w m (MX X m h) eff.r u:=by
  have hv:=lU.vw H (get:=mX h) (λ_ _=>rfl) hx
  unfold JE at he
  split at he
  · rename_i k'
    split at he
    · rename_i e hu
      split at he
      · rename_i ie z n f hi hg
        cases hbz:Nat.beq z ie.size with
        |false=>rw [hbz]at he;cases he
        | true=>
          rw [hbz]at he
          simp only [cond_true]at he
          simp only [Go.AM.vw,hg]at hv
          cases he
          have hb:0<=i/\i<n:=of_decide_eq_true (hc _ (by simp))
          have:=Im (P:=P) (t:=t) (k:=k) (i:=i) (eff:={r:= .one (.s (.pe k' (0+i.toNat) 0)),bs:= [decide (0<=i/\i<n),decide (0+n<=n)]}) H hv
            (by simp only [Cw,hu,hi,hg,hbz,cond_true]) (by simp;omega)
          simpa using this
      · cases he
    · cases he
  · simp only [Go.AM.vw]at hv
    exact Im H hv he hc
  · exact Im H hx he hc
theorem Dm [Fuel] {t e:TypeId} {ie:TypeInfo} (hu:P.underlying t=some (.slice e)) (hi:P.info? e=some ie) {base:Option Addr} {n c:Nat} {lo hi':Option Value} {a b:Nat}
    (hlo:(lo=none/\a=0)∨∃k,lo=some (.int k (a:Int))) (hhi:(hi'=none/\b=n)∨∃k,hi'=some (.int k (b:Int))) (hab:a<=b) (hbn:b<=n) (hnc:n<=c):
    (Instr.sliceAt t (.slice base n c) lo hi' none).run P w= .ok (.slice (if c=a then base else base.map (·.add (a*ie.size))) (b - a) (c - a)) w:=by
  have h1:b<=c:=by omega
  have h2:(a:Int)<=(b:Int):=by omega
  have h3:(b:Int)<=(c:Int):=by omega
  rcases hlo with⟨rfl,rfl⟩|⟨k,rfl⟩<;>rcases hhi with⟨rfl,rfl⟩|⟨k',rfl⟩<;>
    simp [Instr.sliceAt,Instr.slice,run_underlying hu,Instr.sliceBounds,Instr.sliceBound,asIntOf,sizeOf,typeInfo,hi,h1,h2,h3,hab]
theorem adK [Fuel] {t : TypeId} {x:SC} {v:Value} {lo hi mx:Option Int} {lov hiv mxv:Option Value} {eff:Eff} (H:bI X w m h) (hx:lU w m (MX X m h) x v)
    (hlo:(lo=none/\lov=none)∨∃k n,lo=some n/\lov=some (.int k n)) (hhi:(hi=none/\hiv=none)∨∃k n,hi=some n/\hiv=some (.int k n)) (hmx:(mx=none/\mxv=none)∨∃k n,mx=some n/\mxv=some (.int k n))
    (he:RO P t (mX h) x lo hi mx=some eff) (hc:∀q∈eff.bs,q=true):
    ∃u,(Instr.sliceAt t v lov hiv mxv).run P w= .ok u w/\eff.ws= []/\nZ w m (MX X m h) eff.r u:=by
  unfold RO at he
  cases hu:P.underlying t with
  |none=>rw [hu]at he;cases he
  | some d=>
    rw [hu]at he
    cases d with
    | slice e =>
      simp only at he
      cases hie:P.info? e with
      |none=>rw [hie]at he;cases he
      | some ie =>
        rw [hie]at he
        simp only at he
        rcases hmx with⟨rfl,rfl⟩|⟨km,mm,rfl,rfl⟩
        · simp only at he
          cases x with
          | sl k l len=>
            simp only at he
            cases hg:mX h k with
            |box cs=>rw [hg]at he;cases he
            |mp es=>rw [hg]at he;cases he
            |ra z1 n1 cs1=>rw [hg]at he;cases he
            |ms es1=>rw [hg]at he;cases he
            |dead=>rw [hg]at he;cases he
            | arr z n f=>
              rw [hg]at he
              simp only at he
              cases hbz:Nat.beq z ie.size with
              |false=>rw [hbz]at he;cases he
              | true=>
                rw [hbz]at he
                simp only [cond_true]at he
                have hbz:=Nat.eq_of_beq_eq_true hbz
                cases hx with
                | sl _ _ _ ll a c hk h0 h1 h2 h3=>
                  obtain⟨l',e1,e2,_⟩:=H.obj k _ (l5 hg trivial)
                  rw [hk]at e1;cases e1
                  have hz:ll.z=ie.size:=by rw [e2,hbz]
                  -- the bounds
                  have key:∀(a' b':Nat),((lov=none/\a'=0)∨∃k,lov=some (.int k (a':Int)))->((hiv=none/\b'=len)∨∃k,hiv=some (.int k (b':Int)))->a'<=b'->b'<=len→
                      ∃u,(Instr.sliceAt t (.slice a len c) lov hiv none).run P w= .ok u w/\lU w m (MX X m h) (.sl k (l+a') (b' - a')) u:=by
                    intro a' b' ha hb hab hbl
                    refine⟨_,Dm hu hie ha hb hab hbl h2,?_⟩
                    refine .sl k (l+a') (b' - a') ll _ _ hk (λh00=> ?_) (λhne=> ?_) (by omega) (by omega)
                    · have hl0:l=0:=by omega
                      have ha0:a'=0:=by omega
                      obtain⟨q1,q2⟩:=h0 hl0
                      subst ha0
                      refine⟨?_,by omega⟩
                      rw [<-q1]
                      split
                      · rfl
                      · cases a<;>simp [Addr.add]
                    · obtain⟨b,hb1,hb2⟩:=h1 (by omega)
                      refine⟨b,hb1,?_⟩
                      rw [if_neg (by omega),hb2,Option.map_some,addr_add,Nat.add_mul,hz]
                  rcases hlo with⟨rfl,rfl⟩|⟨k1,x1,rfl,rfl⟩
                  · simp only at he
                    cases he
                    rcases hhi with⟨rfl,rfl⟩|⟨k2,x2,rfl,rfl⟩
                    · have hb:(0:Int)<=(len:Int)/\(len:Int)<=len:=of_decide_eq_true (hc _ (by simp))
                      obtain⟨u,hr,hs⟩:=key 0 len (.inl ⟨rfl,rfl⟩) (.inl ⟨rfl,rfl⟩) (by omega) (by omega)
                      exact⟨u,hr,rfl,by simpa [nZ,Fp]using hs⟩
                    · have hb:(0:Int)<=x2/\x2<=len:=of_decide_eq_true (hc _ (by simp))
                      obtain⟨u,hr,hs⟩:=key 0 x2.toNat (.inl ⟨rfl,rfl⟩) (.inr ⟨k2,by rw [Int.toNat_of_nonneg hb.1]⟩) (by omega) (by omega)
                      exact⟨u,hr,rfl,by simpa [nZ,Fp]using hs⟩
                  · simp only at he
                    cases he
                    rcases hhi with⟨rfl,rfl⟩|⟨k2,x2,rfl,rfl⟩
                    · have hb:0<=x1/\x1<=(len:Int)/\(len:Int)<=len:=of_decide_eq_true (hc _ (by simp))
                      obtain⟨u,hr,hs⟩:=key x1.toNat len (.inr ⟨k1,by rw [Int.toNat_of_nonneg hb.1]⟩) (.inl ⟨rfl,rfl⟩) (by omega) (by omega)
                      exact⟨u,hr,rfl,by simpa [nZ,Fp]using hs⟩
                    · have hb:0<=x1/\x1<=x2/\x2<=len:=of_decide_eq_true (hc _ (by simp))
                      obtain⟨u,hr,hs⟩:=key x1.toNat x2.toNat (.inr ⟨k1,by rw [Int.toNat_of_nonneg hb.1]⟩) (.inr ⟨k2,by rw [Int.toNat_of_nonneg (by omega)]⟩) (by omega) (by omega)
                      exact⟨u,hr,rfl,by simpa [nZ,Fp]using hs⟩
          | c x =>
            cases x with
            | rd z n f=>
              simp only at he
              cases hbz:Nat.beq z ie.size with
              |false=>rw [hbz]at he;cases he
              | true=>
                rw [hbz]at he
                simp only [cond_true]at he
                have hbz:=Nat.eq_of_beq_eq_true hbz
                have key:∀(a' b':Nat),((lov=none/\a'=0)∨∃k,lov=some (.int k (a':Int)))->((hiv=none/\b'=n)∨∃k,hiv=some (.int k (b':Int)))->a'<=b'->b'<=n→
                      ∃u,(Instr.sliceAt t v lov hiv none).run P w= .ok u w∧∀g:Nat->List CV,(∀i,g i=f (a'+i))->lU w m (MX X m h) (.c (.rd z (b' - a') g)) u:=by
                  intro a' b' ha hb hab hbl
                  cases hx with
                  | c hx=>
                    cases hx with
                    | rd0 _ _ a cap=>
                      refine⟨_,Dm hu hie ha hb hab hbl (Nat.zero_le _),λg hg=> ?_⟩
                      have:b' - a'=0:=by omega
                      rw [this]
                      exact .c (.rd0 z g _ _)
                    | rd _ _ _ b off cap c hb' hs hn hl hcell h1 Cz=>
                      refine⟨_,Dm hu hie ha hb hab hbl hn,λg hg=> ?_⟩
                      by_cases h00:b' - a'=0
                      · rw [h00];exact .c (.rd0 z g _ _)
                      · rw [if_neg (by omega),Option.map_some,addr_add,<-hbz]
                        have hz2:b'*z<=n*z:=Nat.mul_le_mul_right _ hbl
                        have hz3:(b' - a')*z+a'*z=b'*z:=by rw [<-Nat.add_mul];congr 1;omega
                        refine .c (.rd z (b' - a') g b (off+a'*z) (cap - a') (λj=>c (a'*z+j)) hb' hs (by omega) (λi hi=> ?_) (λj hj=> ?_) (λj hj=>h1 _ (by omega)) (λi j x hi hx=> ?_))
                        · rw [hg];exact hl _ (by omega)
                        · rw [Nat.add_assoc];exact hcell _ (by omega)
                        · rw [hg]at hx
                          have:=Cz (a'+i) j x (by omega) hx
                          rw [Nat.add_mul,Nat.add_assoc]at this
                          exact this
                rcases hlo with⟨rfl,rfl⟩|⟨k1,x1,rfl,rfl⟩
                · simp only at he
                  cases he
                  rcases hhi with⟨rfl,rfl⟩|⟨k2,x2,rfl,rfl⟩
                  · have hb:(0:Int)<=(n:Int)/\(n:Int)<=n:=of_decide_eq_true (hc _ (by simp))
                    obtain⟨u,hr,hs⟩:=key 0 n (.inl ⟨rfl,rfl⟩) (.inl ⟨rfl,rfl⟩) (by omega) (by omega)
                    exact⟨u,hr,rfl,by simpa [nZ,Fp]using hs f (λi=>by rw [Nat.zero_add])⟩
                  · have hb:(0:Int)<=x2/\x2<=n:=of_decide_eq_true (hc _ (by simp))
                    obtain⟨u,hr,hs⟩:=key 0 x2.toNat (.inl ⟨rfl,rfl⟩) (.inr ⟨k2,by rw [Int.toNat_of_nonneg hb.1]⟩) (by omega) (by omega)
                    exact⟨u,hr,rfl,by simpa [nZ,Fp]using hs f (λi=>by rw [Nat.zero_add])⟩
                · simp only at he
                  cases he
                  rcases hhi with⟨rfl,rfl⟩|⟨k2,x2,rfl,rfl⟩
                  · have hb:0<=x1/\x1<=(n:Int)/\(n:Int)<=n:=of_decide_eq_true (hc _ (by simp))
                    obtain⟨u,hr,hs⟩:=key x1.toNat n (.inr ⟨k1,by rw [Int.toNat_of_nonneg hb.1]⟩) (.inl ⟨rfl,rfl⟩) (by omega) (by omega)
                    exact⟨u,hr,rfl,by simpa [nZ,Fp]using hs _ (λi=>rfl)⟩
                  · have hb:0<=x1/\x1<=x2/\x2<=n:=of_decide_eq_true (hc _ (by simp))
                    obtain⟨u,hr,hs⟩:=key x1.toNat x2.toNat (.inr ⟨k1,by rw [Int.toNat_of_nonneg hb.1]⟩) (.inr ⟨k2,by rw [Int.toNat_of_nonneg (by omega)]⟩) (by omega) (by omega)
                    exact⟨u,hr,rfl,by simpa [nZ,Fp]using hs _ (λi=>rfl)⟩
            | val u =>
              simp only at he
              split at he
              · rename_i b0
                cases hb0:decide (b0=0)with
                |false=>rw [hb0]at he;cases he
                | true=>
                  rw [hb0]at he;cases he
                  have hb0:=of_decide_eq_true hb0
                  subst hb0
                  cases hx with
                  |c hx=>
                  cases hx
                  rcases hlo with⟨_,rfl⟩|⟨k1,x1,e1,_⟩
                  · rcases hhi with⟨e2,_⟩|⟨k2,x2,e2,rfl⟩
                    · cases e2
                    · cases e2
                      have:=Dm (P:=P) (w:=w) (base:=none) (n:=0) (c:=0) (lo:=none) (hi':=some (.int k2 0)) (a:=0) (b:=0) hu hie (.inl ⟨rfl,rfl⟩) (.inr ⟨k2,rfl⟩) (Nat.le_refl _) (Nat.le_refl _) (Nat.le_refl _)
                      exact⟨_,this,rfl,.c (.val _)⟩
                  · cases e1
              · cases he
            |_=>cases he
          |_=>cases he
        · simp only at he
          rcases hlo with⟨rfl,rfl⟩|⟨k1,x1,rfl,rfl⟩
          · rcases hhi with⟨rfl,rfl⟩|⟨k2,x2,rfl,rfl⟩
            · cases he
            · cases hlen:lenOf x with
              |none=>rw [hlen]at he;cases he
              | some len=>
                rw [hlen]at he
                simp only at he
                cases hb:(x2==0)&&(mm==0)with
                |false=>rw [hb]at he;cases he
                | true=>
                  rw [hb]at he
                  cases he
                  simp only [Bool.and_eq_true,beq_iff_eq]at hb
                  obtain⟨rfl,rfl⟩:=hb
                  have hv:∃a n c,v= .slice a n c:=by
                    cases hx with
                    | c hx=>cases hx with
                      |val v=>cases v<;>first|exact⟨_,_,_,rfl⟩|cases hlen
                      |e0 a=>exact⟨_,_,_,rfl⟩
                      |rd0=>exact⟨_,_,_,rfl⟩
                      |rd=>exact⟨_,_,_,rfl⟩
                      |ls=>cases hlen
                      |lsn=>cases hlen
                    |sl=>exact⟨_,_,_,rfl⟩
                    |_=>cases hlen
                  obtain⟨a,n,c,rfl⟩:=hv
                  refine⟨.slice a 0 0,?_,rfl,.c (.e0 a)⟩
                  cases a<;>simp [Instr.sliceAt,Instr.slice,run_underlying hu,Instr.sliceBounds,Instr.sliceBound,asIntOf,sizeOf,typeInfo,hie]
          · cases atL:hi<;>rw [atL]at he<;>cases he
    | string=>
      simp only at he
      cases x with
      | c x =>
        cases x with
        | val u =>
          cases hx with
          | c hx=>
            cases hx
            rcases hmx with⟨rfl,rfl⟩|⟨km,mm,rfl,rfl⟩
            · cases v with
              | string s=>
                simp only at he
                cases he
                have key:∀(a' b':Int),((lov=none/\a'=0)∨∃k,lov=some (.int k a'))->((hiv=none/\b'=s.size)∨∃k,hiv=some (.int k b'))->0<=a'/\a'<=b'/\b'<=s.size→
                    (Instr.sliceAt t (.string s) lov hiv none).run P w= .ok (.string (s.extract a'.toNat b'.toNat)) w:=by
                  rintro a' b' ha hb ⟨q1,q2,q3⟩
                  have q4:0<=b':=by omega
                  have q5:a'<=(b'.toNat:Int):=by omega
                  have q6:a'<=(s.size:Int):=by omega
                  have q7:¬max b' 0<a':=by omega
                  rcases ha with⟨rfl,rfl⟩|⟨k,rfl⟩<;>rcases hb with⟨rfl,rfl⟩|⟨k',rfl⟩<;>
                    simp [Instr.sliceAt,Instr.slice,run_underlying hu,Instr.sliceBounds,Instr.sliceBound,asIntOf,q1,q2,q3,q4,q5,q6]<;>(first|done|(intro hh;exact absurd hh q7))
                rcases hlo with⟨rfl,rfl⟩|⟨k1,x1,rfl,rfl⟩<;>rcases hhi with⟨rfl,rfl⟩|⟨k2,x2,rfl,rfl⟩
                · exact⟨_,key 0 s.size (.inl ⟨rfl,rfl⟩) (.inl ⟨rfl,rfl⟩) (of_decide_eq_true (hc _ (by simp))),rfl,.c (.val _)⟩
                · exact⟨_,key 0 x2 (.inl ⟨rfl,rfl⟩) (.inr ⟨k2,rfl⟩) (of_decide_eq_true (hc _ (by simp))),rfl,.c (.val _)⟩
                · exact⟨_,key x1 s.size (.inr ⟨k1,rfl⟩) (.inl ⟨rfl,rfl⟩) (of_decide_eq_true (hc _ (by simp))),rfl,.c (.val _)⟩
                · exact⟨_,key x1 x2 (.inr ⟨k1,rfl⟩) (.inr ⟨k2,rfl⟩) (of_decide_eq_true (hc _ (by simp))),rfl,.c (.val _)⟩
              |_=>cases he
            · cases v<;>cases he
        |_=>cases he
      |_=>cases he
    |_=>cases he
theorem afC [Fuel] {t:TypeId} {x:SC} {v:Value} {lo hi mx:Option Int} {lov hiv mxv:Option Value} {eff:Eff} (H:bI X w m h) (hx:lU w m (MX X m h) x v)
    (hlo:(lo=none/\lov=none)∨∃k n,lo=some n/\lov=some (.int k n)) (hhi:(hi=none/\hiv=none)∨∃k n,hi=some n/\hiv=some (.int k n)) (hmx:(mx=none/\mxv=none)∨∃k n,mx=some n/\mxv=some (.int k n))
    (he:ab3 P t (mX h) x lo hi mx=some eff) (hc:∀q∈eff.bs,q=true):
    ∃u,(Instr.sliceAt t v lov hiv mxv).run P w= .ok u w/\eff.ws= []/\nZ w m (MX X m h) eff.r u:=
  adK H (lU.vw H (λ_ _=>rfl) hx) hlo hhi hmx he hc
end
end Go.AM
namespace Go.AM
open Go Go.CP Go.RowKit
section
variable {P:Program} {X:Mu} {w:World} {m:vW} {h:List bF} {M:Mu}
theorem ah5 [Fuel] {op:BinOp} {t:TypeId} {k:IntKind} {a b:Int} {v:Value} {cs:List Bool} (he:ajx op k a b=some (v,cs)) (hc:∀q∈cs,q=true):
  (binOp op t (.int k a) (.int k b)).run P w= .ok v w:=by
 cases op<;>simp only [ajx,Option.some.injEq,Prod.mk.injEq]at he
 all_goals first|(cases he;done)|skip
 all_goals
  obtain⟨rfl,rfl⟩:=he
  first
   |(simp [binOp,Op.intArith];done)
   |(simp [binOp,Op.intCmp];done)
   |(simp [binOp,Op.intBits];done)
   |(have hb:b≠0:=of_decide_eq_true (hc _ (by simp));simp [binOp,Op.intDiv,hb];done)
theorem Xm [Fuel] {op:BinOp} {t:TypeId} {k k':IntKind} {a b:Int} {v:Value} {cs:List Bool} (he:Yv op k a b=some (v,cs)) (hc:∀q∈cs,q=true):
  (binOp op t (.int k a) (.int k' b)).run P w= .ok v w:=by
 cases op<;>simp only [Yv,Option.some.injEq,Prod.mk.injEq]at he
 all_goals first|(cases he;done)|skip
 all_goals
  obtain⟨rfl,rfl⟩:=he
  have hb:0<=b:=of_decide_eq_true (hc _ (by simp))
  have hb':¬b<0:=by omega
  simp [binOp,Op.shift,hb']
theorem ah6 [Fuel] {op:BinOp} {t:TypeId} {a b:ByteArray} {v:Value} {cs:List Bool} (he:ajy op a b=some (v,cs)) (hc:∀q∈cs,q=true):
  (binOp op t (.string a) (.string b)).run P w= .ok v w:=by
 cases op<;>simp only [ajy,Option.some.injEq,Prod.mk.injEq]at he
 all_goals first|(cases he;done)|skip
 all_goals
  obtain⟨rfl,rfl⟩:=he
  first
   |(simp [binOp,Op.stringOp];done)
   |(have hb:a.size+b.size<=9223372036854775807:=of_decide_eq_true (hc _ (by simp));have hb':¬(9223372036854775807<(a.size:Int)+(b.size:Int)):=(by omega);simp [binOp,Op.stringOp,IntKind.max,IntKind.signed,IntKind.bits,hb'];done)
theorem O3 [Fuel] (w:World) (d:Nat) {T e:TypeId} (a:Option Addr) (n c:Nat) (hT:P.underlying T=some (.slice e)):
  (Op.equalIn (d+1) T (.slice a n c) (.slice none 0 0)).run P w= .ok a.isNone w:=by
 have hu:=run_underlying (P:=P) (w:=w) hT
 cases a with
 |none=>simp [Op.equalIn,hu]
 |some a=>simp [Op.equalIn,hu]
theorem YS [Fuel] {w:World} {T e:TypeId} {xo yo:Operand} {a:Option Addr} {n c:Nat} (hT:P.underlying T=some (.slice e)):
  (do eqGuard .eql T xo yo (.slice a n c) (.slice none 0 0);binOp .eql T (.slice a n c) (.slice none 0 0):Sem Value).run P w= .ok (.bool a.isNone) w:=by
 have hq:=O3 (P:=P) w 9999 a n c hT
 have hg:(eqGuard .eql T xo yo (.slice a n c) (.slice none 0 0)).run P w= .ok () w:=by simp [eqGuard]
 rw [Sem.run_bind,hg]
 simp [binOp,Op.equal,Op.maxDepth,hq]
theorem YT [Fuel] {w:World} {T e:TypeId} {xo yo:Operand} {a:Option Addr} {n c:Nat} (hT:P.underlying T=some (.slice e)):
  (do eqGuard .neq T xo yo (.slice a n c) (.slice none 0 0);binOp .neq T (.slice a n c) (.slice none 0 0):Sem Value).run P w= .ok (.bool (!a.isNone)) w:=by
 have hq:=O3 (P:=P) w 9999 a n c hT
 have hg:(eqGuard .neq T xo yo (.slice a n c) (.slice none 0 0)).run P w= .ok () w:=by simp [eqGuard]
 rw [Sem.run_bind,hg]
 simp [binOp,Op.equal,Op.maxDepth,hq]
theorem ah7 [Fuel] {op:BinOp} {t:TypeId} {xo yo:Operand} {a b v:Value} {cs:List Bool} (he:agE P op t a b=some (v,cs)) (hc:∀q∈cs,q=true):
  (do eqGuard op t xo yo a b;binOp op t a b:Sem Value).run P w= .ok v w:=by
 have hg:∀(a b:Value),(∀cs ds,¬(a= .agg cs/\b= .agg ds))->(¬(a= .nilIface/\b= .nilIface))->(eqGuard op t xo yo a b).run P w= .ok () w:=by
  intro a b h1 h2
  unfold eqGuard
  cases op<;>simp
  all_goals
   split
   ·rename_i x y;exact absurd ⟨rfl,rfl⟩ h2
   ·rename_i x y cs ds;exact absurd ⟨rfl,rfl⟩ (h1 _ _)
   ·rfl
 unfold agE at he
 cases a with
 | int k a=>
  cases b with
  | int k' b=>
   simp only at he
   have hgi:=hg (.int k a) (.int k' b) (by rintro _ _ ⟨h,_⟩;cases h) (by rintro⟨h,_⟩;cases h)
   have hrun:(binOp op t (.int k a) (.int k' b)).run P w= .ok v w:=by
    cases op with
    |shl=>exact Xm he hc
    |shr=>exact Xm he hc
    |_=>
     simp only at he
     split at he
     ·rename_i hk;subst hk;exact ah5 he hc
     ·cases he
   simp only [Sem.run_bind,hgi,Result.andThen_ok,hrun]
  |_=>cases he
 | string a=>
  cases b with
  |string b=>
   have hgi:=hg (.string a) (.string b) (by rintro _ _ ⟨h,_⟩;cases h) (by rintro⟨h,_⟩;cases h)
   simp only [Sem.run_bind,hgi,Result.andThen_ok,ah6 he hc]
  |_=>cases he
 | bool a=>
  cases b with
  | bool b=>
   simp only at he
   cases hu:P.underlying t with
   |none=>rw [hu]at he;cases op<;>cases he
   | some d=>
    rw [hu]at he
    cases d with
    | bool=>
     have hgi:=hg (.bool a) (.bool b) (by rintro _ _ ⟨h,_⟩;cases h) (by rintro⟨h,_⟩;cases h)
     cases op
     all_goals first|(cases he;done)|skip
     ·simp only [Option.some.injEq,Prod.mk.injEq]at he
      obtain⟨rfl,rfl⟩:=he
      simp only [Sem.run_bind,hgi,Result.andThen_ok]
      simp [binOp,Op.equal,Op.maxDepth,run_equalIn_bool' w 9999 t a b hu]
     ·simp only [Option.some.injEq,Prod.mk.injEq]at he
      obtain⟨rfl,rfl⟩:=he
      simp only [Sem.run_bind,hgi,Result.andThen_ok]
      simp [binOp,Op.equal,Op.maxDepth,run_equalIn_bool' w 9999 t a b hu]
    |_=>cases op<;>cases he
  |_=>cases he
 | slice a n c=>
  cases a with
  |some a=>cases b<;>cases he
  |none=>
  cases n with
  |succ n=>cases b<;>cases he
  |zero=>
  cases c with
  |succ c=>cases b<;>cases he
  |zero=>
  cases b with
  | slice a' n' c'=>
   cases a' with
   |some a'=>cases he
   |none=>
   cases n' with
   |succ n'=>cases he
   |zero=>
   cases c' with
   |succ c'=>cases he
   |zero=>
   simp only at he
   cases hu:P.underlying t with
   |none=>rw [hu]at he;cases op<;>cases he
   | some d=>
    rw [hu]at he
    cases d with
    | slice e=>
     cases op
     all_goals first|(cases he;done)|skip
     ·simp only [Option.some.injEq,Prod.mk.injEq]at he
      obtain⟨rfl,rfl⟩:=he
      exact YS hu
     ·simp only [Option.some.injEq,Prod.mk.injEq]at he
      obtain⟨rfl,rfl⟩:=he
      exact YT hu
    |_=>cases op<;>cases he
  |_=>cases he
 |_=>cases he
theorem ajJ [Fuel] {d:Nat} {t:TypeId} {x y:Value} {b:Bool} (he:ajz P t x y=some b):(Op.equalIn (d+1) t x y).run P w= .ok b w:=by
 unfold ajz at he
 cases hu:P.underlying t with
 |none=>rw [hu]at he;cases x<;>cases y<;>cases he
 | some dd=>
  rw [hu]at he
  cases dd<;>cases x<;>cases y
  all_goals first|(cases he;done)|skip
  ·simp only [Option.some.injEq]at he;subst he;exact run_equalIn_bool' w d t _ _ hu
  ·simp only at he
   split at he
   ·rename_i hk;subst hk;cases he
    exact run_equalIn_int w d t _ _ _ _ hu
   ·cases he
  ·simp only [Option.some.injEq]at he;subst he;exact run_equalIn_string w d t _ _ hu
theorem adL [Fuel] {xs:List SC} {vs:Array Value} {i:Nat} {v:Value} (hL:UF w m M xs vs) (hc:cellV xs i=some v):vs[i]? =some v:=by
 unfold cellV at hc
 cases hx:xs[i]? with
 |none=>rw [hx]at hc;cases hc
 | some x=>
  rw [hx]at hc
  have hi:i<vs.size:=by rw [hL.1];exact aR hx
  have hs:=hL.2 i x hx
  cases x with
  | c x=>
   cases x with
   |val u=>
    simp only [Option.some.injEq]at hc;subst hc
    cases hs with
    |c hs=>cases hs;simp [Array.getD,hi]
   |_=>cases hc
  |_=>cases hc
theorem YU [Fuel] {xs ys:List SC}:∀(l r:List (Nat×TypeId)),afe P xs ys (l++r)=match afe P xs ys l,afe P xs ys r with
  |some a,some b=>some (a&&b)
  |_,_=>none
 | [],r=>by
  simp only [List.nil_append,afe]
  cases afe P xs ys r<;>simp
 | (off,t)::l,r=>by
  simp only [List.cons_append,afe,YU l r]
  cases cellV xs off with
  |none=>rfl
  | some x=>
   cases cellV ys off with
   |none=>rfl
   | some y=>
    simp only
    cases ajz P t x y with
    |none=>rfl
    | some a=>
     cases afe P xs ys l with
     |none=>rfl
     |some b=>cases afe P xs ys r with
      |none=>rfl
      |some c=>simp [Bool.and_assoc]
theorem extract_extract [Fuel] (xs:Array Value) (off n o s:Nat) (h1:o+s<=n):(xs.extract off (off+n)).extract o (o+s)=xs.extract (off+o) (off+o+s):=by
 rw [Array.extract_extract]
 congr 1
 omega
theorem abe [Fuel] {t:TypeId} {i:TypeInfo} (hi:P.info? t=some i) (xs:Array Value) (off n o:Nat) (h1:o+i.size<=n) (h0:0<i.size):
  (part t (xs.extract off (off+n)) o).run P w=(part t xs (off+o)).run P w:=by
 cases hu:P.underlying t with
 |none=>simp [part,isAgg,underlying,hu,Sem.run_bind]
 | some d=>
  have hcell:(xs.extract off (off+n))[o]? =xs[off+o]? :=by
   rw [Array.getElem?_extract]
   by_cases hx:off+o<xs.size
   ·rw [if_pos (by omega)]
   ·rw [if_neg (by omega),Array.getElem?_eq_none (by omega)]
  by_cases hag:Mw P t=true
  ·have hagg:(isAgg t).run P w= .ok true w:=by
    unfold Mw at hag;rw [hu]at hag
    unfold isAgg;simp only [Sem.run_bind,run_underlying hu,Result.andThen_ok]
    cases d<;>simp_all
   simp only [part,Sem.run_bind,hagg,Result.andThen_ok,if_true,oF hi,Sem.run_pure,extract_extract xs off n o i.size h1]
  ·have hagg:(isAgg t).run P w= .ok false w:=by
    unfold Mw at hag;rw [hu]at hag
    unfold isAgg;simp only [Sem.run_bind,run_underlying hu,Result.andThen_ok]
    cases d<;>simp_all
   simp only [part,Sem.run_bind,hagg,Result.andThen_ok,Bool.false_eq_true,if_false,hcell]
theorem ah8 [Fuel]:∀(d:Nat) (t:TypeId) (it:TypeInfo) (off:Nat) (ls:List (Nat×TypeId)) (e:Nat) (xs ys:Array Value) (b:Bool) (cx cy:List SC),
  P.info? t=some it->leaves P d t off=some ls->UF w m M cx xs->UF w m M cy ys->afe P cx cy ls=some b→
  ∃vx vy:Value,(part t xs off).run P w= .ok vx w/\(part t ys off).run P w= .ok vy w/\(Op.equalIn (e+d) t vx vy).run P w= .ok b w:=by
 intro d
 induction d with
 |zero=>intro t it off ls e xs ys b cx cy _ hl;cases hl
 | succ d ih =>
  intro t it off ls e xs ys b cx cy hti hl hX hY hb
  simp only [leaves]at hl
  cases hu:P.underlying t with
  |none=>rw [hu]at hl;cases hl
  | some dd =>
   rw [hu]at hl
   have scalar:∀(hsc:∀fs,dd≠.struct fs) (hsa:∀n e,dd≠.array n e),some [(off,t)]=some ls→∃vx vy:Value,(part t xs off).run P w= .ok vx w/\(part t ys off).run P w= .ok vy w/\(Op.equalIn (e+(d+1)) t vx vy).run P w= .ok b w:=by
    intro hsc hsa hls
    cases hls
    simp only [afe]at hb
    cases hcx:cellV cx off with
    |none=>rw [hcx]at hb;cases hb
    | some x=>
     cases hcy:cellV cy off with
     |none=>rw [hcx,hcy]at hb;cases hb
     | some y=>
      rw [hcx,hcy]at hb
      simp only at hb
      cases hev:ajz P t x y with
      |none=>rw [hev]at hb;cases hb
      | some b'=>
       rw [hev]at hb
       simp only [Option.some.injEq,Bool.and_true]at hb
       subst hb
       have hagg:(isAgg t).run P w= .ok false w:=by
        unfold isAgg;simp only [Sem.run_bind,run_underlying hu,Result.andThen_ok]
        cases dd<;>first|rfl|exact absurd rfl (hsc _)|exact absurd rfl (hsa _ _)
       refine⟨x,y,?_,?_,ajJ hev⟩
       ·simp only [part,Sem.run_bind,hagg,Result.andThen_ok,Bool.false_eq_true,if_false,adL hX hcx,Sem.run_pure]
       ·simp only [part,Sem.run_bind,hagg,Result.andThen_ok,Bool.false_eq_true,if_false,adL hY hcy,Sem.run_pure]
   cases dd with
   | struct fs=>
    simp only at hl
    cases hst:P.stoodInHeld t with
    |true=>rw [hst]at hl;cases hl
    | false =>
     rw [hst]at hl
     simp only [cond_false]at hl
     have hagg:(isAgg t).run P w= .ok true w:=by
      unfold isAgg;simp only [Sem.run_bind,run_underlying hu,Result.andThen_ok];rfl
     have hcells:P.cellsOf t=it.size:=by simp [Program.cellsOf,hti]
     rw [hcells]at hl
     refine⟨.agg (xs.extract off (off+it.size)),.agg (ys.extract off (off+it.size)),?_,?_,?_⟩
     ·simp only [part,Sem.run_bind,hagg,Result.andThen_ok,if_true,oF hti,Sem.run_pure]
     ·simp only [part,Sem.run_bind,hagg,Result.andThen_ok,if_true,oF hti,Sem.run_pure]
     ·have hfs:P.fieldsOf t=fs:=by simp [Program.fieldsOf,hu]
      have hd:e+(d+1)=(e+d)+1:=by omega
      rw [hd,run_equalIn_struct w (e+d) t _ _ (by rw [hfs];exact hu) hst,hfs]
      clear hfs hu scalar
      generalize fs.toList=fl at hl
      induction fl generalizing ls b with
      |nil=>
       simp only [List.foldr_nil,Option.some.injEq]at hl;subst hl
       simp only [afe,Option.some.injEq]at hb;subst hb
       simp [Op.eqFields]
      | cons f fl ihf=>
       simp only [List.foldr_cons]at hl
       cases hlf:leaves P d f.type (off+f.offset)with
       |none=>rw [hlf]at hl;cases hl
       | some lf=>
        rw [hlf]at hl
        generalize hacc:fl.foldr _ (some [])=acc at hl
        cases acc with
        |none=>cases hl
        | some r=>
         simp only at hl
         cases hnm:(f.name== "_")with
         |true=>rw [hnm]at hl;cases hl
         | false=>
          rw [hnm]at hl
          simp only [cond_false]at hl
          cases hwi:within P it.size f.offset f.type with
          |false=>rw [hwi]at hl;cases hl
          | true=>
           rw [hwi]at hl
           simp only [cond_true,Option.some.injEq]at hl
           subst hl
           unfold within at hwi
           cases hif:P.info? f.type with
           |none=>rw [hif]at hwi;cases hwi
           | some ifo=>
            rw [hif]at hwi
            simp only [Bool.and_eq_true]at hwi
            have hw1:=Nat.le_of_ble_eq_true hwi.1
            have hw2:0<ifo.size:=by have:=hwi.2;simp only [Nat.blt]at this;exact Nat.le_of_ble_eq_true this
            rw [YU]at hb
            cases hb1:afe P cx cy lf with
            |none=>rw [hb1]at hb;cases hb
            | some b1=>
             cases hb2:afe P cx cy r with
             |none=>rw [hb1,hb2]at hb;cases hb
             |some b2=>
              rw [hb1,hb2]at hb
              simp only [Option.some.injEq]at hb
              obtain⟨vx,vy,q1,q2,q3⟩:=ih f.type ifo (off+f.offset) lf e xs ys b1 cx cy hif hlf hX hY hb1
              have hrest:=ihf r b2 hb2 hacc
              have hne:f.name≠ "_" :=by intro hh;rw [hh]at hnm;simp at hnm
              simp only [Op.eqFields,if_pos hne,Sem.run_bind,abe hif xs off it.size f.offset hw1 hw2,abe hif ys off it.size f.offset hw1 hw2,q1,q2,q3,Result.andThen_ok,Sem.run_ite,Sem.run_pure,hrest]
              subst hb
              cases b1<;>cases b2<;>simp
   |array n e=>cases hl
   |_=>exact scalar (λ_ h=>by cases h) (λ_ _ h=>by cases h) hl
end
end Go.AM
namespace Go.AM
open Go Go.CP Go.RowKit
section
variable {P:Program} {X:Mu} {w:World} {m:vW} {h:List bF} {M:Mu}
theorem ajK [Fuel] {op:BinOp} {t:TypeId} {xo yo:Operand} {x y:SV} {a b:Value} {eff:Eff} (hx:nZ w m M x a) (hy:nZ w m M y b) (he:anV P op t x y=some eff) (hc:∀q∈eff.bs,q=true):
  ∃v,(do eqGuard op t xo yo a b;binOp op t a b:Sem Value).run P w= .ok v w/\eff.ws= []/\nZ w m M eff.r v:=by
 unfold anV at he
 split at he
 ·rename_i a' b'
  cases hx with
  | c hx=>cases hx;cases hy with
   | c hy=>
    cases hy
    cases hv:agE P op t a b with
    |none=>rw [hv]at he;cases he
    |some q=>
     obtain⟨v,cs⟩:=q
     rw [hv]at he
     cases he
     exact⟨v,ah7 hv hc,rfl,.c (.val v)⟩
 ·rename_i t' x' xs'
  cases hx with
  | c hx=>cases hy with
   | c hy=>
    cases hy
    obtain⟨ad,n,c,rfl,hsome⟩:∃ad n c,a= .slice ad n c/\ad.isNone=false:=by
     cases hx with
     |ls _ _ _ h=>
      generalize hn:(x'::xs').length=n at h
      generalize fE t' (x'::xs')=f at h
      cases h with
      |rd0 _ _ ad cap=>simp at hn
      |rd _ _ _ b off cap=>exact⟨_,_,cap,rfl,rfl⟩
    cases hu:P.underlying t with
    |none=>rw [hu]at he;cases op<;>cases he
    | some d=>
     rw [hu]at he
     cases d with
     | slice e=>
      cases op
      all_goals first|(cases he;done)|skip
      ·cases he
       exact⟨_,YS hu,rfl,by rw [hsome];exact .c (.val _)⟩
      ·cases he
       exact⟨_,YT hu,rfl,by rw [hsome];exact .c (.val _)⟩
     |_=>cases op<;>cases he
 ·rename_i xs ys
  obtain⟨vx,rfl,hX⟩:=hx
  obtain⟨vy,rfl,hY⟩:=hy
  cases hb:(P.eqGuardType P.depth t|| !(Mw P t&&(P.info? t).isSome&&Nat.beq xs.length (P.cellsOf t)&&Nat.beq ys.length (P.cellsOf t)))with
  |true=>rw [hb]at he;cases he
  | false=>
   rw [hb]at he
   simp only [cond_false]at he
   simp only [Bool.or_eq_false_iff,Bool.not_eq_false',Bool.and_eq_true]at hb
   obtain⟨hgt,⟨⟨hag,his⟩,hlx⟩,hly⟩:=hb
   have hlx:=Nat.eq_of_beq_eq_true hlx
   have hly:=Nat.eq_of_beq_eq_true hly
   cases hti:P.info? t with
   |none=>rw [hti]at his;cases his
   | some it=>
    have hcells:P.cellsOf t=it.size:=by simp [Program.cellsOf,hti]
    cases hl:leaves P 100 t 0 with
    |none=>rw [hl]at he;cases he
    | some ls=>
     rw [hl]at he
     simp only at he
     cases hq:afe P xs ys ls with
     |none=>rw [hq]at he;cases op<;>cases he
     | some bb=>
      rw [hq]at he
      obtain⟨ux,uy,q1,q2,q3⟩:=ah8 (w:=w) 100 t it 0 ls 9900 vx vy bb xs ys hti hl hX hY hq
      have hagg:(isAgg t).run P w= .ok true w:=by
       unfold Mw at hag
       cases hu:P.underlying t with
       |none=>rw [hu]at hag;cases hag
       |some d=>
        rw [hu]at hag
        unfold isAgg;simp only [Sem.run_bind,run_underlying hu,Result.andThen_ok]
        cases d<;>simp_all
      have ex:ux= .agg vx:=by
       simp only [part,Sem.run_bind,hagg,Result.andThen_ok,if_true,oF hti,Sem.run_pure]at q1
       have:=(Result.ok.inj q1).1
       rw [<-this]
       congr 1
       have hs:vx.size=it.size:=by rw [hX.1,hlx,hcells]
       rw [Nat.zero_add,<-hs,Array.extract_size]
      have ey:uy= .agg vy:=by
       simp only [part,Sem.run_bind,hagg,Result.andThen_ok,if_true,oF hti,Sem.run_pure]at q2
       have:=(Result.ok.inj q2).1
       rw [<-this]
       congr 1
       have hs:vy.size=it.size:=by rw [hY.1,hly,hcells]
       rw [Nat.zero_add,<-hs,Array.extract_size]
      subst ex;subst ey
      have q3':(Op.equalIn 10000 t (.agg vx) (.agg vy)).run P w= .ok bb w:=q3
      have hg:=run_eqGuard_agg (P:=P) w op t xo yo vx vy hgt
      cases op
      all_goals first|(cases he;done)|skip
      ·simp only [Option.some.injEq]at he;subst he
       refine⟨.bool bb,?_,rfl,.c (.val _)⟩
       simp only [Sem.run_bind,hg,Result.andThen_ok,run_eql_struct,q3']
      ·simp only [Option.some.injEq]at he;subst he
       refine⟨.bool (!bb),?_,rfl,.c (.val _)⟩
       simp only [Sem.run_bind,hg,Result.andThen_ok,run_neq_struct,q3']
 ·cases he
theorem ajL [Fuel] {x:SC} {v:Value} {n:Nat} (hx:lU w m M x v) (hl:lenOf x=some n):∃a c,v= .slice a n c:=by
 unfold lenOf at hl
 cases hx with
 | c hx=>
  cases hx with
  |val v=>
   cases v<;>first|(cases hl;done)|skip
   simp only [Option.some.injEq]at hl;subst hl;exact⟨_,_,rfl⟩
  |e0 a=>simp only [Option.some.injEq]at hl;subst hl;exact⟨_,_,rfl⟩
  |rd0=>simp only [Option.some.injEq]at hl;subst hl;exact⟨_,_,rfl⟩
  |rd=>simp only [Option.some.injEq]at hl;subst hl;exact⟨_,_,rfl⟩
  |ls=>cases hl
  |lsn=>cases hl
 |sl=>simp only [Option.some.injEq]at hl;subst hl;exact⟨_,_,rfl⟩
 |_=>cases hl
theorem ah9 [Fuel] {x:SV} {v:Value} {n:Nat} (hx:nZ w m M x v) (hl:agG x=some n):∃s,v= .string s/\n=s.size:=by
 unfold agG at hl
 split at hl
 ·cases hl
  cases hx with
  |c hx=>cases hx;exact⟨_,rfl,rfl⟩
 ·cases hl
theorem ajM [Fuel] {X:Mu} {h:List bF} (H:bI X w m h) {t ty:TypeId} {ts:List TypeId} {x:SV} {v:Value} {eff:Eff} (hx:nZ w m (MX X m h) x v) (he:alZ P (mX h) t x=some eff):
  ∃u,(Builtin.len_ (t::ts).toArray ty #[v]).run P w= .ok u w/\eff.ws= []/\nZ w m (MX X m h) eff.r u:=by
 unfold alZ at he
 cases hu:P.underlying t with
 |none=>rw [hu]at he;cases he
 | some d=>
  rw [hu]at he
  cases d with
  | string=>
   simp only at he
   cases hs:agG x with
   |none=>rw [hs]at he;cases he
   |some n=>
    rw [hs]at he;cases he
    obtain⟨s,rfl,rfl⟩:=ah9 hx hs
    refine⟨_,?_,rfl,.c (.val _)⟩
    simp [Builtin.len_,run_underlying hu,goInt]
  | slice e=>
   simp only at he
   cases x with
   |tup vs=>cases he
   | one a=>
    cases a with
    |agg cs=>cases he
    | s y=>
     simp only at he
     cases hl:lenOf (vw (mX h) y)with
     |none=>rw [hl]at he;cases he
     |some n=>
      rw [hl]at he
      cases he
      obtain⟨a,c,rfl⟩:=ajL (lU.vw H (λ_ _=>rfl) hx) hl
      refine⟨_,?_,rfl,.c (.val _)⟩
      simp [Builtin.len_,run_underlying hu,goInt]
  |array n e=>
   cases he
   refine⟨_,?_,rfl,.c (.val _)⟩
   simp [Builtin.len_,run_underlying hu,goInt]
  |_=>cases he
theorem agM [Fuel]:∀(r:List Value) (acc:Value) (v:Value),r.foldl (λacc v=>match acc,v with
  |some (.int k x),.int _ y=>some (.int k (if y<x then y else x))
  |_,_=>none) (some acc)=some v->(r.foldlM Builtin.min2 acc:Sem Value).run P w= .ok v w
 | [],acc,v,hv=>by simp at hv;subst hv;simp
 | u::r,acc,v,hv=>by
  rw [List.foldl_cons]at hv
  have hnone:∀r:List Value,r.foldl (λacc v=>match acc,v with
    |some (.int k x),.int _ y=>some (.int k (if y<x then y else x))
    |_,_=>none) (none:Option Value)=none:=by
   intro r;induction r with
   |nil=>rfl
   |cons a r ih=>rw [List.foldl_cons];exact ih
  cases acc<;>try (simp only [hnone]at hv;cases hv;done)
  cases u<;>try (simp only [hnone]at hv;cases hv;done)
  simp only at hv
  have ih:=agM r _ v hv
  simp only [List.foldlM_cons,Sem.run_bind,Builtin.min2,Sem.run_pure,Result.andThen_ok]
  exact ih
theorem agN [Fuel]:∀(r:List Value) (acc:Value) (v:Value),r.foldl (λacc v=>match acc,v with
  |some (.int k x),.int _ y=>some (.int k (if x<y then y else x))
  |_,_=>none) (some acc)=some v->(r.foldlM Builtin.max2 acc:Sem Value).run P w= .ok v w
 | [],acc,v,hv=>by simp at hv;subst hv;simp
 | u::r,acc,v,hv=>by
  rw [List.foldl_cons]at hv
  have hnone:∀r:List Value,r.foldl (λacc v=>match acc,v with
    |some (.int k x),.int _ y=>some (.int k (if x<y then y else x))
    |_,_=>none) (none:Option Value)=none:=by
   intro r;induction r with
   |nil=>rfl
   |cons a r ih=>rw [List.foldl_cons];exact ih
  cases acc<;>try (simp only [hnone]at hv;cases hv;done)
  cases u<;>try (simp only [hnone]at hv;cases hv;done)
  simp only at hv
  have ih:=agN r _ v hv
  simp only [List.foldlM_cons,Sem.run_bind,Builtin.max2,Sem.run_pure,Result.andThen_ok]
  exact ih
theorem anW [Fuel] {vs:List Value} {v:Value} (hv:aqU vs=some v) (ts:Array TypeId) (ty:TypeId):(Builtin.min_ ts ty vs.toArray).run P w= .ok v w:=by
 cases vs with
 |nil=>cases hv
 |cons x r=>
  cases x<;>try (cases hv;done)
  simp only [aqU]at hv
  simp only [Builtin.min_]
  exact agM r _ v hv
theorem anX [Fuel] {vs:List Value} {v:Value} (hv:aqV vs=some v) (ts:Array TypeId) (ty:TypeId):(Builtin.max_ ts ty vs.toArray).run P w= .ok v w:=by
 cases vs with
 |nil=>cases hv
 |cons x r=>
  cases x<;>try (cases hv;done)
  simp only [aqV]at hv
  simp only [Builtin.max_]
  exact agN r _ v hv
theorem TW [Fuel] {ρ:Operand->Option SV} {ev:Operand->Value} (hρ:∀x s,ρ x=some s->nZ w m M s (ev x)):∀{xs:List Operand} {vs:List Value},JF ρ xs=some vs->xs.map ev=vs
 | [],vs,hv=>by simp [JF]at hv;subst hv;rfl
 | x::xs,vs,hv=>by
  simp only [JF]at hv
  split at hv
  ·rename_i v l h1 h2
   cases hv
   have:=hρ x _ h1
   cases this with
   |c hc=>cases hc;rw [List.map_cons,TW hρ h2]
  ·cases hv
theorem Nt [Fuel] {ρ:Operand->Option SV} {ev:Operand->Value} (hρ:∀x s,ρ x=some s->nZ w m M s (ev x)):∀{ps:List (Nat×Operand)} {l:List (Nat×AV)},partsOf ρ ps=some l→
  K7 (λ(a:Nat×AV) (b:Nat×Value)=>a.1=b.1/\Fp w m M a.2 b.2) l (ps.map λ(i,x)=>(i,ev x))
 | [],l,hv=>by simp [partsOf]at hv;subst hv;exact .nil
 | (i,x)::ps,l,hv=>by
  simp only [partsOf]at hv
  split at hv
  ·rename_i v l' h1 h2
   cases hv
   exact .cons ⟨rfl,hρ x _ h1⟩ (Nt hρ h2)
  ·cases hv
theorem abf [Fuel] {ρ:Operand->Option SV} {ev:Operand->Value} (hρ:∀x s,ρ x=some s->nZ w m M s (ev x)):∀{xs:List Operand} {ks:List Nat},Xk ρ xs=some ks→
  xs.length=ks.length∧∀(i:Nat) k,ks[i]? =some k→∃l b,m k=some l/\l.blk=some b/\(xs.map ev)[i]? =some (.pointer (some ⟨b,0,none⟩))
 | [],ks,hv=>by simp [Xk]at hv;subst hv;exact⟨rfl,λi k hi=>by simp at hi⟩
 | x::xs,ks,hv=>by
  simp only [Xk]at hv
  split at hv
  ·rename_i k l h1 h2
   cases hv
   obtain⟨q1,q2⟩:=abf hρ h2
   refine⟨by simp [q1],λi k' hi=> ?_⟩
   cases i with
   |zero=>
    simp at hi;subst hi
    have:=hρ x _ h1
    generalize hev:ev x=v at this
    cases this with
    |pb _ _ b l hk hb=>exact⟨l,b,hk,hb,by simp [hev]⟩
   |succ i=>simpa using q2 i k' (by simpa using hi)
  ·cases hv
theorem Wn [Fuel] {ρ:Operand->Option SV} {ev:Operand->Value} (hρ:∀x s,ρ x=some s->nZ w m M s (ev x)) {o:Option Operand} {r:Option Int} (hr:O0 ρ o=some r):
  (r=none/\o.map ev=none)∨∃k n,r=some n/\o.map ev=some (.int k n):=by
 cases o with
 |none=>simp [O0]at hr;subst hr;exact .inl ⟨rfl,rfl⟩
 | some x=>
  simp only [O0]at hr
  split at hr
  ·rename_i k n h1
   cases hr
   have:=hρ x _ h1
   generalize hev:ev x=v at this
   cases this with
   |c hc=>cases hc;exact .inr ⟨k,n,rfl,by simp [hev]⟩
  ·cases hr
end
end Go.AM
namespace Go.AM
open Go Go.CP Go.RowKit
def aia (p:Int×Int):Value×Value:=(.int .i64 p.1,.int .i64 p.2)
def ape (e:MapEntry):Value×Value:=(e.key,e.val)
theorem adM [Fuel] {n u:Int}:∀{es:List (Int×Int)},(∀p∈es,p.1≠n)->alV es n u=es++ [(n,u)]
 | [],_=>rfl
 |(a,b)::r,h=>by
  have h1:a≠n:=h (a,b) (by simp)
  simp only [alV,h1,decide_false,cond_false,List.cons_append]
  rw [adM λp hp=>h p (by simp [hp])]
theorem abg [Fuel] {z n:Int}:∀{es:List (Int×Int)},(∀p∈es,p.1≠n)->afm z es n=z
 | [],_=>rfl
 |(a,b)::r,h=>by
  have h1:a≠n:=h (a,b) (by simp)
  simp only [afm,h1,decide_false,cond_false]
  exact abg λp hp=>h p (by simp [hp])
theorem YV [Fuel] {n:Int}:∀(rows:List MapEntry) (es:List (Int×Int)) (i:Nat),rows.map ape=es.map aia→
  (Instr.findNow (.int .i64) (.int .i64 n) rows i=some none∧∀p∈es,p.1≠n)∨
  ∃j e v,Instr.findNow (.int .i64) (.int .i64 n) rows i=some (some (i+j,.int .i64 v))/\rows[j]? =some e/\e.key= .int .i64 n/\(∀z,afm z es n=v)∧
   ∀u,(rows.modify j λe=>{e with key:= .int .i64 n,val:= .int .i64 u}).map ape=(alV es n u).map aia
 | [],[],i,_=> .inl ⟨rfl,by simp⟩
 | [],_::_,i,h=>by simp at h
 |_::_,[],i,h=>by simp at h
 | e ::rows,(a,b)::es,i,h=>by
  simp only [List.map_cons,List.cons.injEq]at h
  obtain⟨h1,h2⟩:=h
  have hk:e.key= .int .i64 a:=(Prod.mk.inj h1).1
  have hv:e.val= .int .i64 b:=(Prod.mk.inj h1).2
  by_cases ha:a=n
  ·subst ha
   refine .inr ⟨0,e,b,?_,rfl,hk,λz=>by simp [afm],λu=> ?_⟩
   ·simp [Instr.findNow,Instr.sameNow,hk,hv]
   ·simp [List.modify,alV,ape,aia,h2]
  ·rcases YV (n:=n) rows es (i+1) h2 with⟨q1,q2⟩|⟨j,e',v,q1,q2,q3,q4,q5⟩
   ·refine .inl ⟨?_,?_⟩
    ·have:(n==a)=false:=beq_eq_false_iff_ne.2 λh=>ha h.symm
     simp [Instr.findNow,Instr.sameNow,hk,this,q1]
    ·intro p hp
     rcases List.mem_cons.1 hp with rfl|hp
     ·exact ha
     ·exact q2 p hp
   ·refine .inr ⟨j+1,e',v,?_,by simpa using q2,q3,λz=> ?_,λu=> ?_⟩
    ·have:(n==a)=false:=beq_eq_false_iff_ne.2 λh=>ha h.symm
     simp [Instr.findNow,Instr.sameNow,hk,this,q1,Nat.add_assoc,Nat.add_comm 1 j]
    ·simp [afm,ha,q4 z]
    ·have:=q5 u
     simp only [alV,ha,decide_false,cond_false,List.map_cons,List.modify_succ_cons,h1,this]
section
variable {P:Program} {X:Mu} {w:World} {m:vW} {h:List bF}
theorem abh [Fuel] {t:TypeId} {z:Int} (ht:ajC P t=some z):∃k e i,P.underlying t=some (.map k e)/\P.underlying k=some (.int .i64)/\P.info? e=some i/\i.zero=some (.int .i64 z):=by
 unfold ajC at ht
 split at ht
 ·rename_i k e h1
  split at ht
  ·rename_i i h2 h3
   split at ht
   ·rename_i z' h4;cases ht;exact⟨k,e,i,h1,h2,h3,h4⟩
   ·cases ht
  ·cases ht
 ·cases ht
theorem run_makeMap [Fuel] (H:bI X w m h) {id:Nat} (hid:h[id]? =some .dead) (hm:m id=none) (t:TypeId):
  ∃w' m' v,(Instr.makeMap t none).run P w= .ok v w'/\Stp X w m h w' m' (bD h [(id,.mp [])])/\lU w' m' (MX X m' (bD h [(id,.mp [])])) (.mp id) v:=by
 let l:Loc:=⟨some ⟨w.heap.size,0,none⟩,0,0,some w.heap.size,0⟩
 refine⟨w.alloc (.map #[] 0),Qf m id l,.map (some w.heap.size),by simp [Instr.makeMap,Result.andThen],?_,.mp id w.heap.size l (by simp [Qf]) rfl⟩
 refine Stp.make H hid hm none l (.mp []) trivial rfl rfl ⟨rfl,λ_=>Nat.le_refl _⟩ (by simp) (λb hb=> .inl (yX w _ b hb)) (λb hb=> ?_) (λhLt=> ?_)
 ·cases hb;exact .inl (Nat.le_refl _)
 ·exact⟨l,w.heap.size, #[],0,by simp [Qf],rfl,Mx w _,rfl⟩
theorem aib [Fuel] (H:bI X w m h) {t:TypeId} {ok:Bool} {sx si:Option SV} {x i:Value} {eff:Eff} (hx:∀s,sx=some s->nZ w m (MX X m h) s x) (hi:∀s,si=some s->nZ w m (MX X m h) s i)
  (he:adE P (mX h) t sx si ok=some eff):∃v,(Instr.lookup t x i ok).run P w= .ok v w/\eff.ws= []/\nZ w m (MX X m h) eff.r v:=by
 unfold adE at he
 split at he
 ·rename_i z k n ht
  split at he
  ·rename_i es hg
   cases he
   have h1:=hx _ rfl
   have h2:=hi _ rfl
   cases h1 with
   |mp _ b l hk hb=>
   cases h2 with
   |c h2=>
   cases h2
   obtain⟨kt,et,inf,u1,u2,u3,u4⟩:=abh ht
   obtain⟨l',b',rows,clock,e1,e2,e3,e4⟩:=H.obj k _ (l5 hg trivial)
   rw [hk]at e1;cases e1;rw [hb]at e2;cases e2
   have hkey:MapKept.IsKey (.int .i64) (.int .i64 n):=rfl
   have e4':rows.toList.map ape=es.map aia:=e4
   rcases YV (n:=n) rows.toList es 0 e4' with⟨q1,q2⟩|⟨j,e,v,q1,q2,q3,q4,q5⟩
   ·refine⟨.int .i64 z,?_,rfl,?_⟩
    ·simp [Instr.lookup,run_underlying u1,MapKept.run_getObj_map e3,MapKept.run_checkKey u2 hkey,MapKept.run_findKey u2 q1,mZ u3 u4,Result.andThen]
    ·rw [abg q2];exact .c (.val _)
   ·refine⟨.int .i64 v,?_,rfl,?_⟩
    ·simp [Instr.lookup,run_underlying u1,MapKept.run_getObj_map e3,MapKept.run_checkKey u2 hkey,MapKept.run_findKey u2 q1,Result.andThen]
    ·rw [q4 z];exact .c (.val _)
  ·cases he
 ·cases he
theorem ajN [Fuel] (H:bI X w m h) {t:TypeId} {sx si sv:Option SV} {x i v:Value} {eff:Eff} (hx:∀s,sx=some s->nZ w m (MX X m h) s x) (hi:∀s,si=some s->nZ w m (MX X m h) s i)
  (hv:∀s,sv=some s->nZ w m (MX X m h) s v) (he:ajD P (mX h) t sx si sv=some eff):
  ∃w',(Instr.mapUpdate t x i v).run P w= .ok () w'/\eff.r=mkv undef/\Stp X w m h w' m (bD h eff.ws):=by
 unfold ajD at he
 split at he
 ·rename_i z k n u ht
  split at he
  ·rename_i es hg
   cases he
   have h1:=hx _ rfl
   have h2:=hi _ rfl
   have h3:=hv _ rfl
   cases h1 with
   |mp _ b l hk hb=>
   cases h2 with
   |c h2=>
   cases h2
   cases h3 with
   |c h3=>
   cases h3
   obtain⟨kt,et,inf,u1,u2,u3,u4⟩:=abh ht
   have hget:=l5 hg trivial
   obtain⟨l',b',rows,clock,e1,e2,e3,e4⟩:=H.obj k _ hget
   rw [hk]at e1;cases e1;rw [hb]at e2;cases e2
   have hkey:MapKept.IsKey (.int .i64) (.int .i64 n):=rfl
   have e4':rows.toList.map ape=es.map aia:=e4
   have write:∀(rows':Array MapEntry) (c':Nat),rows'.toList.map ape=(alV es n u).map aia→
     Stp X w m h {w with heap:=w.heap.setIfInBounds b (.map rows' c')} m (bD h [(k,.mp (alV es n u))]):=by
    intro rows' c' hr
    refine Stp.write H hget trivial hk hb rfl rfl ⟨rfl,λ_=>Nat.le_refl _⟩ (by simp) (λc _ hc=>(MapKept.heap_set e3).2 c hc) (λhLt=> ?_)
    exact⟨l,b,rows',c',hk,hb,(MapKept.heap_set e3).1,hr⟩
   rcases YV (n:=n) rows.toList es 0 e4' with⟨q1,q2⟩|⟨j,e,v',q1,q2,q3,q4,q5⟩
   ·refine⟨_,?_,rfl,write (rows.push {key:= .int .i64 n,val:= .int .i64 u,born:=clock}) (clock+1) ?_⟩
    ·simp [Instr.mapUpdate,run_underlying u1,MapKept.run_getObj_map e3,MapKept.run_checkKey u2 hkey,MapKept.run_findKey u2 q1,MapKept.run_setObj_map _ e3,Result.andThen]
    ·rw [adM q2,Array.toList_push,List.map_append,List.map_append,e4'];rfl
   ·have hj:rows[j]? =some e:=by simpa using q2
    refine⟨_,?_,rfl,write (rows.modify j λe=>{e with key:= .int .i64 n,val:= .int .i64 u}) clock ?_⟩
    ·simp [Instr.mapUpdate,run_underlying u1,MapKept.run_getObj_map e3,MapKept.run_checkKey u2 hkey,MapKept.run_findKey u2 q1,hj,q3,MapKept.run_keyThatStays hkey,MapKept.run_setObj_map _ e3,Result.andThen]
    ·rw [Array.toList_modify];exact q5 u
  ·cases he
 ·cases he
end
end Go.AM
namespace Go.AM
open Go Go.CP Go.RowKit
section
variable {P:Program} {X:Mu} {w:World} {m:vW} {h:List bF}
theorem afD [Fuel] {t ty:TypeId} {e:TypeId} {ts:List TypeId} (hu:P.underlying t=some (.slice e)):(Builtin.cap_ (t::ts).toArray ty #[.slice none 0 0]).run P w= .ok (.int .i64 0) w:=by
 simp [Builtin.cap_,run_underlying hu,goInt]
theorem ajO [Fuel] {t u e ty:TypeId} {i:TypeInfo} {zv:Value} {q k:IntKind} {n:Int} (hu:P.underlying t=some (.slice e)) (hu':P.underlying u=some (.int q)) (hi:P.info? e=some i) (hz:i.zero=some zv)
  (hb:0<i.bytes) (hp:0<i.size) (hn:0<n/\n*i.bytes<=140737488355328):
  (Builtin.append_ #[t,u] ty #[.slice none 0 0,.int k n]).run P w=
   .ok (.slice (some ⟨w.heap.size,0,none⟩) n.toNat (grownCap w n.toNat 0 e))
    (w.drew.alloc (.cells (Builtin.zeroCells zv.cells n.toNat++Builtin.zeroCells zv.cells (grownCap w n.toNat 0 e - n.toNat)) e)):=by
 obtain⟨N,rfl⟩:∃N:Nat,n=(N:Int):=⟨n.toNat,by omega⟩
 obtain⟨hn1,hn2⟩:=hn
 have hN:(N:Int)<=N*i.bytes:=by
  have:N*1<=N*i.bytes:=Nat.mul_le_mul_left _ hb
  rw [Nat.mul_one]at this
  exact_mod_cast this
 have wl:IntKind.i64.wrap (N:Int)=(N:Int):=IntWalk.i64_in _ (by omega)
 have h9:((N*i.bytes:Nat):Int)<=140737488355328:=by rw [Int.natCast_mul];exact hn2
 have hN2:N*i.bytes<=140737488355328:=by omega
 have c1:¬((N:Int)<0):=by omega
 have c2:¬(281474976710656<(N:Int)*i.bytes):=by omega
 have c3:¬N=0:=by omega
 have c4:¬(9223372036854775807<(N:Int)):=by omega
 have c5:Builtin.nextslicecap N 0=N:=by unfold Builtin.nextslicecap;rw [if_pos (by omega)]
 have c6:¬(281474976710656<N*i.bytes):=by omega
 have c7:¬(N*i.size=0):=by
  have:=Nat.mul_pos (Nat.pos_of_ne_zero c3) hp
  omega
 simp [Builtin.append_,run_underlying hu,run_underlying hu',sizeOf,typeInfo,zeroValue,hi,hz,asInt,asIntOf,wl,c1,c2,c3,c4,c5,c6,c7,Question.forced,Builtin.firstCells,newRow,grownCap]
theorem aic [Fuel] (H:bI X w m h) {id:Nat} (hid:h[id]? =some .dead) (hm:m id=none) {t u ty:TypeId} {q k:IntKind} {n:Int} (hu':P.underlying u=some (.int q)) {eff:Eff}
  (he:agC P t id n=some eff) (hc:∀q∈eff.bs,q=true):
  ∃v w' m',(Builtin.append_ #[t,u] ty #[.slice none 0 0,.int k n]).run P w= .ok v w'/\Stp X w m h w' m' (bD h eff.ws)/\nZ w' m' (MX X m' (bD h eff.ws)) eff.r v:=by
 unfold agC at he
 cases hei:mY P t with
 |none=>rw [hei]at he;cases he
 | some qq=>
  obtain⟨e,i,z⟩:=qq
  rw [hei]at he
  simp only at he
  cases he
  obtain⟨hu,hi,⟨zv,hz,hzc⟩,hzs,hz1,hpos,YN⟩:=pE hei
  have hn:0<n/\n*i.bytes<=140737488355328:=of_decide_eq_true (hc _ (by simp))
  have hrun:=ajO (P:=P) (w:=w) (ty:=ty) (k:=k) hu hu' hi hz YN hpos hn
  have hge:=grownCap_ge w n.toNat 0 e
  generalize grownCap w n.toNat 0 e=nc at hrun hge
  rw [hzc]at hrun
  have hsz:(Builtin.zeroCells z n.toNat++Builtin.zeroCells z (nc - n.toNat)).size=nc*i.size:=by
   simp only [Array.size_append,size_zeroCells,hzs,<-Nat.add_mul];congr 1;omega
  have hz0:0<z.size:=by omega
  have hat:∀j,j<nc*i.size->(Builtin.zeroCells z n.toNat++Builtin.zeroCells z (nc - n.toNat)).getD j undef=z[j%z.size]'(Nat.mod_lt _ hz0):=by
   intro j hj
   have e0:n.toNat*z.size+(nc - n.toNat)*z.size=nc*z.size:=by rw [<-Nat.add_mul];congr 1;omega
   rw [<-hzs]at hj
   rcases Nat.lt_or_ge j (n.toNat*z.size)with h1|h1
   ·have hm:j%z.size<z.size:=Nat.mod_lt _ hz0
    simp [Array.getD,Builtin.zeroCells,Array.getElem_append,h1,hm]
    omega
   ·have hm:(j - n.toNat*z.size)%z.size=j%z.size:=by
     conv=>rhs;rw [show j=(j - n.toNat*z.size)+z.size*n.toNat by rw [Nat.mul_comm z.size];omega]
     rw [Nat.add_mul_mod_self_left]
    have hm1:j%z.size<z.size:=Nat.mod_lt _ hz0
    simp [Array.getD,Builtin.zeroCells,Array.getElem_append,Nat.not_lt.2 h1,hm,hm1]
    omega
  obtain⟨m',hSt,Cz⟩:=Stp.agI H hid hm (w1:=w.drew) rfl rfl rfl ⟨rfl,λ_=>Nat.le_succ _⟩ none (z:=i.size) (n:=n.toNat) (cap:=nc) (f:=λ_=>z.toList.map .val)
   (vs:=Builtin.zeroCells z n.toNat++Builtin.zeroCells z (nc - n.toNat)) e hge hsz
   (λj hj=>by
    rw [hsz]at hj
    rw [hat j hj]
    exact(Array.all_eq_true.1 hz1) _ (Nat.mod_lt _ hz0))
   (λj hj=>by
    refine⟨by simp [hzs],λq x hx=> ?_⟩
    rw [List.getElem?_map]at hx
    cases hzj:z.toList[q]? with
    |none=>rw [hzj]at hx;cases hx
    | some v=>
     rw [hzj]at hx;cases hx
     have hq:q<z.size:=by have:=aR hzj;simpa using this
     have hlt:j*i.size+q<nc*i.size:=by
      have h1:j*i.size+i.size<=nc*i.size:=by rw [<-Nat.succ_mul];exact Nat.mul_le_mul_right _ (by omega)
      omega
     rw [hat _ hlt]
     have hm:(j*i.size+q)%z.size=q:=by rw [<-hzs,Nat.add_comm,Nat.add_mul_mod_self_right,Nat.mod_eq_of_lt hq]
     have:z[(j*i.size+q)%z.size]'(Nat.mod_lt _ hz0)=v:=by simp only [hm];simp [hq]at hzj;exact hzj
     rw [this]
     exact .val v)
  exact⟨_,_,m',hrun,hSt,Cz⟩
end
end Go.AM
