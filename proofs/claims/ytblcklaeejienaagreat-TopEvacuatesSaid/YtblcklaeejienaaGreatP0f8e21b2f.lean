/- How often a loop may go round. Whether draws are counted. -/
import Derived.WalkKit
import Derived.KernelRfl
import Derived.Orders
import Derived.MapKept
import Derived.Laws.BytesString
set_option linter.defProp false
set_option linter.unusedSectionVars false
set_option linter.unusedSimpArgs false
set_option linter.unusedVariables false
namespace Go.CP
open Go
structure aMu where
 n:Nat
 eq:n=18446744073709551616
 dr:Prop
abbrev Fuel:Type:=Inhabited aMu
def fuel [F:Fuel]:Nat:=F.default.n
theorem iK [F:Fuel]:fuel=18446744073709551616:=F.default.eq
theorem aB[Fuel]{p:Prop}(h:p:=by rw[iK];omega):p:=h
def Dr [F:Fuel]:Prop:=F.default.dr
@[reducible] def Gx [F:Fuel]:Fuel:=⟨⟨F.default.n,F.default.eq,True⟩⟩
end Go.CP
namespace Go
theorem ah{p:Prop}(h:p:=by omega):p:=h
theorem aj{p:Prop}(h:p:=by simp):p:=h
theorem ak{p:Prop}(h:p:=by decide):p:=h
theorem au{p:Prop}(h:p:=by kernel_rfl):p:=h
theorem ay{p:Prop}(h:p:=by simp;omega):p:=h
theorem aA{p:Prop}(h:p:=by intro v;kernel_rfl):p:=h
theorem aC{p:Prop}(h:p:=by intro vs w;rfl):p:=h
theorem aD{p q:Prop}(h:p)(i:p->q:=by intro h;simpa using h):q:=i h
theorem aF{α:Type}{a b:α}{o:Option α}(h:o=some a)(k:a=b:=by kernel_rfl):o=some b:=k▸h
def LV:=@Array.all_eq_true
def atp:=@Array.all_eq_true_iff_forall_mem
def acr:=@Array.eq_empty_of_size_eq_zero
def LW:=@Array.ext'
def atq:=@Array.ext_getElem?
def atr:=@Array.extract_size
def Qn:=@Array.getElem?_append_left
def Ji:=@Array.getElem?_eq_getElem
def V7:=@Array.getElem?_eq_none
def ajM:=@Array.getElem?_eq_some_iff
def asM:=@Array.getElem?_extract
def Qc:=@Array.getElem?_modify
def asN:=@Array.getElem?_setIfInBounds_ne
def asO:=@Array.getElem_append
def asP:=@Array.getElem_range
def asQ:=@Array.getElem_toList
def ajN:=@Array.length_toList
def asR:=@Array.mapM_eq_mapM_toList
def ajO:=@Array.size_append
def ajP:=@BitVec.toNat_ofInt
def ab1:=@Bool.and_eq_false_imp
def dD:=@Bool.and_eq_true
def Gs:=@Bool.and_false
def Ba:=@Bool.and_self
def Gt:=@Bool.and_true
def ab2:=@Bool.eq_false_iff
def LK:=@Bool.eq_iff_iff
def nC:=@Bool.false_and
def nD:=@Bool.false_eq_true
def jZ:=@Bool.false_or
def zY:=@Bool.not_eq_false'
def uL:=@Bool.not_eq_true'
def jG:=@Bool.not_false
def gN:=@Bool.not_true
def ng:=@Bool.or_eq_false_iff
def p8:=@Bool.or_eq_true
def pG:=@Bool.or_false
def nU:=@Bool.or_self
def Qd:=@Bool.or_true
def kN:=@Bool.true_and
def Ep:=@Bool.true_or
def ajQ:=@Classical.byContradiction
def asS:=@Classical.choose_spec
def Gu:=@Decidable.em
def ajR:=@Int.ediv_nonneg
def asU:=@Int.fdiv_eq_ediv_of_nonneg
def ab3:=@Int.le_of_lt
def jc:=@Int.le_refl
def wS:=@Int.le_trans
def ab4:=@Int.lt_or_le
def V8:=@Int.not_le
def V9:=@Int.not_lt
def Wd:=@Int.pow_pos
def asV:=@Int.tmod_eq_emod_of_nonneg
def Qe:=@Int.tmod_lt_of_pos
def ab5:=@Int.tmod_nonneg
def gW:=@Int.toNat_natCast
def Cj:=@Int.toNat_of_nonneg
def ajS:=@List.Perm.refl
def wT:=@List.all_cons
def kG:=@List.all_eq_true
def ajT:=@List.any_cons
def VA:=@List.any_eq_true
def ai1:=@List.any_nil
def qU:=@List.append_assoc
def nK:=@List.append_nil
def I9:=@List.cons_append
def Ec:=@List.drop_eq_getElem_cons
def PN:=@List.drop_eq_nil_of_le
def PO:=@List.drop_length
def ai2:=@List.drop_zero
def Ja:=@List.eq_nil_of_length_eq_zero
def Ll:=@List.eq_of_mem_replicate
def abm:=@List.ext_getElem
def Ed:=@List.ext_getElem?
def AO:=@List.filter_append
def PS:=@List.filter_cons
def PU:=@List.filter_eq_nil_iff
def ai3:=@List.filter_eq_self
def ai4:=@List.filter_nil
def PV:=@List.foldl_cons
def arP:=@List.getD_cons_succ
def ai5:=@List.getD_cons_zero
def fC:=@List.getD_eq_getElem?_getD
def pX:=@List.getElem?_append_left
def uw:=@List.getElem?_append_right
def Lm:=@List.getElem?_cons_succ
def abn:=@List.getElem?_cons_zero
def yL:=@List.getElem?_drop
def jN:=@List.getElem?_eq_getElem
def wK:=@List.getElem?_eq_none
def arQ:=@List.getElem?_eq_none_iff
def ai6:=@List.getElem?_eq_some_iff
def mG:=@List.getElem?_map
def arR:=@List.getElem?_of_mem
def Ee:=@List.getElem?_replicate
def yM:=@List.getElem?_set
def sI:=@List.getElem?_set_ne
def uz:=@List.getElem?_set_self
def tu:=@List.getElem?_take
def ai7:=@List.getElem_inj
def yN:=@List.getElem_mem
def zh:=@List.getElem_of_mem
def ai8:=@List.getElem_take
def abo:=@List.isEmpty_cons
def abp:=@List.isEmpty_nil
def pY:=@List.length_append
def zi:=@List.length_cons
def PW:=@List.length_filter_le
def nQ:=@List.length_map
def ai9:=@List.length_mergeSort
def xR:=@List.length_nil
def aja:=@List.length_pos_iff
def VB:=@List.length_replicate
def oQ:=@List.length_set
def qo:=@List.length_singleton
def rM:=@List.length_take
def abq:=@List.mapM_cons
def Lp:=@List.map_append
def ajb:=@List.map_congr_left
def mH:=@List.map_cons
def ajc:=@List.map_mergeSort
def yO:=@List.map_nil
def abr:=@List.map_set
def abt:=@List.map_take
def Jb:=@List.map_toArray
def qp:=@List.mem_append
def wL:=@List.mem_append_left
def VD:=@List.mem_append_right
def BZ:=@List.mem_cons
def nR:=@List.mem_cons_of_mem
def pE:=@List.mem_cons_self
def abu:=@List.mem_filter
def abv:=@List.mem_filterMap
def ajd:=@List.mem_flatMap
def xS:=@List.mem_map
def rO:=@List.mem_of_getElem?
def abw:=@List.mem_of_mem_take
def Gm:=@List.mem_or_eq_of_mem_set
def zT:=@List.mem_range
def qw:=@List.mem_singleton
def Gn:=@List.nil_append
def arS:=@List.nil_eq_append_iff
def Ca:=@List.nodup_append
def abx:=@List.nodup_nil
def l6:=@List.not_mem_nil
def arT:=@List.range'_append_1
def aby:=@List.range_eq_range'
def tC:=@List.set_set
def arU:=@List.singleton_append
def zU:=@List.size_toArray
def VE:=@List.take_add_one
def aje:=@List.take_append_drop
def VF:=@List.take_append_of_le_length
def ajf:=@List.take_left
def tF:=@List.take_length
def VG:=@List.take_of_length_le
def ajg:=@List.take_sublist
def wM:=@Nat.add_assoc
def PX:=@Nat.add_comm
def nS:=@Nat.add_mul
def wN:=@Nat.add_zero
def oU:=@Nat.beq_refl
def VH:=@Nat.ble_eq_true_of_le
def eG:=@Nat.eq_of_beq_eq_true
def abz:=@Nat.le_add_right
def qV:=@Nat.le_of_ble_eq_true
def gI:=@Nat.le_refl
def abA:=@Nat.le_succ
def Cb:=@Nat.le_trans
def xU:=@Nat.lt_of_lt_of_le
def mI:=@Nat.lt_or_ge
def VI:=@Nat.lt_or_gt_of_ne
def ajh:=@Nat.lt_succ_self
def Ef:=@Nat.min_eq_left
def PY:=@Nat.min_eq_right
def aji:=@Nat.min_le_left
def Lr:=@Nat.min_self
def PZ:=@Nat.mod_eq_of_lt
def uD:=@Nat.mod_lt
def abB:=@Nat.mul_add_mod
def Eh:=@Nat.mul_comm
def ajj:=@Nat.mul_le_mul_left
def jU:=@Nat.mul_le_mul_right
def Gp:=@Nat.mul_one
def kF:=@Nat.not_lt_zero
def ajk:=@Nat.or_lt_two_pow
def ajl:=@Nat.pow_le_pow_right
def arV:=@Nat.pow_lt_pow_right
def Ei:=@Nat.sub_zero
def pF:=@Nat.succ_mul
def ajm:=@Nat.two_pow_pos
def nL:=@Nat.zero_add
def zk:=@Nat.zero_le
def abC:=@Nat.zero_mul
def bD:=@Option.bind_some
def Ls:=@Option.getD_some
def VJ:=@Option.isNone_some
def arW:=@Option.isSome_iff_exists
def VK:=@Option.map_some
def rP:=@Option.some.inj
def kZ:=@Option.some.injEq
def zm:=@Prod.mk.injEq
def rQ:=@beq_eq_false_iff_ne
def uE:=@beq_iff_eq
def Lu:=@beq_self_eq_true
def Cc:=@bne_eq_false_iff_eq
def yP:=@bne_iff_ne
def jY:=@bne_self_eq_false
def aZ:=@cond_false
def aY:=@cond_true
def fF:=@decide_eq_false
def xV:=@decide_eq_false_iff_not
def dU:=@decide_eq_true
def oo:=@decide_eq_true_eq
def VL:=@decide_true
def uF:=@false_and
def uG:=@false_or
def AP:=@getElem!_pos
def mJ:=@if_false
def cZ:=@if_neg
def bU:=@if_pos
def l7:=@if_true
def wO:=@of_decide_eq_false
def iZ:=@of_decide_eq_true
def sJ:=@or_false
def uH:=@or_self
def uI:=@or_true
def sK:=@true_and
def uJ:=@true_or
abbrev aG.{u}{α:Sort u} [Inhabited α]:α:=default
section
variable {A B C D E F G H I J K L M N:Type}
abbrev bH(v:A×B×C×D×E):=v.2.2.2.2
abbrev dH(v:A×B×C×D×E×F):=v.2.2.2.2.2
abbrev dR(v:A×B×C×D×E×F×G):=v.2.2.2.2.2.2
abbrev dY(v:A×B×C×D×E×F×G×H):=v.2.2.2.2.2.2.2
abbrev gB(v:A×B×C×D×E×F×G×H×I):=v.2.2.2.2.2.2.2.2
abbrev nH(v:A×B×C×D×E×F×G×H×I×J):=v.2.2.2.2.2.2.2.2.2
abbrev ow(v:A×B×C×D×E×F×G×H×I×J×K):=v.2.2.2.2.2.2.2.2.2.2
abbrev jO(v:A×B×C×D×E×F×G×H×I×J×K×L):=v.2.2.2.2.2.2.2.2.2.2.2
abbrev nV(v:A×B×C×D×E×F×G×H×I×J×K×L×M):=v.2.2.2.2.2.2.2.2.2.2.2.2
abbrev dG(v:A×B×C×D×E×F×G×H×I×J×K×L×M×N):=v.2.2.2.2.2.2.2.2.2.2.2.2.2
end
def QE:Value×Value->Bool
 |(.int .i64 _,.bool _)=>true
 |_=>false
def tQ(es:List (Value×Value)):Bool:=es.all QE
def wV:List (Value×Value)->Int->Bool
 | [],_=>false
 |(.int .i64 a,.bool b)::r,n=>bif decide (a=n)then b else wV r n
 |_::r,n=>wV r n
def vQ:List (Value×Value)->Int->Bool->List (Value×Value)
 | [],n,u=> [(.int .i64 n,.bool u)]
 |(.int .i64 a,.bool b)::r,n,u=>bif decide (a=n)then(.int .i64 n,.bool u)::r else(.int .i64 a,.bool b)::vQ r n u
 |p::r,n,u=>p::vQ r n u
end Go
namespace Go.CP
open Go
def bq{α:Type}(b:Bool)(k:Option α):Option α:=bif b then k else none
def idx{α:Type} [Inhabited α](xs:List α)(i:Int):Option α:=bif decide (0<=i/\i<(xs.length:Int))then some (xs.getD i.toNat aG)else none
def bE{α β:Type} [Inhabited α](xs:List α)(i:Int)(k:α->Option β):Option β:=bq (decide (0<=i/\i<(xs.length:Int))) (k (xs.getD i.toNat aG))
def qH{α β:Type} [Inhabited α](g:Bool)(xs:List α)(i:Int)(k:α->Option β):Option β:=bq (!g||decide (0<=i/\i<(xs.length:Int))) (k (xs.getD i.toNat aG))
def bF{α β:Type}(a:α)(k:α->β):β:=k a
theorem fJ{α β:Type}(b:Bool)(k:Option α)(g:α->Option β):(bq b k).bind g=bq b (k.bind g):=by cases b<;>rfl
theorem fV{α β:Type}(b:Bool)(x y:Option α)(g:α->Option β):(bif b then x else y).bind g=(bif b then x.bind g else y.bind g):=by cases b<;>rfl
theorem gu{γ α β:Type} [Inhabited γ](xs:List γ)(i:Int)(k:γ->Option α)(g:α->Option β):(bE xs i k).bind g=bE xs i λx=>(k x).bind g:=fJ _ _ _
theorem gq{γ α β:Type} [Inhabited γ](b:Bool)(xs:List γ)(i:Int)(k:γ->Option α)(g:α->Option β):(qH b xs i k).bind g=qH b xs i λx=>(k x).bind g:=fJ _ _ _
theorem gy{γ α β:Type}(a:γ)(k:γ->Option α)(g:α->Option β):(bF a k).bind g=bF a λx=>(k x).bind g:=rfl
theorem fT{γ α β:Type}(x:Option γ)(k:γ->Option α)(g:α->Option β):(x.bind k).bind g=x.bind λy=>(k y).bind g:=by cases x<;>rfl
theorem bG{α β:Type}(x:α)(g:α->Option β):(some x).bind g=g x:=rfl
theorem fZ{α β:Type}(g:α->Option β):(none:Option α).bind g=none:=rfl
abbrev aQ(x:Int):Int:=IntKind.i64.wrap x
def iV(k:IntKind)(a b:Int):Int:=k.wrap (a*2^(min b.toNat k.bits))
def iF(k:IntKind)(a b:Int):Int:=a.fdiv (2^(min b.toNat k.bits))
def jd(k:IntKind)(a b:Int):Int:=k.wrap ((BitVec.ofInt k.bits a&&&BitVec.ofInt k.bits b).toNat)
def um(k:IntKind)(a b:Int):Int:=k.wrap ((BitVec.ofInt k.bits a|||BitVec.ofInt k.bits b).toNat)
def wm(k:IntKind)(a b:Int):Int:=k.wrap ((BitVec.ofInt k.bits a^^^BitVec.ofInt k.bits b).toNat)
def Lh(k:IntKind)(a b:Int):Int:=k.wrap ((BitVec.ofInt k.bits a&&& ~~~ BitVec.ofInt k.bits b).toNat)
def jE(a b:Int):Int:=if a<b then b else a
def je(a b:Int):Int:=if b<a then b else a
def VP(s:ByteArray)(n:Int):Int:=(((s.data.toList.getD n.toNat 0).toNat:Nat):Int)
abbrev room:Nat:=140737488355328
def jQ{α:Type}(lo len:Nat)(xs ys:List α):List α:=xs.take lo++(ys.take len++xs.drop (lo+min ys.length len))
theorem Ph{α:Type}{b:Bool}{k:Option α}{r:α}(h:bq b k=some r):b=true/\k=some r:=by cases b with|true=>exact⟨rfl,h⟩|false=>cases h
theorem L6{α:Type}{q:Prop} [Decidable q]{k:Option α}{r:α}(h:bq (decide q) k=some r):q/\k=some r:=
 let⟨a,b⟩:=Ph h;⟨iZ a,b⟩
theorem DU{α β:Type}{x:Option α}{k:α->Option β}{r:β}(h:x.bind k=some r):∃a,x=some a/\k a=some r:=by rcases x with _|a;cases h;exact⟨a,rfl,h⟩
def acj{α:Type} [BEq α](lt:α->α->Bool)(xs:List α):Bool:=
 xs.all λx=> !lt x x&&xs.all λy=>((lt x y||lt y x)||x==y)&&xs.all λz=>(!(lt x y&&lt y z)||lt x z)&&((lt x y||lt y z)|| !lt x z)
structure Wx{α:Type}(lt:α->α->Bool)(xs:List α):Prop where
 Rb:∀x∈xs,lt x x=false
 tr:∀x∈xs,∀y∈xs,∀z∈xs,lt x y=true->lt y z=true->lt x z=true
 nt:∀x∈xs,∀y∈xs,∀z∈xs,lt x y=false->lt y z=false->lt x z=false
 tot:∀x∈xs,∀y∈xs,lt x y=false->lt y x=false->x=y
def rD{α:Type}(cmp:α->α->Option Int)(x y:α):Bool:=decide ((cmp x y).getD 0<0)
def EH{α:Type} [BEq α](cmp:α->α->Option Int)(xs:List α):Option (List α):=
 bq (decide (xs.length<4611686018427387904)) (bq (xs.all λx=>xs.all λy=>(cmp x y).isSome) (bq (acj (rD cmp) xs) (some (xs.mergeSort λx y=> !rD cmp y x))))
theorem aKl{α:Type} [BEq α] [LawfulBEq α]{lt:α->α->Bool}{xs:List α}(h:acj lt xs=true):Wx lt xs:=by
 unfold acj at h;rw[kG]at h;have h1:∀x∈xs,lt x x=false:=λx hx=>by have:=h x hx;rw[dD]at this;simpa using this.1
 have h2:∀x∈xs,∀y∈xs,((lt x y||lt y x)||x==y)=true∧∀z∈xs,((!(lt x y&&lt y z)||lt x z)&&((lt x y||lt y z)|| !lt x z))=true:=λx hx y hy=>by have:=h x hx;rw[dD,kG]at this;have:=this.2 y hy;rw[dD,kG]at this;exact this
 refine⟨h1,λx hx y hy z hz a b=> ?_,λx hx y hy z hz a b=> ?_,λx hx y hy a b=> ?_⟩
 .have:=(h2 x hx y hy).2 z hz;rw[a,b]at this;simpa using this
 .have:=(h2 x hx y hy).2 z hz;rw[a,b]at this;simpa using this
 .have:=(h2 x hx y hy).1;rw[a,b]at this;simpa using this
theorem ao8{α:Type} [BEq α] [LawfulBEq α]{cmp:α->α->Option Int}{xs l:List α}(h:EH cmp xs=some l):
  xs.length<4611686018427387904/\(∀x∈xs,∀y∈xs,∃q,cmp x y=some q)/\Wx (rD cmp) xs/\l=xs.mergeSort λx y=> !rD cmp y x:=by
 unfold EH at h;obtain⟨a1,h⟩:=L6 h;obtain⟨a2,h⟩:=Ph h;obtain⟨a3,h⟩:=Ph h;rw[kG]at a2;refine⟨a1,λx hx y hy=> ?_,aKl a3,(rP h).symm⟩;have:=a2 x hx;rw[kG]at this;exact arW.1 (this y hy)
def pwB{α:Type}(lt:α->α->Bool):List α->Bool
 | []=>true
 |x::r=>r.all (λy=>lt x y||lt y x)&&pwB lt r
def asE{α:Type}(lt:α->α->Bool)(xs:List α):Bool:=
 pwB lt xs&&xs.all λx=> !lt x x&&xs.all λy=>xs.all λz=>(!(lt x y&&lt y z)||lt x z)&&((lt x y||lt y z)|| !lt x z)
def Wu{α:Type}(cmp:α->α->Option Int)(xs:List α):Option (List α):=
 bq (decide (xs.length<4611686018427387904)) (bq (xs.all λx=>xs.all λy=>(cmp x y).isSome) (bq (asE (rD cmp) xs) (some (xs.mergeSort λx y=> !rD cmp y x))))
theorem arB{α:Type}{lt:α->α->Bool}:∀{xs:List α},pwB lt xs=true→∀x∈xs,∀y∈xs,lt x y=false->lt y x=false->x=y
 | [],_,x,hx,_,_,_,_=>absurd hx l6
 |a::r,h,x,hx,y,hy,h1,h2=>by
  rw[pwB,dD,kG]at h;rcases BZ.1 hx with ex|hx
  .rcases BZ.1 hy with ey|hy
   .rw[ex,ey]
   .have:=h.1 y hy;rw[<-ex,h1,h2]at this;cases this
  .rcases BZ.1 hy with ey|hy
   .have:=h.1 x hx;rw[<-ey,h1,h2]at this;cases this
   .exact arB h.2 x hx y hy h1 h2
theorem aIF{α:Type}{cmp:α->α->Option Int}{xs l:List α}(h:Wu cmp xs=some l):
  xs.length<4611686018427387904/\(∀x∈xs,∀y∈xs,∃q,cmp x y=some q)/\Wx (rD cmp) xs/\l=xs.mergeSort λx y=> !rD cmp y x:=by
 unfold Wu at h;obtain⟨a1,h⟩:=L6 h;obtain⟨a2,h⟩:=Ph h;obtain⟨a3,h⟩:=Ph h;rw[kG]at a2;unfold asE at a3;rw[dD,kG]at a3;obtain⟨b1,b2⟩:=a3;have h1:∀x∈xs,rD cmp x x=false:=λx hx=>by have:=b2 x hx;rw[dD]at this;simpa using this.1
 have h2:∀x∈xs,∀y∈xs,∀z∈xs,((!(rD cmp x y&&rD cmp y z)||rD cmp x z)&&((rD cmp x y||rD cmp y z)|| !rD cmp x z))=true:=λx hx y hy z hz=>by have:=b2 x hx;rw[dD,kG]at this;have:=this.2 y hy;rw[kG]at this;exact this z hz
 refine⟨a1,λx hx y hy=> ?_,⟨h1,λx hx y hy z hz a b=> ?_,λx hx y hy z hz a b=> ?_,arB b1⟩,(rP h).symm⟩
 .have:=a2 x hx;rw[kG]at this;exact arW.1 (this y hy)
 .have:=h2 x hx y hy z hz;rw[a,b]at this;simpa using this
 .have:=h2 x hx y hy z hz;rw[a,b]at this;simpa using this
def Gw(xs:List Int):Nat->List Int
 |0=> []
 |m+1=>Gw xs m++(bif Nat.beq m 0||(xs.getD m aG !=xs.getD (m-1) aG)then [xs.getD m aG]else [])
def jV(xs:List Int):List Int:=Gw xs xs.length
theorem ahq(xs:List Int):∀m,(Gw xs m).length<=m
 |0=>gI 0
 |m+1=>by have:=ahq xs m;rw[Gw];cases (Nat.beq m 0||(xs.getD m aG !=xs.getD (m-1) aG))<;>simp<;>omega
end Go.CP
namespace Go.CP
open Go
structure jC where
 Region:Int
 deriving Inhabited
structure jy where
 tN:Int
 lT:Int
 deriving Inhabited
structure iq where
 dZ:Int
 jA:Int
 iT:Int
 Xg:Int
 BS:Int
 Wh:Int
 asW:Bool
 deriving Inhabited
structure ji where
 gP:Int
 dL:Int
 deriving Inhabited
structure aN where
 gH:Int
 iO:(List jC)
 aJ:(List jy)
 aH:(List iq)
 fD:(List ji)
 dh:(List Int)
 jX:(List Int)
 ou:Int
 iC:Int
 oW:Int
 deriving Inhabited
structure bS where
 data:(List Int)
 qR:Int
 deriving Inhabited
structure aP where
 aM:Int
 bf:Int
 aI:Int
 aK:Int
 dx:Int
 bN:Int
 From:Int
 bV:Int
 N:Int
 deriving Inhabited
structure cO where
 iB:Int
 kP:aP
 deriving Inhabited
structure fU where
 bW:bS
 gM:Int
 iW:Int
 bT:(List cO)
 deriving Inhabited
structure uZ where
 e0:Int
 e1:Int
 e2:Int
 e3:Int
 e4:Int
 deriving Inhabited
structure bA where
 aS:fU
 id:Int
 n:Int
 fP:Int
 fM:Int
 nG:Int
 next:uZ
 gL:uZ
 deriving Inhabited
structure bJ where
 aM:Int
 From:Int
 To:Int
 iB:Int
 gQ:Int
 l5:Int
 qW:Int
 OK:Bool
 mZ:(List cO)
 deriving Inhabited
structure bP where
 aU:(List bA)
 bn:(List bJ)
 kW:(List aP)
 deriving Inhabited
structure iD where
 aK:Int
 bN:Int
 qQ:Int
 From:Int
 bV:Int
 deriving Inhabited
structure bI where
 dN:Bool
 eX:Bool
 bC:Int
 aT:Int
 Next:Int
 dK:Int
 bN:Int
 dn:iD
 deriving Inhabited
structure gG where
 gJ:Int
 fI:Int
 iN:Int
 p9:Int
 deriving Inhabited
structure aO where
 bf:Int
 eH:Int
 aH:(List bI)
 aJ:(List gG)
 jT:Int
 d9:Int
 gP:Int
 dL:Int
 deriving Inhabited
structure bO where
 eu:aN
 bn:bP
 up:Int
 state:aO
 deriving Inhabited
structure iH where
 bN:Int
 mq:Int
 aM:Int
 uK:Int
 lV:Int
 jh:Int
 uh:ByteArray
 Value:ByteArray
 deriving Inhabited
structure pz where
 values:(List (Value×Value))
 deriving Inhabited
structure iY where
 lV:Int
 Value:ByteArray
 deriving Inhabited
structure jr where
 jh:Int
 uK:Int
 bN:Int
 bV:Int
 deriving Inhabited
structure iw where
 yc:(List iY)
 yQ:(List jr)
 zP:Int
 deriving Inhabited
structure kY where
 uS:Int
 mq:Int
 jh:Int
 Value:ByteArray
 deriving Inhabited
structure pR where
 number:Int
 iA:kY
 deriving Inhabited
structure Al where
 e0:pR
 e1:pR
 e2:pR
 e3:pR
 e4:pR
 e5:pR
 e6:pR
 e7:pR
 deriving Inhabited
structure jq where
 iX:Al
 deriving Inhabited
structure Az where
 tJ:pz
 qA:iw
 wU:jq
 deriving Inhabited
structure iJ where
 cell:Int
 closed:Int
 l9:(List iD)
 deriving Inhabited
structure lU where
 cell:Int
 vH:Int
 sH:(List iH)
 now:Az
 qd:iJ
 deriving Inhabited
structure iM where
 aI:Int
 gQ:Int
 dn:iD
 deriving Inhabited
structure wF where
 aI:Int
 bf:Int
 aK:Int
 bN:Int
 qQ:Int
 deriving Inhabited
structure wP where
 c:aN
 p:bO
 copies:(List (List lU))
 Gj:(List iM)
 aMj:(List wF)
 bZ:Int
 deriving Inhabited
structure qN where
 wJ:Int
 cells:Int
 regions:Int
 zQ:Int
 deriving Inhabited
structure ny where
 low:Int
 Jt:Int
 deriving Inhabited
structure oh where
 vH:ny
 cell:ny
 other:ny
 ajY:ny
 acp:ny
 n:ny
 deriving Inhabited
structure lS where
 aM:Int
 nY:Int
 N:Int
 kP:aP
 deriving Inhabited
structure vg where
 e0:Int
 e1:Int
 e2:Int
 e3:Int
 e4:Int
 e5:Int
 e6:Int
 e7:Int
 e8:Int
 deriving Inhabited
structure lQ where
 aI:Int
 uK:Int
 lV:Int
 Op:Int
 jh:Int
 uh:ByteArray
 Value:ByteArray
 deriving Inhabited
structure eP where
 L:(List Int)
 At:Int
 deriving Inhabited
structure eU where
 aM:Int
 aI:Int
 aK:Int
 deriving Inhabited
structure gD where
 Region:Int
 bY:(List eU)
 kH:(List Int)
 deriving Inhabited
structure mF where
 nT:Bool
 lW:Int
 jF:Int
 next:Int
 xW:Int
 deriving Inhabited
structure ku where
 eu:aN
 state:aO
 dQ:(List mF)
 dM:(List Int)
 deriving Inhabited
structure mE where
 nT:Bool
 lW:Int
 jF:Int
 next:Int
 xW:Int
 deriving Inhabited
structure jm where
 eu:aN
 state:aO
 dQ:(List mE)
 dM:(List Int)
 deriving Inhabited
abbrev iE(q:bP):bP:={q with aU:=[q.aU.getD 0 aG]}
abbrev gK(q:bP):bP:={q with aU:=[q.aU.getD 0 aG,q.aU.getD 1 aG,q.aU.getD 2 aG]}
abbrev iL(q:bO):bO:={q with bn:=iE q.bn}
abbrev jH(q:bO):bO:={q with bn:=gK q.bn}
inductive N where
 |jC
 |jy
 |iq
 |ji
 |aN
 |bS
 |aP
 |cO
 |uZ
 |bJ
 |iD
 |bI
 |gG
 |aO
 |iH
 |iY
 |jr
 |iw
 |kY
 |pR
 |Al
 |jq
 |iJ
 |iM
 |wF
 |qN
 |ny
 |oh
 |lS
 |vg
 |lQ
 |eP
 |eU
 |gD
 |mF
 |ku
 |mE
 |jm
 deriving DecidableEq
def T:N->Type
 | .jC=>jC
 | .jy=>jy
 | .iq=>iq
 | .ji=>ji
 | .aN=>aN
 | .bS=>bS
 | .aP=>aP
 | .cO=>cO
 | .uZ=>uZ
 | .bJ=>bJ
 | .iD=>iD
 | .bI=>bI
 | .gG=>gG
 | .aO=>aO
 | .iH=>iH
 | .iY=>iY
 | .jr=>jr
 | .iw=>iw
 | .kY=>kY
 | .pR=>pR
 | .Al=>Al
 | .jq=>jq
 | .iJ=>iJ
 | .iM=>iM
 | .wF=>wF
 | .qN=>qN
 | .ny=>ny
 | .oh=>oh
 | .lS=>lS
 | .vg=>vg
 | .lQ=>lQ
 | .eP=>eP
 | .eU=>eU
 | .gD=>gD
 | .mF=>mF
 | .ku=>ku
 | .mE=>mE
 | .jm=>jm
instance aNu:(k:N)->Inhabited (T k)
 | .jC=>(inferInstance:Inhabited jC)
 | .jy=>(inferInstance:Inhabited jy)
 | .iq=>(inferInstance:Inhabited iq)
 | .ji=>(inferInstance:Inhabited ji)
 | .aN=>(inferInstance:Inhabited aN)
 | .bS=>(inferInstance:Inhabited bS)
 | .aP=>(inferInstance:Inhabited aP)
 | .cO=>(inferInstance:Inhabited cO)
 | .uZ=>(inferInstance:Inhabited uZ)
 | .bJ=>(inferInstance:Inhabited bJ)
 | .iD=>(inferInstance:Inhabited iD)
 | .bI=>(inferInstance:Inhabited bI)
 | .gG=>(inferInstance:Inhabited gG)
 | .aO=>(inferInstance:Inhabited aO)
 | .iH=>(inferInstance:Inhabited iH)
 | .iY=>(inferInstance:Inhabited iY)
 | .jr=>(inferInstance:Inhabited jr)
 | .iw=>(inferInstance:Inhabited iw)
 | .kY=>(inferInstance:Inhabited kY)
 | .pR=>(inferInstance:Inhabited pR)
 | .Al=>(inferInstance:Inhabited Al)
 | .jq=>(inferInstance:Inhabited jq)
 | .iJ=>(inferInstance:Inhabited iJ)
 | .iM=>(inferInstance:Inhabited iM)
 | .wF=>(inferInstance:Inhabited wF)
 | .qN=>(inferInstance:Inhabited qN)
 | .ny=>(inferInstance:Inhabited ny)
 | .oh=>(inferInstance:Inhabited oh)
 | .lS=>(inferInstance:Inhabited lS)
 | .vg=>(inferInstance:Inhabited vg)
 | .lQ=>(inferInstance:Inhabited lQ)
 | .eP=>(inferInstance:Inhabited eP)
 | .eU=>(inferInstance:Inhabited eU)
 | .gD=>(inferInstance:Inhabited gD)
 | .mF=>(inferInstance:Inhabited mF)
 | .ku=>(inferInstance:Inhabited ku)
 | .mE=>(inferInstance:Inhabited mE)
 | .jm=>(inferInstance:Inhabited jm)
inductive Ty where
 |i (k:IntKind)
 |b
 |s
 |n (k:N)
 |l (t:Ty)
 deriving DecidableEq
def den:Ty->Type
 | .i _=>Int
 | .b=>Bool
 | .s=>ByteArray
 | .n k=>T k
 | .l t=>List (den t)
instance aQR:(t:Ty)->Inhabited (den t)
 | .i _=>(inferInstance:Inhabited Int)
 | .b=>(inferInstance:Inhabited Bool)
 | .s=>(inferInstance:Inhabited ByteArray)
 | .n k=>aNu k
 | .l t=>⟨([]:List (den t))⟩
end Go.CP
namespace Go.AM
open Go Go.RowKit Go.CP
inductive CV where
 |val (v:Value)
 |e0
 |rd (z n:Nat) (f:Nat->List CV)
 |ls (t:Ty) (xs:List (den t))
 |lY (t:Ty) (xs:List (den t))
def ab7(k:IntKind)(x:Int):List CV:=[.val (.int k x)]
def aLG(x:Bool):List CV:=[.val (.bool x)]
def aMH(x:ByteArray):List CV:=[.val (.string x)]
def Ez:(t:Ty)->den t->CV
 | .i k,x=> .val (.int k x)
 | .b,x=> .val (.bool x)
 | .s,x=> .val (.string x)
 | .n _,_=> .e0
 | .l t,xs=> .ls t xs
def Aa:List Ty->Type
 | []=>Unit
 |t::r=>den t×Aa r
def tO:(ts:List Ty)->Aa ts->List CV
 | [],_=> []
 |t::r,v=>Ez t v.1::tO r v.2
end Go.AM
namespace Go.CP
open Go Go.AM
abbrev vI(x:Int):CV:=.val (.int .i64 x)
abbrev tI:Ty:=.i .i64
section
variable {a b c d e g h i j k l m z:Type}
abbrev uM1(f:a->z)(v:a×Unit):z:=f v.1
abbrev MS(f:a->b->z)(v:a×b×Unit):z:=uM1 (f v.1) v.2
abbrev XA(f:a->b->c->z)(v:a×b×c×Unit):z:=MS (f v.1) v.2
abbrev XB(f:a->b->c->d->z)(v:a×b×c×d×Unit):z:=XA (f v.1) v.2
abbrev MU(f:a->b->c->d->e->z)(v:a×b×c×d×e×Unit):z:=XB (f v.1) v.2
abbrev uM6(f:a->b->c->d->e->g->z)(v:a×b×c×d×e×g×Unit):z:=MU (f v.1) v.2
abbrev uM7(f:a->b->c->d->e->g->h->z)(v:a×b×c×d×e×g×h×Unit):z:=uM6 (f v.1) v.2
abbrev uM8(f:a->b->c->d->e->g->h->i->z)(v:a×b×c×d×e×g×h×i×Unit):z:=uM7 (f v.1) v.2
abbrev uM9(f:a->b->c->d->e->g->h->i->j->z)(v:a×b×c×d×e×g×h×i×j×Unit):z:=uM8 (f v.1) v.2
abbrev ak8(f:a->b->c->d->e->g->h->i->j->k->z)(v:a×b×c×d×e×g×h×i×j×k×Unit):z:=uM9 (f v.1) v.2
abbrev aNC(f:a->b->c->d->e->g->h->i->j->k->l->z)(v:a×b×c×d×e×g×h×i×j×k×l×Unit):z:=ak8 (f v.1) v.2
abbrev ak9(f:a->b->c->d->e->g->h->i->j->k->l->m->z)(v:a×b×c×d×e×g×h×i×j×k×l×m×Unit):z:=aNC (f v.1) v.2
end
def EZ:N->List Ty
 | .jC=> [tI]
 | .jy=> [tI,tI]
 | .iq=> [tI,tI,tI,tI,tI,tI,.b]
 | .ji=> [tI,tI]
 | .aN=> [tI,.l (.n .jC),.l (.n .jy),.l (.n .iq),.l (.n .ji),.l (.i .i64),.l (.i .i64),tI,tI,tI]
 | .bS=> [.l (.i .u8),tI]
 | .aP=> [tI,tI,tI,tI,tI,tI,tI,tI,tI]
 | .cO=> [tI,tI,tI,tI,tI,tI,tI,tI,tI,tI]
 | .uZ=> [tI,tI,tI,tI,tI]
 | .bJ=> [tI,tI,tI,tI,tI,tI,tI,.b,.l (.n .cO)]
 | .iD=> [tI,tI,tI,tI,tI]
 | .bI=> [.b,.b,tI,tI,tI,tI,tI,tI,tI,tI,tI,tI]
 | .gG=> [tI,tI,tI,tI]
 | .aO=> [tI,tI,.l (.n .bI),.l (.n .gG),tI,tI,tI,tI]
 | .iH=> [tI,tI,tI,tI,tI,tI,.s,.s]
 | .iY=> [tI,.s]
 | .jr=> [tI,tI,tI,tI]
 | .iw=> [.l (.n .iY),.l (.n .jr),tI]
 | .kY=> [tI,tI,tI,.s]
 | .pR=> [tI,tI,tI,tI,.s]
 | .Al=> [tI,tI,tI,tI,.s,tI,tI,tI,tI,.s,tI,tI,tI,tI,.s,tI,tI,tI,tI,.s,tI,tI,tI,tI,.s,tI,tI,tI,tI,.s,tI,tI,tI,tI,.s,tI,tI,tI,tI,.s]
 | .jq=> [tI,tI,tI,tI,.s,tI,tI,tI,tI,.s,tI,tI,tI,tI,.s,tI,tI,tI,tI,.s,tI,tI,tI,tI,.s,tI,tI,tI,tI,.s,tI,tI,tI,tI,.s,tI,tI,tI,tI,.s]
 | .iJ=> [tI,tI,.l (.n .iD)]
 | .iM=> [tI,tI,tI,tI,tI,tI,tI]
 | .wF=> [tI,tI,tI,tI,tI]
 | .qN=> [tI,tI,tI,tI]
 | .ny=> [tI,tI]
 | .oh=> [tI,tI,tI,tI,tI,tI,tI,tI,tI,tI,tI,tI]
 | .lS=> [tI,tI,tI,tI,tI,tI,tI,tI,tI,tI,tI,tI]
 | .vg=> [tI,tI,tI,tI,tI,tI,tI,tI,tI]
 | .lQ=> [tI,tI,tI,tI,tI,.s,.s]
 | .eP=> [.l (.i .i64),tI]
 | .eU=> [tI,tI,tI]
 | .gD=> [tI,.l (.n .eU),.l (.i .i64)]
 | .mF=> [.b,tI,tI,tI,tI]
 | .ku=> [tI,.l (.n .jC),.l (.n .jy),.l (.n .iq),.l (.n .ji),.l (.i .i64),.l (.i .i64),tI,tI,tI,tI,tI,.l (.n .bI),.l (.n .gG),tI,tI,tI,tI,.l (.n .mF),.l (.i .i64)]
 | .mE=> [.b,tI,tI,tI,tI]
 | .jm=> [tI,.l (.n .jC),.l (.n .jy),.l (.n .iq),.l (.n .ji),.l (.i .i64),.l (.i .i64),tI,tI,tI,tI,tI,.l (.n .bI),.l (.n .gG),tI,tI,tI,tI,.l (.n .mE),.l (.i .i64)]
def gV:N->Nat
 | .jC=>1
 | .jy=>2
 | .iq=>7
 | .ji=>2
 | .aN=>10
 | .bS=>2
 | .aP=>9
 | .cO=>10
 | .uZ=>5
 | .bJ=>9
 | .iD=>5
 | .bI=>12
 | .gG=>4
 | .aO=>8
 | .iH=>8
 | .iY=>2
 | .jr=>4
 | .iw=>3
 | .kY=>4
 | .pR=>5
 | .Al=>40
 | .jq=>40
 | .iJ=>3
 | .iM=>7
 | .wF=>5
 | .qN=>4
 | .ny=>2
 | .oh=>12
 | .lS=>12
 | .vg=>9
 | .lQ=>7
 | .eP=>2
 | .eU=>3
 | .gD=>3
 | .mF=>5
 | .ku=>20
 | .mE=>5
 | .jm=>20
def Rh:(k:N)->Aa (EZ k)->T k
 | .jC=>uM1 jC.mk
 | .jy=>MS jy.mk
 | .iq=>uM7 iq.mk
 | .ji=>MS ji.mk
 | .aN=>ak8 aN.mk
 | .bS=>MS bS.mk
 | .aP=>uM9 aP.mk
 | .cO=>ak8 λa b c d e g h i j k=>⟨a,⟨b,c,d,e,g,h,i,j,k⟩⟩
 | .uZ=>MU uZ.mk
 | .bJ=>uM9 bJ.mk
 | .iD=>MU iD.mk
 | .bI=>ak9 λa b c d e g h i j k l m=>⟨a,b,c,d,e,g,h,⟨i,j,k,l,m⟩⟩
 | .gG=>XB gG.mk
 | .aO=>uM8 aO.mk
 | .iH=>uM8 iH.mk
 | .iY=>MS iY.mk
 | .jr=>XB jr.mk
 | .iw=>XA iw.mk
 | .kY=>XB kY.mk
 | .pR=>MU λa b c d e=>⟨a,⟨b,c,d,e⟩⟩
 | .Al=>λv=>(⟨⟨v.1,⟨v.2.1,v.2.2.1,v.2.2.2.1,(bH v).1⟩⟩,⟨(dH v).1,⟨(dR v).1,(dY v).1,(gB v).1,(nH v).1⟩⟩,⟨(ow v).1,⟨(jO v).1,(nV v).1,(dG v).1,(dY (dY v)).1⟩⟩,⟨(gB (dY v)).1,⟨(gB (gB v)).1,(bH (dG v)).1,(dH (dG v)).1,(dR (dG v)).1⟩⟩,⟨(dY (dG v)).1,⟨(gB (dG v)).1,(nH (dG v)).1,(ow (dG v)).1,(jO (dG v)).1⟩⟩,⟨(nV (dG v)).1,⟨(dG (dG v)).1,(dY (dY (dG v))).1,(gB (dY (dG v))).1,(gB (gB (dG v))).1⟩⟩,⟨(bH (dG (dG v))).1,⟨(dH (dG (dG v))).1,(dR (dG (dG v))).1,(dY (dG (dG v))).1,(gB (dG (dG v))).1⟩⟩,⟨(nH (dG (dG v))).1,⟨(ow (dG (dG v))).1,(jO (dG (dG v))).1,(nV (dG (dG v))).1,(dG (dG (dG v))).1⟩⟩⟩:Al)
 | .jq=>λv=>(⟨⟨⟨v.1,⟨v.2.1,v.2.2.1,v.2.2.2.1,(bH v).1⟩⟩,⟨(dH v).1,⟨(dR v).1,(dY v).1,(gB v).1,(nH v).1⟩⟩,⟨(ow v).1,⟨(jO v).1,(nV v).1,(dG v).1,(dY (dY v)).1⟩⟩,⟨(gB (dY v)).1,⟨(gB (gB v)).1,(bH (dG v)).1,(dH (dG v)).1,(dR (dG v)).1⟩⟩,⟨(dY (dG v)).1,⟨(gB (dG v)).1,(nH (dG v)).1,(ow (dG v)).1,(jO (dG v)).1⟩⟩,⟨(nV (dG v)).1,⟨(dG (dG v)).1,(dY (dY (dG v))).1,(gB (dY (dG v))).1,(gB (gB (dG v))).1⟩⟩,⟨(bH (dG (dG v))).1,⟨(dH (dG (dG v))).1,(dR (dG (dG v))).1,(dY (dG (dG v))).1,(gB (dG (dG v))).1⟩⟩,⟨(nH (dG (dG v))).1,⟨(ow (dG (dG v))).1,(jO (dG (dG v))).1,(nV (dG (dG v))).1,(dG (dG (dG v))).1⟩⟩⟩⟩:jq)
 | .iJ=>XA iJ.mk
 | .iM=>uM7 λa b c d e g h=>⟨a,b,⟨c,d,e,g,h⟩⟩
 | .wF=>MU wF.mk
 | .qN=>XB qN.mk
 | .ny=>MS ny.mk
 | .oh=>ak9 λa b c d e g h i j k l m=>⟨⟨a,b⟩,⟨c,d⟩,⟨e,g⟩,⟨h,i⟩,⟨j,k⟩,⟨l,m⟩⟩
 | .lS=>ak9 λa b c d e g h i j k l m=>⟨a,b,c,⟨d,e,g,h,i,j,k,l,m⟩⟩
 | .vg=>uM9 vg.mk
 | .lQ=>uM7 lQ.mk
 | .eP=>MS eP.mk
 | .eU=>XA eU.mk
 | .gD=>XA gD.mk
 | .mF=>MU mF.mk
 | .ku=>λv=>(⟨⟨v.1,v.2.1,v.2.2.1,v.2.2.2.1,(bH v).1,(dH v).1,(dR v).1,(dY v).1,(gB v).1,(nH v).1⟩,⟨(ow v).1,(jO v).1,(nV v).1,(dG v).1,(dY (dY v)).1,(gB (dY v)).1,(gB (gB v)).1,(bH (dG v)).1⟩,(dH (dG v)).1,(dR (dG v)).1⟩:ku)
 | .mE=>MU mE.mk
 | .jm=>λv=>(⟨⟨v.1,v.2.1,v.2.2.1,v.2.2.2.1,(bH v).1,(dH v).1,(dR v).1,(dY v).1,(gB v).1,(nH v).1⟩,⟨(ow v).1,(jO v).1,(nV v).1,(dG v).1,(dY (dY v)).1,(gB (dY v)).1,(gB (gB v)).1,(bH (dG v)).1⟩,(dH (dG v)).1,(dR (dG v)).1⟩:jm)
def ofN:(k:N)->T k->Aa (EZ k)
 | .jC=>λ(s:jC)=>(s.Region,())
 | .jy=>λ(s:jy)=>(s.tN,s.lT,())
 | .iq=>λ(s:iq)=>(s.dZ,s.jA,s.iT,s.Xg,s.BS,s.Wh,s.asW,())
 | .ji=>λ(s:ji)=>(s.gP,s.dL,())
 | .aN=>λ(s:aN)=>(s.gH,s.iO,s.aJ,s.aH,s.fD,s.dh,s.jX,s.ou,s.iC,s.oW,())
 | .bS=>λ(s:bS)=>(s.data,s.qR,())
 | .aP=>λ(s:aP)=>(s.aM,s.bf,s.aI,s.aK,s.dx,s.bN,s.From,s.bV,s.N,())
 | .cO=>λ(s:cO)=>(s.iB,s.kP.aM,s.kP.bf,s.kP.aI,s.kP.aK,s.kP.dx,s.kP.bN,s.kP.From,s.kP.bV,s.kP.N,())
 | .uZ=>λ(s:uZ)=>(s.e0,s.e1,s.e2,s.e3,s.e4,())
 | .bJ=>λ(s:bJ)=>(s.aM,s.From,s.To,s.iB,s.gQ,s.l5,s.qW,s.OK,s.mZ,())
 | .iD=>λ(s:iD)=>(s.aK,s.bN,s.qQ,s.From,s.bV,())
 | .bI=>λ(s:bI)=>(s.dN,s.eX,s.bC,s.aT,s.Next,s.dK,s.bN,s.dn.aK,s.dn.bN,s.dn.qQ,s.dn.From,s.dn.bV,())
 | .gG=>λ(s:gG)=>(s.gJ,s.fI,s.iN,s.p9,())
 | .aO=>λ(s:aO)=>(s.bf,s.eH,s.aH,s.aJ,s.jT,s.d9,s.gP,s.dL,())
 | .iH=>λ(s:iH)=>(s.bN,s.mq,s.aM,s.uK,s.lV,s.jh,s.uh,s.Value,())
 | .iY=>λ(s:iY)=>(s.lV,s.Value,())
 | .jr=>λ(s:jr)=>(s.jh,s.uK,s.bN,s.bV,())
 | .iw=>λ(s:iw)=>(s.yc,s.yQ,s.zP,())
 | .kY=>λ(s:kY)=>(s.uS,s.mq,s.jh,s.Value,())
 | .pR=>λ(s:pR)=>(s.number,s.iA.uS,s.iA.mq,s.iA.jh,s.iA.Value,())
 | .Al=>λ(s:Al)=>(s.e0.number,s.e0.iA.uS,s.e0.iA.mq,s.e0.iA.jh,s.e0.iA.Value,s.e1.number,s.e1.iA.uS,s.e1.iA.mq,s.e1.iA.jh,s.e1.iA.Value,s.e2.number,s.e2.iA.uS,s.e2.iA.mq,s.e2.iA.jh,s.e2.iA.Value,s.e3.number,s.e3.iA.uS,s.e3.iA.mq,s.e3.iA.jh,s.e3.iA.Value,s.e4.number,s.e4.iA.uS,s.e4.iA.mq,s.e4.iA.jh,s.e4.iA.Value,s.e5.number,s.e5.iA.uS,s.e5.iA.mq,s.e5.iA.jh,s.e5.iA.Value,s.e6.number,s.e6.iA.uS,s.e6.iA.mq,s.e6.iA.jh,s.e6.iA.Value,s.e7.number,s.e7.iA.uS,s.e7.iA.mq,s.e7.iA.jh,s.e7.iA.Value,())
 | .jq=>λ(s:jq)=>(s.iX.e0.number,s.iX.e0.iA.uS,s.iX.e0.iA.mq,s.iX.e0.iA.jh,s.iX.e0.iA.Value,s.iX.e1.number,s.iX.e1.iA.uS,s.iX.e1.iA.mq,s.iX.e1.iA.jh,s.iX.e1.iA.Value,s.iX.e2.number,s.iX.e2.iA.uS,s.iX.e2.iA.mq,s.iX.e2.iA.jh,s.iX.e2.iA.Value,s.iX.e3.number,s.iX.e3.iA.uS,s.iX.e3.iA.mq,s.iX.e3.iA.jh,s.iX.e3.iA.Value,s.iX.e4.number,s.iX.e4.iA.uS,s.iX.e4.iA.mq,s.iX.e4.iA.jh,s.iX.e4.iA.Value,s.iX.e5.number,s.iX.e5.iA.uS,s.iX.e5.iA.mq,s.iX.e5.iA.jh,s.iX.e5.iA.Value,s.iX.e6.number,s.iX.e6.iA.uS,s.iX.e6.iA.mq,s.iX.e6.iA.jh,s.iX.e6.iA.Value,s.iX.e7.number,s.iX.e7.iA.uS,s.iX.e7.iA.mq,s.iX.e7.iA.jh,s.iX.e7.iA.Value,())
 | .iJ=>λ(s:iJ)=>(s.cell,s.closed,s.l9,())
 | .iM=>λ(s:iM)=>(s.aI,s.gQ,s.dn.aK,s.dn.bN,s.dn.qQ,s.dn.From,s.dn.bV,())
 | .wF=>λ(s:wF)=>(s.aI,s.bf,s.aK,s.bN,s.qQ,())
 | .qN=>λ(s:qN)=>(s.wJ,s.cells,s.regions,s.zQ,())
 | .ny=>λ(s:ny)=>(s.low,s.Jt,())
 | .oh=>λ(s:oh)=>(s.vH.low,s.vH.Jt,s.cell.low,s.cell.Jt,s.other.low,s.other.Jt,s.ajY.low,s.ajY.Jt,s.acp.low,s.acp.Jt,s.n.low,s.n.Jt,())
 | .lS=>λ(s:lS)=>(s.aM,s.nY,s.N,s.kP.aM,s.kP.bf,s.kP.aI,s.kP.aK,s.kP.dx,s.kP.bN,s.kP.From,s.kP.bV,s.kP.N,())
 | .vg=>λ(s:vg)=>(s.e0,s.e1,s.e2,s.e3,s.e4,s.e5,s.e6,s.e7,s.e8,())
 | .lQ=>λ(s:lQ)=>(s.aI,s.uK,s.lV,s.Op,s.jh,s.uh,s.Value,())
 | .eP=>λ(s:eP)=>(s.L,s.At,())
 | .eU=>λ(s:eU)=>(s.aM,s.aI,s.aK,())
 | .gD=>λ(s:gD)=>(s.Region,s.bY,s.kH,())
 | .mF=>λ(s:mF)=>(s.nT,s.lW,s.jF,s.next,s.xW,())
 | .ku=>λ(s:ku)=>(s.eu.gH,s.eu.iO,s.eu.aJ,s.eu.aH,s.eu.fD,s.eu.dh,s.eu.jX,s.eu.ou,s.eu.iC,s.eu.oW,s.state.bf,s.state.eH,s.state.aH,s.state.aJ,s.state.jT,s.state.d9,s.state.gP,s.state.dL,s.dQ,s.dM,())
 | .mE=>λ(s:mE)=>(s.nT,s.lW,s.jF,s.next,s.xW,())
 | .jm=>λ(s:jm)=>(s.eu.gH,s.eu.iO,s.eu.aJ,s.eu.aH,s.eu.fD,s.eu.dh,s.eu.jX,s.eu.ou,s.eu.iC,s.eu.oW,s.state.bf,s.state.eH,s.state.aH,s.state.aJ,s.state.jT,s.state.d9,s.state.gP,s.state.dL,s.dQ,s.dM,())
def jI:(k:N)->T k->List CV
 | .ku,s=> [vI s.eu.gH,.ls (.n .jC) s.eu.iO,.ls (.n .jy) s.eu.aJ,.ls (.n .iq) s.eu.aH,.ls (.n .ji) s.eu.fD,.ls (.i .i64) s.eu.dh,.ls (.i .i64) s.eu.jX,vI s.eu.ou,vI s.eu.iC,vI s.eu.oW,vI s.state.bf,vI s.state.eH,.ls (.n .bI) s.state.aH,.ls (.n .gG) s.state.aJ,vI s.state.jT,vI s.state.d9,vI s.state.gP,vI s.state.dL,.ls (.n .mF) s.dQ,.ls (.i .i64) s.dM]
 | .jm,s=> [vI s.eu.gH,.ls (.n .jC) s.eu.iO,.ls (.n .jy) s.eu.aJ,.ls (.n .iq) s.eu.aH,.ls (.n .ji) s.eu.fD,.ls (.i .i64) s.eu.dh,.ls (.i .i64) s.eu.jX,vI s.eu.ou,vI s.eu.iC,vI s.eu.oW,vI s.state.bf,vI s.state.eH,.ls (.n .bI) s.state.aH,.ls (.n .gG) s.state.aJ,vI s.state.jT,vI s.state.d9,vI s.state.gP,vI s.state.dL,.ls (.n .mE) s.dQ,.ls (.i .i64) s.dM]
 |k,x=>tO (EZ k) (ofN k x)
theorem aaF(k:N)(x:T k):(jI k x).length=gV k:=by cases k<;>rfl
theorem Px(k:N)(v:Aa (EZ k)):jI k (Rh k v)=tO (EZ k) v:=by cases k<;>rfl
theorem asj(k:N)(x:T k):Rh k (ofN k x)=x:=by cases k<;>rfl
end Go.CP
namespace Go.AM
open Go Go.RowKit Go.CP
variable [Fuel]
def wd:Ty->Nat
  | .n k=>gV k
  |_=>1
def xk:(t:Ty)->den t->List CV
  | .i k,x=>ab7 k x
  | .b,x=>aLG x
  | .s,x=>aMH x
  | .n k,x=>jI k x
  | .l t,xs=> [.ls t xs]
theorem aJQ:(t:Ty)->(x:den t)->(xk t x).length=wd t
  | .i _,_=>rfl
  | .b,_=>rfl
  | .s,_=>rfl
  | .n k,x=>aaF k x
  | .l _,_=>rfl
def fE(t:Ty)(xs:List (den t)):Nat->List CV:=λi=>xk t (xs.getD i aG)
inductive SC where
  |c (x:CV)
  |rp (cs:List CV)
  |own (k:Nat)
  |sl (k lo len:Nat)
  |pb (k off:Nat)
  |pe (k i off:Nat)
  |fn (f:FuncId) (caps:List Nat)
  |mp (k:Nat)
  |fb (f:FuncId) (k off:Nat)
  |bot
inductive AV where
  |s (x:SC)
  |agg (cs:List SC)
inductive SV where
  |one (v:AV)
  |mW (vs:List AV)
inductive aV where
  |box (cs:List SC)
  |arr (z n:Nat) (f:Nat->List CV)
  |ra (z n:Nat) (cs:List SC)
  |ms (es:List (Value×Value))
  |dead
def aV.live:aV->Prop
  | .dead=>False
  |_=>True
structure Loc where
  base:Option Addr
  cap:Nat
  z:Nat
  blk:Option Nat
  n:Nat
abbrev Mu:=Nat->Prop
abbrev gU:=Nat->Option Loc
inductive lu(w:World)(M:Mu):CV->Value->Prop
  |val (v:Value):lu w M (.val v) v
  |e0 (a:Option Addr):lu w M .e0 (.slice a 0 0)
  |qh (z:Nat) (f:Nat->List CV) (a:Option Addr) (cap:Nat):lu w M (.rd z 0 f) (.slice a 0 cap)
  |rd (z n:Nat) (f:Nat->List CV) (b off cap:Nat) (c:Nat->Value) (hb:¬M b) (hs:b<w.heap.size) (hn:n<=cap)
      (hl:∀i,i<n->(f i).length=z) (hc:∀j,j<n*z->w.cell? ⟨b,off+j,none⟩=some (c j)) (h1:∀j,j<n*z->(c j).oneCell'=true)
      (h:∀i j x,i<n->(f i)[j]? =some x->lu w M x (c (i*z+j))):lu w M (.rd z n f) (.slice (some ⟨b,off,none⟩) n cap)
  |ls (t:Ty) (xs:List (den t)) (v:Value) (h:lu w M (.rd (wd t) xs.length (fE t xs)) v):lu w M (.ls t xs) v
  |lY (t:Ty) (xs:List (den t)) (v:Value) (h:lu w M (.rd (wd t) xs.length (fE t xs)) v) (hn:xs=[]->v=.slice none 0 0):lu w M (.lY t xs) v
inductive dP(w:World)(m:gU)(M:Mu):SC->Value->Prop
  |c {x:CV} {v:Value} (h:lu w M x v):dP w m M (.c x) v
  |rp (cs:List CV) (b off:Nat) (c:Nat->Value) (hb:¬M b) (hs:b<w.heap.size) (hc:∀j,j<cs.length->w.cell? ⟨b,off+j,none⟩=some (c j))
      (h:∀(j:Nat) x,cs[j]? =some x->lu w M x (c j)):dP w m M (.rp cs) (.pointer (some ⟨b,off,none⟩))
  |own (k:Nat) (l:Loc) (hk:m k=some l):dP w m M (.own k) (.slice l.base l.n l.cap)
  |sl (k lo len:Nat) (l:Loc) (a:Option Addr) (c:Nat) (hk:m k=some l) (h0:lo=0->a=l.base/\c=l.cap)
      (h1:len≠0→∃b,l.blk=some b/\a=some ⟨b,lo*l.z,none⟩) (h2:len<=c) (h3:c+lo=l.cap):dP w m M (.sl k lo len) (.slice a len c)
  |pb (k off b:Nat) (l:Loc) (hk:m k=some l) (hb:l.blk=some b):dP w m M (.pb k off) (.pointer (some ⟨b,off,none⟩))
  |pe (k i off b:Nat) (l:Loc) (hk:m k=some l) (hb:l.blk=some b) (hi:i<l.n):dP w m M (.pe k i off) (.pointer (some ⟨b,i*l.z+off,none⟩))
  |fn (f:FuncId) (caps:List Nat) (vs:Array Value) (hs:vs.size=caps.length)
      (h:∀(i:Nat) k,caps[i]? =some k→∃l b,m k=some l/\l.blk=some b/\vs[i]? =some (.pointer (some ⟨b,0,none⟩))):dP w m M (.fn f caps) (.func (.func f) #[] vs)
  |mp (k b:Nat) (l:Loc) (hk:m k=some l) (hb:l.blk=some b):dP w m M (.mp k) (.map (some b))
  |fb (f:FuncId) (k off b:Nat) (l:Loc) (hk:m k=some l) (hb:l.blk=some b):dP w m M (.fb f k off) (.func (.func f) #[.pointer (some ⟨b,off,none⟩)] #[])
  |bot (v:Value):dP w m M .bot v
def nW(w:World)(m:gU)(M:Mu)(cs:List SC)(vs:Array Value):Prop:=
  vs.size=cs.length∧∀(i:Nat) x,cs[i]? =some x->dP w m M x (vs.getD i undef)
def jo(w:World)(m:gU)(M:Mu):AV->Value->Prop
  | .s x,v=>dP w m M x v
  | .agg cs,v=>∃vs,v=.agg vs/\nW w m M cs vs
def fu(w:World)(m:gU)(M:Mu):SV->Value->Prop
  | .one a,v=>jo w m M a v
  | .mW as',v=>∃vs:Array Value,v=.tuple vs/\vs.size=as'.length∧∀(i:Nat) a,as'[i]? =some a->jo w m M a (vs.getD i undef)
def iQ(m:gU)(h:List aV):Mu:=λb=>∃k o l,h[k]? =some o/\o.live/\m k=some l/\l.blk=some b
def MX(X:Mu)(m:gU)(h:List aV):Mu:=λb=>X b\/iQ m h b
def xY(w:World)(m:gU)(M:Mu)(k:Nat):aV->Prop
  | .dead=>True
  | .box cs=>∃l b T vs,m k=some l/\l.blk=some b/\w.heap[b]? =some (.cells vs T (0,0))/\nW w m M cs vs∧∀i,i<vs.size->(vs.getD i undef).oneCell'=true
  | .arr z n f=>∃l,m k=some l/\l.z=z/\(l.n=n/\n<=l.cap)/\(l.blk=none->l.cap=0)∧∀b,l.blk=some b->l.base=some ⟨b,0,none⟩∧
      ∃ T vs,w.heap[b]? =some (.cells vs T (0,0))/\vs.size=l.cap*z/\(∀i,i<vs.size->(vs.getD i undef).oneCell'=true)∧
        ∀i,i<n->(f i).length=z∧∀(j:Nat) x,(f i)[j]? =some x->lu w M x (vs.getD (i*z+j) undef)
  | .ms es=>∃l b rows clock,m k=some l/\l.blk=some b/\w.heap[b]? =some (.map rows clock)/\rows.toList.map (λe=>(e.key,e.val))=es
  | .ra z n cs=>∃l b T vs,m k=some l/\l.z=z/\(l.n=n/\n<=l.cap)/\l.blk=some b/\l.base=some ⟨b,0,none⟩/\w.heap[b]? =some (.cells vs T (0,0))/\vs.size=l.cap*z/\(∀i,i<vs.size->(vs.getD i undef).oneCell'=true)/\cs.length=n*z∧∀(i:Nat) x,cs[i]? =some x->dP w m M x (vs.getD i undef)
structure fK(X:Mu)(w:World)(m:gU)(h:List aV):Prop where
  obj:∀k o,h[k]? =some o->xY w m (MX X m h) k o
  inj:∀k k' o o' l l' b,h[k]? =some o->h[k']? =some o'->o.live->o'.live->m k=some l->m k'=some l'->l.blk=some b->l'.blk=some b->k=k'
  used:∀k,h.length<=k->m k=none
  uO:∀b,iQ m h b→¬X b
  xlt:∀b,X b->b<w.heap.size
structure Later(w:World)(m:gU)(M:Mu)(w':World)(m':gU)(M':Mu):Prop where
  ext:∀k l,m k=some l->m' k=some l
  mu:∀b,b<w.heap.size→¬M b→¬M' b
  keep:∀b,b<w.heap.size→¬M b->w'.heap[b]? =w.heap[b]?
  size:w.heap.size<=w'.heap.size
section
variable {w w' w'':World} {m m' m'':gU} {M M' M'':Mu}
theorem Later.refl:Later w m M w m M:=⟨λ_ _ h=>h,λ_ _ h=>h,λ_ _ _=>rfl,gI _⟩
theorem Later.trans(h:Later w m M w' m' M')(k:Later w' m' M' w'' m'' M''):Later w m M w'' m'' M'':=
  ⟨λx l e=>k.ext x l (h.ext x l e),λb hb hM=>k.mu b (xU hb h.size) (h.mu b hb hM),
   λb hb hM=>(k.keep b (xU hb h.size) (h.mu b hb hM)).trans (h.keep b hb hM),Cb h.size k.size⟩
theorem apk{b off:Nat}(hk:w'.heap[b]? =w.heap[b]?):w'.cell? ⟨b,off,none⟩=w.cell? ⟨b,off,none⟩:=
  World.cell?_of_block hk
theorem lu.later(L:Later w m M w' m' M'){x:CV}{v:Value}(h:lu w M x v):lu w' M' x v:=by induction h with
  |val v=>exact .val v
  |e0 a=>exact .e0 a
  |qh z f a cap=>exact .qh z f a cap
  | rd z n f b off cap c hb hs hn hl hc h1 _ ih=>
    exact .rd z n f b off cap c (L.mu b hs hb) (xU hs L.size) hn hl
      (λj hj=>(apk (L.keep b hs hb)).trans (hc j hj)) h1 (λi j x hi hx=>ih i j x hi hx)
  |ls t xs v _ ih=>exact .ls t xs v ih
  |lY t xs v _ hn ih=>exact .lY t xs v ih hn
theorem dP.later(L:Later w m M w' m' M'){x:SC}{v:Value}(h:dP w m M x v):dP w' m' M' x v:=by cases h with
  |c h=>exact .c (h.later L)
  |rp cs b off c hb hs hc h=>exact .rp cs b off c (L.mu b hs hb) (xU hs L.size) (λj hj=>(apk (L.keep b hs hb)).trans (hc j hj)) (λj x hx=>(h j x hx).later L)
  |own k l hk=>exact .own k l (L.ext _ _ hk)
  |sl k lo len l a c hk h0 h1 h2 h3=>exact .sl k lo len l a c (L.ext _ _ hk) h0 h1 h2 h3
  |pb k off b l hk hb=>exact .pb k off b l (L.ext _ _ hk) hb
  |pe k i off b l hk hb hi=>exact .pe k i off b l (L.ext _ _ hk) hb hi
  |fn f caps vs hs h=>exact .fn f caps vs hs (λi k hi=>let⟨l,b,e,r⟩:=h i k hi;⟨l,b,L.ext _ _ e,r⟩)
  |mp k b l hk hb=>exact .mp k b l (L.ext _ _ hk) hb
  |fb f k off b l hk hb=>exact .fb f k off b l (L.ext _ _ hk) hb
  |bot v=>exact .bot v
theorem nW.later(L:Later w m M w' m' M'){cs:List SC}{vs:Array Value}(h:nW w m M cs vs):nW w' m' M' cs vs:=
  ⟨h.1,λi x hx=>(h.2 i x hx).later L⟩
theorem jo.later(L:Later w m M w' m' M'){a:AV}{v:Value}(h:jo w m M a v):jo w' m' M' a v:=by cases a with|s x=>exact dP.later L h|agg cs=>obtain⟨vs,e,hl⟩:=h;exact⟨vs,e,hl.later L⟩
theorem fu.later(L:Later w m M w' m' M'){s:SV}{v:Value}(h:fu w m M s v):fu w' m' M' s v:=by cases s with|one a=>exact jo.later L h|mW as'=>obtain⟨vs,e,hz,hl⟩:=h;exact⟨vs,e,hz,λi a ha=>(hl i a ha).later L⟩
end
def oF(w w':World):Prop:=w'.output=w.output/\(Dr->w.drawn<=w'.drawn)
theorem oF.same(w:World):oF w w:=⟨rfl,λ_=>gI _⟩
theorem oF.trans{a b c:World}(h:oF a b)(k:oF b c):oF a c:=⟨k.1.trans h.1,λd=>Cb (h.2 d) (k.2 d)⟩
structure Stp(X:Mu)(w:World)(m:gU)(h:List aV)(w':World)(m':gU)(h':List aV):Prop where
  rel:fK X w' m' h'
  later:Later w m (MX X m h) w' m' (MX X m' h')
  os:w'.os=w.os
  tape:w'.tape=w.tape
  output:oF w w'
  keep:∀b,b<w.heap.size→¬iQ m h b->w'.heap[b]? =w.heap[b]?
  mt:∀b,iQ m' h' b->iQ m h b\/w.heap.size<=b
  nw:∀k,h[k]? =some .dead->h'[k]? =some .dead->m k=none->m' k=none
theorem Stp.refl{X:Mu}{w:World}{m:gU}{h:List aV}(H:fK X w m h):Stp X w m h w m h:=
  ⟨H,Later.refl,rfl,rfl,oF.same _,λ_ _ _=>rfl,λ_ hb=> .inl hb,λ_ _ _ h=>h⟩
theorem lt_of_block{w:World}{b:Nat}{o:Obj}(h:w.heap[b]? =some o):b<w.heap.size:=by
  rcases mI b w.heap.size with h'|h'
  · exact h'
  · rw[V7 h']at h;cases h
theorem fK.change{X:Mu}{w w':World}{m m':gU}{h h':List aV}(H:fK X w m h)(ch:Nat->Prop)
    (hlen:h'.length=h.length) (hsame:∀k,¬ch k->h'[k]? =h[k]?)
    (hext:∀k l,m k=some l->m' k=some l) (hm:∀k,¬ch k->m' k=m k)
    (hnew:∀k,h.length<=k->m' k=none)
    (hos:w'.os=w.os) (Wp:w'.tape=w.tape) (hout:oF w w')
    (hsize:w.heap.size<=w'.heap.size)
    (kJ:∀k o l b,ch k->h'[k]? =some o->o.live->m' k=some l->l.blk=some b->iQ m h b\/w.heap.size<=b)
    (hkeep:∀b,b<w.heap.size->(w'.heap[b]? =w.heap[b]?)\/(iQ m h b∧∀k o l,¬ch k->h[k]? =some o->o.live->m k=some l->l.blk=some b->False))
    (hinj:∀k k' o o' l l' b,ch k->h'[k]? =some o->h'[k']? =some o'->o.live->o'.live->m' k=some l->m' k'=some l'->l.blk=some b->l'.blk=some b->k=k')
    (hnw:∀k,ch k->h'[k]? =some .dead->m k=none->m' k=none)
    (CF:Later w m (MX X m h) w' m' (MX X m' h')→∀k o,ch k->h'[k]? =some o->xY w' m' (MX X m' h') k o):
    Stp X w m h w' m' h':=by
  have Qz:∀b,iQ m' h' b->iQ m h b\/w.heap.size<=b:=by
    rintro b ⟨k,o,l,hk,hl,hmk,hb⟩;by_cases hc:ch k
    · exact kJ k o l b hc hk hl hmk hb
    · rw[hsame k hc]at hk;rw[hm k hc]at hmk;exact .inl ⟨k,o,l,hk,hl,hmk,hb⟩
  have hK:∀b,b<w.heap.size→¬iQ m h b->w'.heap[b]? =w.heap[b]? :=by
    intro b hb hM;rcases hkeep b hb with h1|⟨h1,_⟩
    · exact h1
    · exact absurd h1 hM
  have hL:Later w m (MX X m h) w' m' (MX X m' h'):=by
    refine⟨hext,λb hb hM hM'=> ?_,λb hb hM=>hK b hb (λh1=>hM (.inr h1)),hsize⟩;rcases hM' with h0|h0
    · exact hM (.inl h0)
    · rcases Qz b h0 with h1|h1
      · exact hM (.inr h1)
      · omega
  refine⟨⟨λk o hk=> ?_,λk k' o o' l l' b h1 h2 h3 h4 h5 h6 h7 h8=> ?_,λk hk=>hnew k ah,λb hb hX=> ?_,λb hX=>xU (H.xlt b hX) hsize⟩,hL,hos,Wp,hout,hK,Qz,λk _ h2 h3=>by by_cases hc:ch k;exact hnw k hc h2 h3;rw[hm k hc];exact h3⟩
  · by_cases hc:ch k
    · exact CF hL k o hc hk
    · have hk0:=hk;rw[hsame k hc]at hk;have ho:=H.obj k o hk;cases o with
      |dead=>trivial
      |box cs=>
        obtain⟨l,b,T,vs,e1,e2,e3,e4,e5⟩:=ho;refine⟨l,b,T,vs,hext _ _ e1,e2,?_,e4.later hL,e5⟩;rcases hkeep b (lt_of_block e3)with h1|⟨_,h1⟩
        · rw[h1];exact e3
        · exact(h1 k _ l hc hk trivial e1 e2).elim
      |arr z n f=>
        obtain⟨l,e1,e2,e3,e4,e5⟩:=ho;refine⟨l,hext _ _ e1,e2,e3,e4,λb hb=> ?_⟩;obtain⟨e6,T,vs,e7,e8,e9,e10⟩:=e5 b hb;refine⟨e6,T,vs,?_,e8,e9,λi hi=>⟨(e10 i hi).1,λj x hx=>((e10 i hi).2 j x hx).later hL⟩⟩;rcases hkeep b (lt_of_block e7)with h1|⟨_,h1⟩
        · rw[h1];exact e7
        · exact(h1 k _ l hc hk trivial e1 hb).elim
      |ms es=>
        obtain⟨l,b,rows,clock,e1,e2,e3,e4⟩:=ho;refine⟨l,b,rows,clock,hext _ _ e1,e2,?_,e4⟩;rcases hkeep b (lt_of_block e3)with h1|⟨_,h1⟩
        · rw[h1];exact e3
        · exact(h1 k _ l hc hk trivial e1 e2).elim
      |ra z n cs=>
        obtain⟨l,b,T,vs,e1,e2,e3,e4,e5,e6,e7,e8,e9,e10⟩:=ho;refine⟨l,b,T,vs,hext _ _ e1,e2,e3,e4,e5,?_,e7,e8,e9,λi x hx=>(e10 i x hx).later hL⟩;rcases hkeep b (lt_of_block e6)with h1|⟨_,h1⟩
        · rw[h1];exact e6
        · exact(h1 k _ l hc hk trivial e1 e4).elim
  · by_cases hc:ch k
    · exact hinj k k' o o' l l' b hc h1 h2 h3 h4 h5 h6 h7 h8
    · by_cases hc':ch k'
      · exact(hinj k' k o' o l' l b hc' h2 h1 h4 h3 h6 h5 h8 h7).symm
      · rw[hsame k hc]at h1;rw[hsame k' hc']at h2;rw[hm k hc]at h5;rw[hm k' hc']at h6;exact H.inj k k' o o' l l' b h1 h2 h3 h4 h5 h6 h7 h8
  · rcases Qz b hb with h1|h1
    · exact H.uO b h1 hX
    · have:=H.xlt b hX;omega
end Go.AM
namespace Go.AM
open Go Go.CP Go.RowKit
variable [Fuel]
def fQ(v:Value):SV:=.one (.s (.c (.val v)))
def Jo:Value->AV
  | .agg cs=> .agg (cs.toList.map λv=> .c (.val v))
  |v=> .s (.c (.val v))
structure St where
  σ:List (Nat×SV)
  h:List aV
def look:List (Nat×SV)->Nat->Option SV
  | [],_=>none
  |(i,s)::r,t=>bif Nat.beq i t then some s else look r t
def del:List (Nat×SV)->Nat->List (Nat×SV)
  | [],_=> []
  |(i,s)::r,t=>bif Nat.beq i t then del r t else(i,s)::del r t
def mP(σ:List (Nat×SV))(d:Option Nat)(s:SV):List (Nat×SV):=
  match d with
  |some t=>(t,s)::del σ t
  |none=>σ
def kg(σ:List (Nat×SV)):Operand->Option SV
  | .tmp t=>look σ t
  | .const v=>some (.one (Jo v))
  | .func f=>some (.one (.s (.fn f [])))
  | .global _=>none
def eD(h:List aV)(k:Nat):aV:=(h[k]?).getD .dead
def kT:AV->List SC
  | .s x=> [x]
  | .agg cs=>cs
def SC.scalar:SC->Bool
  | .c (.val v)=>v.oneCell'
  | .bot=>false
  |_=>true
def tK:List SC->Option (List CV)
  | []=>some []
  | .c x::r=>match tK r with
    |some xs=>some (x::xs)
    |none=>none
  |_::_=>none
def splice{α:Type}(cs:List α)(off:Nat)(xs:List α):List α:=cs.take off++(xs++cs.drop (off+xs.length))
def upd(f:Nat->List CV)(i:Nat)(c:List CV):Nat->List CV:=λj=>if j=i then c else f j
def app(n:Nat)(f g:Nat->List CV):Nat->List CV:=λi=>if i<n then f i else g (i-n)
def wo(lo n:Nat)(f g:Nat->List CV):Nat->List CV:=λi=>if lo<=i/\i<lo+n then g (i-lo)else f i
structure Eff where
  r:SV
  ws:List (Nat×aV):=[]
  bs:List Bool:=[]
  cs:List Prop:=[]
def zX(P:Program)(t:TypeId):Bool:=
  match P.underlying t with
  |some (.struct _)=>true
  |some (.array _ _)=>true
  |_=>false
def yh(P:Program)(T:TypeId)(cs:List SC)(off:Nat):Option AV:=
  match P.underlying T with
  |none=>none
  | some _=>
    bif zX P T then
      match P.info? T with
      |some i=>if off+i.size<=cs.length then some (.agg ((cs.drop off).take i.size))else none
      |none=>none
    else
      match cs[off]? with
      |some x=>some (.s x)
      |none=>none
def abM(P:Program)(T:TypeId)(get:Nat->aV)(p:SC):Option Eff:=
  match p with
  | .pb k off=>match get k with
    | .box cs=>match yh P T cs off with
      |some v=>some {r:=.one v}
      |none=>none
    |_=>none
  | .pe k i off=>match get k with
    | .arr _ _ f=>match yh P T ((f i).map .c) off with
      |some v=>some {r:=.one v}
      |none=>none
    |_=>none
  | .rp cs=>match yh P T (cs.map .c) 0 with
    |some v=>some {r:=.one v}
    |none=>none
  |_=>none
def Vr(P:Program)(T:TypeId)(get:Nat->aV)(p:SC)(v:AV):Option Eff:=
  match P.info? T with
  |none=>none
  | some i=>
    bif Nat.beq (kT v).length i.size&&(kT v).all SC.scalar then
      match p with
      | .pb k off=>match get k with
        | .box cs=>bif Nat.ble (off+i.size) cs.length then some {r:=fQ undef,ws:=[(k,.box (splice cs off (kT v)))]}else none
        |_=>none
      | .pe k j off=>match get k,tK (kT v)with
        | .arr z n f,some xs=>bif Nat.ble (off+i.size) z then some {r:=fQ undef,ws:=[(k,.arr z n (upd f j (splice (f j) off xs)))]}else none
        |_,_=>none
      |_=>none
    else none
def vw(get:Nat->aV):SC->SC
  | .own k=>match get k with
    | .arr _ n _=> .sl k 0 n
    |_=> .own k
  | .c (.ls t xs)=> .c (.rd (wd t) xs.length (fE t xs))
  |x=>x
def Mx(z:Nat):CV->Option (Nat×(Nat->List CV)×List Bool)
  | .rd z' n f=>bif Nat.beq z z' then some (n,f,[])else none
  | .e0=>some (0,λ_=> [],[])
  | .val (.slice none 0 _)=>some (0,λ_=> [],[])
  |_=>none
def acy:CV->Option (Nat×(Nat->List CV)×List Bool×List (Nat×aV))
  | .e0=>some (0,λ_=> [],[],[])
  | .val (.slice none 0 0)=>some (0,λ_=> [],[],[])
  |_=>none
def Ci(z:Nat)(get:Nat->aV):SC->Option (Nat×(Nat->List CV)×List Bool)
  | .sl k lo len=>match get k with
    | .arr z' n f=>bif Nat.beq z z' then some (len,λi=>f (lo+i),[decide (lo+len<=n)])else none
    |_=>none
  | .c x=>Mx z x
  |_=>none
def qC(z:Nat)(get:Nat->aV):SC->Option (Nat×(Nat->List CV)×List Bool)
  | .own k=>match get k with
    | .arr z' n f=>bif Nat.beq z z' then some (n,f,[])else none
    |_=>none
  | .c (.ls t xs)=>bif Nat.beq z (wd t)then some (xs.length,fE t xs,[])else none
  |x=>Ci z get x
def Bb(z:Nat)(get:Nat->aV):SC->Option (Nat×(Nat->List CV)×List Bool×List (Nat×aV))
  | .own k=>match get k with
    | .arr z' n f=>bif Nat.beq z z' then some (n,f,[],[(k,.dead)])else none
    |_=>none
  | .c x=>acy x
  |_=>none
def qO(P:Program)(t:TypeId):Option (TypeId×TypeInfo×Array Value):=
  match P.underlying t with
  | some (.slice e)=>match P.info? e with
    |some i=>match i.zero with
      |some z=>bif Nat.beq z.cells.size i.size&&(z.cells.all Value.oneCell')&&Nat.blt 0 i.size&&Nat.blt 0 i.bytes then some (e,i,z.cells)else none
      |none=>none
    |none=>none
  |_=>none
def O6(P:Program)(t:TypeId)(id:Nat)(get:Nat->aV)(s x:SC):Option Eff:=
  match qO P t with
  |none=>none
  | some (_,i,_)=>
    match Bb i.size get s,qC i.size get x with
    |some (n,f,c1,w1),some (k,g,c2)=>
      some {r:=.one (.s (.own id)),ws:=w1++ [(id,.arr i.size (n+k) (app n f g))],bs:=c1++(c2++ [decide ((n+k)*i.bytes<=140737488355328)])}
    |_,_=>none
def P5(P:Program)(t:TypeId)(get:Nat->aV)(k lo n1:Nat)(x:SC):Option Eff:=
  match qO P t with
  |none=>none
  | some (_,i,_)=>match qC i.size get x with
    |some (m,g,c2)=>match get k with
      | .arr z n f=>bif Nat.beq z i.size&&Nat.beq lo 0 then some {r:=.one (.s (.sl k 0 (n1+m))),ws:=[(k,.arr z n (wo n1 m f g))],bs:=c2++ [decide (n1+m<=n)]}else none
      |_=>none
    |none=>none
def Pj(P:Program)(t:TypeId)(id:Nat)(get:Nat->aV)(s x:SC):Option Eff:=
  match s with
  | .sl k lo n1=>P5 P t get k lo n1 x
  |s=>O6 P t id get s x
def abL(P:Program)(t:TypeId)(id:Nat)(n:Int):Option Eff:=
  match qO P t with
  |none=>none
  |some (_,i,z)=>
      some {r:=.one (.s (.own id)),ws:=[(id,.arr i.size n.toNat (λ_=>z.toList.map .val))],bs:=[decide (0<n/\n*i.bytes<=140737488355328)]}
def Py(P:Program)(t:TypeId)(get:Nat->aV)(s x:SC):Option Eff:=
  match qO P t with
  |none=>none
  | some (_,i,_)=>
    match s,qC i.size get x with
    | .sl k lo len,some (m,g,c2)=>match get k with
      | .arr z n f=>bif Nat.beq z i.size then some {r:=fQ (.int .i64 ((min m len:Nat):Int)),ws:=[(k,.arr z n (wo lo (min m len) f g))],bs:=c2++ [decide (lo+len<=n)]}else none
      |_=>none
    |_,_=>none
def abK(P:Program)(t:TypeId)(get:Nat->aV)(s x:SC):Option Eff:=Py P t get (vw get s) x
def Pk(P:Program)(t:TypeId)(get:Nat->aV)(s:SC):Option Eff:=
  match qO P t with
  |none=>none
  | some (_,i,z)=>
    match s with
    | .sl k lo len=>match get k with
      | .arr z' n f=>bif Nat.beq z' i.size then some {r:=.mW [],ws:=[(k,.arr z' n (wo lo len f (λ_=>z.toList.map .val)))],bs:=[decide (lo+len<=n)]}else none
      |_=>none
    |_=>none
def aa7(P:Program)(t:TypeId)(get:Nat->aV)(s:SC):Option Eff:=Pk P t get (vw get s)
def lenOf(x:SC):Option Nat:=
  match x with
  | .sl _ _ len=>some len
  | .c (.rd _ n _)=>some n
  | .c .e0=>some 0
  | .c (.val (.slice _ n _))=>some n
  |_=>none
def akd(l n len:Nat):Nat:=match l with
  |0=>n
  |_=>len
def asi:SC->Option Nat
  | .sl _ _ len=>some len
  | .c (.rd _ n _)=>some n
  |_=>none
def ajx(op:BinOp)(k:IntKind)(a b:Int):Option (Value×List Bool):=
  match op with
  | .add=>some (.int k (k.wrap (a+b)),[])
  | .sub=>some (.int k (k.wrap (a-b)),[])
  | .mul=>some (.int k (k.wrap (a*b)),[])
  | .quo=>some (.int k (k.wrap (a.tdiv b)),[decide (b≠0)])
  | .rem=>some (.int k (a.tmod b),[decide (b≠0)])
  | .and=>some (.int k (k.wrap ((BitVec.ofInt k.bits a&&&BitVec.ofInt k.bits b).toNat)),[])
  | .or=>some (.int k (k.wrap ((BitVec.ofInt k.bits a|||BitVec.ofInt k.bits b).toNat)),[])
  | .xor=>some (.int k (k.wrap ((BitVec.ofInt k.bits a^^^BitVec.ofInt k.bits b).toNat)),[])
  | .andNot=>some (.int k (k.wrap ((BitVec.ofInt k.bits a&&& ~~~ BitVec.ofInt k.bits b).toNat)),[])
  | .eql=>some (.bool (a==b),[])
  | .neq=>some (.bool (a !=b),[])
  | .lss=>some (.bool (decide (a<b)),[])
  | .leq=>some (.bool (decide (a<=b)),[])
  | .gtr=>some (.bool (decide (b<a)),[])
  | .geq=>some (.bool (decide (b<=a)),[])
  |_=>none
def aaS(op:BinOp)(k:IntKind)(a b:Int):Option (Value×List Bool):=
  match op with
  | .shl=>some (.int k (k.wrap (a*2^(min b.toNat k.bits))),[decide (0<=b)])
  | .shr=>some (.int k (a.fdiv (2^(min b.toNat k.bits))),[decide (0<=b)])
  |_=>none
def ajH(op:BinOp)(x y:ByteArray):Option (Value×List Bool):=
  match op with
  | .add=>some (.string (x++y),[decide (x.size+y.size<=9223372036854775807)])
  | .eql=>some (.bool (x.toList==y.toList),[])
  | .neq=>some (.bool (!(x.toList==y.toList)),[])
  | .lss=>some (.bool (Op.bytesLess x.toList y.toList),[])
  | .leq=>some (.bool (Op.bytesLess x.toList y.toList||x.toList==y.toList),[])
  | .gtr=>some (.bool (!(Op.bytesLess x.toList y.toList||x.toList==y.toList)),[])
  | .geq=>some (.bool (!(Op.bytesLess x.toList y.toList)),[])
  |_=>none
def abZ(P:Program)(op:BinOp)(t:TypeId)(x y:Value):Option (Value×List Bool):=
  match x,y with
  | .int k a,.int k' b=>
    match op with
    | .shl=>aaS .shl k a b
    | .shr=>aaS .shr k a b
    |_=>if k=k' then ajx op k a b else none
  | .string a,.string b=>ajH op a b
  | .bool a,.bool b=>
    match P.underlying t,op with
    |some .bool,.eql=>some (.bool (a==b),[])
    |some .bool,.neq=>some (.bool (!(a==b)),[])
    |_,_=>none
  | .slice none 0 0,.slice none 0 0=>
    match P.underlying t,op with
    |some (.slice _),.eql=>some (.bool true,[])
    |some (.slice _),.neq=>some (.bool false,[])
    |_,_=>none
  |_,_=>none
def Wn(P:Program)(t:TypeId)(x y:Value):Option Bool:=
  match P.underlying t,x,y with
  |some .bool,.bool a,.bool b=>some (a==b)
  |some (.int _),.int k a,.int k' b=>if k=k' then some (a==b)else none
  |some .string,.string a,.string b=>some (a.toList==b.toList)
  |_,_,_=>none
def cellV(xs:List SC)(i:Nat):Option Value:=
  match xs[i]? with
  |some (.c (.val v))=>some v
  |_=>none
def within(P:Program)(n off:Nat)(t:TypeId):Bool:=
  match P.info? t with
  |some i=>Nat.ble (off+i.size) n&&Nat.blt 0 i.size
  |none=>false
def leaves(P:Program):Nat->TypeId->Nat->Option (List (Nat×TypeId))
  |0,_,_=>none
  | d + 1,t,off=>
    match P.underlying t with
    | some (.struct fs)=>bif P.stoodInHeld t then none else
      fs.toList.foldr (λf acc=>match leaves P d f.type (off+f.offset),acc with
        |some l,some r=>bif f.name== "_" then none else bif within P (P.cellsOf t) f.offset f.type then some (l++r)else none
        |_,_=>none) (some [])
    |some (.array _ _)=>none
    |some _=>some [(off,t)]
    |none=>none
def yj(P:Program)(xs ys:List SC):List (Nat×TypeId)->Option Bool
  | []=>some true
  | (off,t)::r=>
    match cellV xs off,cellV ys off with
    |some x,some y=>match Wn P t x y,yj P xs ys r with
      |some a,some b=>some (a&&b)
      |_,_=>none
    |_,_=>none
def as8:SC->Bool
  | .pb _ _=>true
  | .pe _ _ _=>true
  | .rp _=>true
  |_=>false
def ajZ(P:Program)(op:BinOp)(t:TypeId)(x y:SV):Option Eff:=
  match x,y with
  | .one (.s (.c (.val a))),.one (.s (.c (.val b)))=>match abZ P op t a b with
    |some (v,c)=>some {r:=fQ v,bs:=c}
    |none=>none
  | .one (.s (.c (.ls _ (_::_)))),.one (.s (.c (.val (.slice none 0 0))))=>match P.underlying t,op with
    |some (.slice _),.eql=>some {r:=fQ (.bool false)}
    |some (.slice _),.neq=>some {r:=fQ (.bool true)}
    |_,_=>none
  | .one (.agg xs),.one (.agg ys)=>
    bif P.eqGuardType P.depth t|| !(zX P t&&(P.info? t).isSome&&Nat.beq xs.length (P.cellsOf t)&&Nat.beq ys.length (P.cellsOf t))then none else
    match leaves P 100 t 0 with
    |none=>none
    |some ls=>match yj P xs ys ls,op with
      |some b,.eql=>some {r:=fQ (.bool b)}
      |some b,.neq=>some {r:=fQ (.bool (!b))}
      |_,_=>none
  |_,_=>none
def akl(op:UnOp)(x:Value):Option Value:=
  match op,x with
  | .not,.bool b=>some (.bool (!b))
  | .neg,.int k n=>some (.int k (k.wrap (0-n)))
  |_,_=>none
def placeOf(P:Program)(fs:Array Field)(i:Nat):Option (Nat×Nat):=
  match fs[i]? with
  |some f=>match P.info? f.type with
    |some j=>some (f.offset,j.size)
    |none=>none
  |none=>none
def vK(place:Nat->Option (Nat×Nat))(cells:List SC):List (Nat×AV)->Option (List SC)
  | []=>some cells
  | (i,v)::r=>match place i with
    |none=>none
    |some (off,size)=>
      bif Nat.beq (kT v).length size&&Nat.ble (off+size) cells.length&&(kT v).all SC.scalar then vK place (splice cells off (kT v)) r else none
def partsOf(ρ:Operand->Option SV):List (Nat×Operand)->Option (List (Nat×AV))
  | []=>some []
  | (i,x)::r=>match ρ x,partsOf ρ r with
    |some (.one v),some l=>some ((i,v)::l)
    |_,_=>none
def vals(cs:List Value):List SC:=cs.map λv=> .c (.val v)
def aiy(P:Program)(t:TypeId)(parts:List (Nat×AV)):Option Eff:=
  match P.info? t,P.underlying t with
  | some i,some (.struct fs)=>
    match i.zero with
    | some (.agg z)=>
      bif z.all Value.oneCell'&&fs.all (λf=>(P.info? f.type).isSome)then
        match vK (placeOf P fs) (vals z.toList) parts with
        |some cs=>some {r:=.one (.agg cs)}
        |none=>none
      else none
    |_=>none
  | some i,some (.array _ e)=>
    match i.zero,P.info? e with
    | some (.agg z),some j=>
      bif z.all Value.oneCell' then
        match vK (λk=>some (k*j.size,j.size)) (vals z.toList) parts with
        |some cs=>some {r:=.one (.agg cs)}
        |none=>none
      else none
    |_,_=>none
  |_,_=>none
def rep(z:List SC):Nat->List SC
  |0=> []
  |n+1=>z++rep z n
def OG(P:Program)(t:TypeId)(id len:Nat)(parts:List (Nat×AV)):Option Eff:=
  match qO P t with
  |none=>none
  | some (_,i,z)=>
    bif Nat.ble (len*i.size) 16777216 then
      match vK (λk=>some (k*i.size,i.size)) (rep (vals z.toList) len) parts with
      |some cs=>match tK cs with
        |some xs=>some {r:=.one (.s (.own id)),ws:=[(id,.arr i.size len (λj=>(xs.drop (j*i.size)).take i.size))]}
        |none=>none
      |none=>none
    else none
def Jf:Nat->List (Nat×AV)->Option (List Nat)
  |_,[]=>some []
  |j,(i,.s (.own k))::r=>bif Nat.beq i j then(match Jf (j+1) r with
    |some l=>some (k::l)
    |none=>none)else none
  |_,_=>none
def E9:aV->CV
  | .arr z n f=> .rd z n f
  |_=> .e0
def Je:aV->Bool
  | .arr _ _ _=>true
  |_=>false
def Bf(ks:List Nat):List (Nat×aV):=ks.map λk=>(k,.dead)
def Wo(P:Program)(t:TypeId)(id:Nat)(get:Nat->aV)(len:Nat)(ks:List Nat):Option Eff:=
  match qO P t with
  |none=>none
  | some (_,i,_)=>
    bif Nat.beq i.size 1&&Nat.beq ks.length len&&Nat.ble (len*i.size) 16777216&&ks.all (λk=>Je (get k))then
      some {r:=.one (.s (.own id)),ws:=Bf ks++ [(id,.arr i.size len (λj=>((ks.map λk=>E9 (get k)).drop (j*i.size)).take i.size))]}
    else none
def P7(P:Program)(t:TypeId)(id:Nat)(get:Nat->aV)(len:Nat)(l:List (Nat×AV)):Option Eff:=
  match l,Jf 0 l with
  |_::_,some ks=>Wo P t id get len ks
  |_,_=>OG P t id len l
def abN(P :Program)(t:TypeId)(id:Nat)(l c:Int):Option Eff:=
  match qO P t with
  |none=>none
  | some (_,i,z)=>
    some { r:= .one (.s (.own id)),ws:= [(id,.arr i.size l.toNat (λ_=>z.toList.map .val))],
           bs:=[decide (0<=l/\l<=c/\c<=9223372036854775807/\c*i.bytes<=140737488355328)]}
def AU(ρ:Operand->Option SV):Option Operand->Option (Option Int)
  |none=>some none
  |some x=>match ρ x with
    |some (.one (.s (.c (.val (.int _ n)))))=>some (some n)
    |_=>none
def Pm(P : Program)(t:TypeId)(get:Nat->aV)(x:SC)(lo hi mx:Option Int):Option Eff:=
  match P.underlying t with
  | some (.slice e)=>
    match P.info? e with
    |none=>none
    |some ie=>
    match mx with
    | some m=>match lo,hi,lenOf x with
      |none,some h,some _=>bif(h==0)&&(m==0)then some {r:=.one (.s (.c .e0))}else none
      |some a,some b,some _=>match asi x with
        |some n=>some {r:=.one (.s .bot),bs:=[decide (0<=a/\a<=b/\b<=m/\m<=n)]}
        |none=>none
      |_,_,_=>none
    | none=>
      match x with
      | .sl k l len=>match get k with
        | .arr z n _=>bif Nat.beq z ie.size then
            let b:Int:=match hi with|some h=>h|none=>(len:Int)
            match lo with
            |none=>some {r:=.one (.s (.sl k l b.toNat)),bs:=[decide (0<=b/\b<=len)]}
            |some a=>some {r:=.one (.s (.sl k (l+a.toNat) (b.toNat-a.toNat))),bs:=[decide (0<=a/\a<=b/\b<=((akd l n len:Nat):Int))]}
          else none
        |_=>none
      | .c (.rd z n f)=>
        bif Nat.beq z ie.size then
        let b:Int:=match hi with|some h=>h|none=>(n:Int)
        match lo with
        |none=>some {r:=.one (.s (.c (.rd z b.toNat f))),bs:=[decide (0<=b/\b<=n)]}
        |some a=>some {r:=.one (.s (.c (.rd z (b.toNat-a.toNat) (λi=>f (a.toNat+i))))),bs:=[decide (0<=a/\a<=b/\b<=n)]}
        else none
      | .c (.val v)=>match v,lo,hi with
        | .slice none 0 0,none,some b=>bif decide (b=0)then some {r:=fQ (.slice none 0 0)}else none
        |_,_,_=>none
      |_=>none
  | some .string=>
    match x,mx with
    | .c (.val (.string s)),none=>
      let b:Int:=match hi with|some h=>h|none=>(s.size:Int)
      let a:Int:=match lo with|some h=>h|none=>0
      some {r:=fQ (.string (s.extract a.toNat b.toNat)),bs:=[decide (0<=a/\a<=b/\b<=s.size)]}
    |_,_=>none
  |_=>none
def abb(P:Program)(t:TypeId)(get:Nat->aV)(x:SC)(lo hi mx:Option Int):Option Eff:=Pm P t get (vw get x) lo hi mx
def Pz(P:Program)(s:TypeId)(f:Nat):Option (Nat×TypeId):=
  match P.underlying s with
  | some (.struct fs)=>match fs[f]? with
    |some fl=>match P.info? fl.type with
      |some i=>bif Nat.beq i.size 0 then none else some (fl.offset,fl.type)
      |none=>none
    |none=>none
  |_=>none
def agQ(P:Program)(s:TypeId)(x:SC)(f:Nat):Option Eff:=
  match Pz P s f with
  |none=>none
  |some (o,_)=>match x with
    | .pb k off=>some {r:=.one (.s (.pb k (off+o)))}
    | .pe k i off=>some {r:=.one (.s (.pe k i (off+o)))}
    | .rp cs=>some {r:=.one (.s (.rp (cs.drop o)))}
    |_=>none
def OH(P:Program)(t:TypeId)(get:Nat->aV)(x:SC)(i:Int):Option Eff:=
  match P.underlying t with
  | some (.slice e)=>match P.info? e with
    |none=>none
    | some ie=>match x with
      | .sl k lo len=>match get k with
        | .arr z n _=>bif Nat.beq z ie.size then some {r:=.one (.s (.pe k (lo+i.toNat) 0)),bs:=[decide (0<=i/\i<len),decide (lo+len<=n)]}else none
        |_=>none
      | .c (.rd z n f)=>bif Nat.beq z ie.size then some {r:=.one (.s (.rp (f i.toNat))),bs:=[decide (0<=i/\i<n)]}else none
      |_=>none
  | some (.array len e)=>match P.info? e with
    |none=>none
    |some ie=>match x with
      | .pb k off=>some {r:=.one (.s (.pb k (off+i.toNat*ie.size))),bs:=[decide (0<=i/\i<len)]}
      | .pe k j off=>some {r:=.one (.s (.pe k j (off+i.toNat*ie.size))),bs:=[decide (0<=i/\i<len)]}
      | .rp cs=>some {r:=.one (.s (.rp (cs.drop (i.toNat*ie.size)))),bs:=[decide (0<=i/\i<len)]}
      |_=>none
  |_=>none
def Ux(P:Program)(t0:TypeId)(get:Nat->aV)(x:SC)(i:Int):Option Eff:=
  match x with
  | .own k=>match P.underlying t0 with
    |some (.slice e)=>match P.info? e,get k with
      |some ie,.arr z n _=>bif Nat.beq z ie.size then some {r:=.one (.s (.pe k i.toNat 0)),bs:=[decide (0<=i/\i<n)]}else none
      |_,_=>none
    |_=>none
  | .c (.ls t xs)=>OH P t0 get (.c (.rd (wd t) xs.length (fE t xs))) i
  |x=>OH P t0 get x i
def acL:List Value->Option Value
  | []=>none
  | .int k x::r=>r.foldl (λacc v=>match acc,v with
    |some (.int k x),.int _ y=>some (.int k (if y<x then y else x))
    |_,_=>none) (some (.int k x))
  |_=>none
def acK:List Value->Option Value
  | []=>none
  | .int k x::r=>r.foldl (λacc v=>match acc,v with
    |some (.int k x),.int _ y=>some (.int k (if x<y then y else x))
    |_,_=>none) (some (.int k x))
  |_=>none
def BU(ρ:Operand->Option SV):List Operand->Option (List Value)
  | []=>some []
  |x::r=>match ρ x,BU ρ r with
    |some (.one (.s (.c (.val v)))),some l=>some (v::l)
    |_,_=>none
def abY:SV->Option Nat
  | .one (.s (.c (.val (.string s))))=>some s.size
  |_=>none
def ab8(P:Program)(get:Nat->aV)(t:TypeId)(x:SV):Option Eff:=
  match P.underlying t with
  |some .string=>match abY x with
    |some n=>some {r:=fQ (.int .i64 (n:Int))}
    |none=>none
  | some (.slice _)=>match x with
    | .one (.s y)=>match lenOf (vw get y)with
      |some n=>some {r:=fQ (.int .i64 (n:Int))}
      |none=>none
    |_=>none
  |some (.array n _)=>some {r:=fQ (.int .i64 (n:Int))}
  |_=>none
def I4(P:Program)(id:Nat)(get:Nat->aV)(ρ:Operand->Option SV)(b:Builtin)(args:List Operand)(ts:List TypeId):Option Eff:=
  match b,args,ts with
  | .len,[x],t::_=>match ρ x with
    |some v=>ab8 P get t v
    |none=>none
  | .append,[s,x],[t,u]=>match ρ s,ρ x,P.underlying u with
    |some (.one (.s s)),some (.one (.s x)),some (.slice _)=>Pj P t id get s x
    |some (.one (.s (.c (.val (.slice none 0 0))))),some (.one (.s (.c (.val (.int _ n))))),some (.int _)=>abL P t id n
    |_,_,_=>none
  | .copy,[s,x],t::_=>match ρ s,ρ x with
    |some (.one (.s s)),some (.one (.s x))=>abK P t get s x
    |_,_=>none
  | .clear,[s],t::_=>match ρ s with
    |some (.one (.s s))=>aa7 P t get s
    |_=>none
  | .cap,[x],t::_=>match ρ x,P.underlying t with
    |some (.one (.s (.c (.val (.slice none 0 0))))),some (.slice _)=>some {r:=fQ (.int .i64 0)}
    |_,_=>none
  | .min,args,_=>match BU ρ args with
    |some vs=>match acL vs with
      |some v=>some {r:=fQ v}
      |none=>none
    |none=>none
  | .max,args,_=>match BU ρ args with
    |some vs=>match acK vs with
      |some v=>some {r:=fQ v}
      |none=>none
    |none=>none
  |_,_,_=>none
def Jc(ρ:Operand->Option SV):List Operand->Option (List Nat)
  | []=>some []
  |x::r=>match ρ x,Jc ρ r with
    |some (.one (.s (.pb k 0))),some l=>some (k::l)
    |_,_=>none
def acI:List CV->Bool
  | [.val (.int .u8 _)]=>true
  |_=>false
def u8v:List CV->UInt8
  | [.val (.int .u8 n)]=>UInt8.ofNat n.toNat
  |_=>0
def VQ(n:Nat)(f:Nat->List CV):ByteArray:=(List.range n).foldl (λr i=>r.push (u8v (f i))) ByteArray.empty
def ara(P:Program)(e:TypeId)(o:aV):Option Eff:=
  match o with
  | .arr z n f=>match P.underlying e with
    |some (.int .u8)=>bif Nat.beq z 1 then some {r:=fQ (.string (VQ n f)),bs:=[(List.range n).all λi=>acI (f i)]}else none
    |_=>none
  |_=>none
def evalOp(P:Program)(id:Nat)(ρ:Operand->Option SV)(get:Nat->aV):Op->Option Eff
  | .move x=>match ρ x with
    |some v=>some {r:=v}
    |none=>none
  | .assign x=>match ρ x with
    |some v=>some {r:=v}
    |none=>none
  | .pick c a b=>match ρ c with
    |some (.one (.s (.c (.val (.bool true)))))=>match ρ a with
      |some v=>some {r:=v}
      |none=>none
    |some (.one (.s (.c (.val (.bool false)))))=>match ρ b with
      |some v=>some {r:=v}
      |none=>none
    |_=>none
  | .alloc T=>match P.info? T with
    |some i=>match i.zero with
      |some z=>bif z.cells.all Value.oneCell' then some {r:=.one (.s (.pb id 0)),ws:=[(id,.box (vals z.cells.toList))]}else none
      |none=>none
    |none=>none
  | .box _ x=>match ρ x with
    |some (.one v)=>bif(kT v).all SC.scalar then some {r:=.one (.s (.pb id 0)),ws:=[(id,.box (kT v))]}else none
    |_=>none
  | .build t ps=>match partsOf ρ ps.toList with
    |some l=>aiy P t l
    |none=>none
  | .buildSlice t n ps=>match partsOf ρ ps.toList with
    |some l=>P7 P t id get n l
    |none=>none
  | .load T a=>match ρ a with
    |some (.one (.s p))=>abM P T get p
    |_=>none
  | .store T a v=>match ρ a,ρ v with
    |some (.one (.s p)),some (.one v)=>Vr P T get p v
    |_,_=>none
  | .nilCheck x=>match ρ x with
    |some (.one (.s p))=>bif as8 p then some {r:=.one (.s p)}else none
    |_=>none
  | .binOp op t x y _=>match ρ x,ρ y with
    |some x,some y=>ajZ P op t x y
    |_,_=>none
  | .unOp op _ x=>match ρ x with
    |some (.one (.s (.c (.val v))))=>match akl op v with
      |some u=>some {r:=fQ u}
      |none=>none
    |_=>none
  | .convert s d x=>match P.underlying s,P.underlying d,ρ x with
    |some (.int _),some (.int k),some (.one (.s (.c (.val (.int _ n)))))=>some {r:=fQ (.int k (k.wrap n))}
    |some .string,some .string,some (.one (.s (.c (.val (.string b)))))=>some {r:=fQ (.string b)}
    |some (.slice e),some .string,some (.one (.s (.own k)))=>ara P e (get k)
    |_,_,_=>none
  | .makeFunc fn first caps=>match fn,Jc ρ caps.toList with
    | .func f,some ks=>bif Nat.beq first.size 0 then some {r:=.one (.s (.fn f ks))}else none
    |_,_=>none
  | .makeSlice t l c=>match ρ l,ρ c with
    |some (.one (.s (.c (.val (.int _ l))))),some (.one (.s (.c (.val (.int _ c)))))=>abN P t id l c
    |_,_=>none
  | .slice t x lo hi mx=>match ρ x,AU ρ lo,AU ρ hi,AU ρ mx with
    |some (.one (.s x)),some lo,some hi,some mx=>abb P t get x lo hi mx
    |_,_,_,_=>none
  | .fieldAddr s x f=>match ρ x with
    |some (.one (.s p))=>agQ P s p f
    |_=>none
  | .field s x f=>match ρ x,Pz P s f with
    |some (.one (.agg cs)),some (o,t)=>match yh P t cs o with
      |some v=>some {r:=.one v}
      |none=>none
    |_,_=>none
  | .indexAddr t x i=>match ρ x,ρ i with
    |some (.one (.s p)),some (.one (.s (.c (.val (.int _ n)))))=>Ux P t get p n
    |_,_=>none
  | .index t x i=>match P.underlying t,ρ x,ρ i with
    |some .string,some (.one (.s (.c (.val (.string s))))),some (.one (.s (.c (.val (.int _ n)))))=>some {r:=fQ (.int .u8 (((s.data.toList.getD n.toNat 0).toNat:Nat):Int)),bs:=[decide (0<=n/\n<s.size)]}
    |_,_,_=>none
  | .extract x i=>match ρ x with
    |some (.mW vs)=>match vs[i]? with
      |some v=>some {r:=.one v}
      |none=>none
    |_=>none
  | .call c=>match c.callee with
    | .builtin b=>I4 P id get ρ b c.args.toList c.argTypes.toList
    |_=>none
  |_=>none
section
variable {k b z n i:Nat}{α:Type}
def eY(h:List aV):List (Nat×aV)->List aV
 | []=>h
 |(k,o)::r=>eY (h.set k o) r
theorem addr_add(b o n:Nat):(⟨b,o,none⟩:Addr).add n=⟨b,o+n,none⟩:=by unfold Addr.add;split<;>simp_all
def Gd(w:World)(m:gU)(M:Mu)(b off:Nat)(cs:List SC):Prop:=
 ∀(j:Nat) x,cs[j]? =some x→∃u,w.cell? ⟨b,off+j,none⟩=some u/\dP w m M x u
theorem Gd.drop{w:World}{m:gU}{M:Mu}{b off:Nat}{cs:List SC}(h:Gd w m M b off cs)(n:Nat):Gd w m M b (off+n) (cs.drop n):=by intro j x hx;rw[yL]at hx;obtain⟨u,hu,hs⟩:=h _ _ hx;exact⟨u,by rw[<-hu,wM],hs⟩
section
variable {P:Program} {w:World} {m:gU} {M:Mu}
theorem aDK{b off n:Nat}{cs:List SC}(h:Gd w m M b off cs)(hn:n<=cs.length):
  ∃vs:Array Value,(loadCells ⟨b,off,none⟩ n).run P w=.ok vs w/\nW w m M (cs.take n) vs:=by
 have hu:∀j,j<n→∃u,w.cell? ⟨b,off+j,none⟩=some u∧∀x,cs[j]? =some x->dP w m M x u:=by intro j hj;obtain⟨u,hu,hs⟩:=h j cs[j] (jN ah);exact⟨u,hu,λx hx=>by rw[jN ah]at hx;cases hx;exact hs⟩
 let f:Nat->Value:=λj=>(w.cell? ⟨b,off+j,none⟩).getD undef
 have hf:∀j,j<n->w.cell? ((⟨b,off,none⟩:Addr).add j)=some (f j):=by intro j hj;obtain⟨u,hu,_⟩:=hu j hj;rw[addr_add];simp[f,hu]
 refine⟨_,run_loadCells w _ n f hf,ay,λi x hx=> ?_⟩;have hi:i<n:=by
  rcases mI i n with h'|h'
  .exact h'
  .rw[tu,cZ ah]at hx;cases hx
 obtain⟨u,hu,hs⟩:=hu i hi;rw[tu,bU hi]at hx;have:(((List.range n).map f).toArray.getD i undef)=u:=by simp[Array.getD,hi,f,hu]
 rw[this];exact hs x hx
theorem U7{T:TypeId}{b off o:Nat}{cs:List SC}{v:AV}(h:Gd w m M b off cs)(hl:yh P T cs o=some v):
  ∃u,(loadVar T ⟨b,off+o,none⟩).run P w=.ok u w/\jo w m M v u:=by
 unfold yh at hl;rcases hu:P.underlying T with _|d;rw[hu]at hl;cases hl;rw[hu]at hl;simp only at hl;cases hag:zX P T with
 |true=>
  rw[hag]at hl;rcases hi:P.info? T with _|i;rw[hi]at hl;simp at hl;rw[hi]at hl;simp only[aY]at hl;split at hl
  .rename_i hle;cases hl;obtain⟨vs,hr,hs⟩:=aDK (P:=P) (n:=i.size) (h.drop o) ay;refine⟨.agg vs,?_,vs,rfl,hs⟩;have hagg:(isAgg T).run P w=.ok true w:=(by unfold zX at hag;rw[hu]at hag;unfold isAgg;simp only[Sem.run_bind,run_underlying hu,Result.andThen_ok];cases d<;>simp_all);simp only[loadVar,Sem.run_bind,hagg,Result.andThen_ok,l7,sizeOf,typeInfo,run_program,hi,Sem.run_pure,hr]
  .cases hl
 |false=>
  rw[hag]at hl;simp only[aZ]at hl;rcases hx:cs[o]? with _|x;rw[hx]at hl;cases hl;rw[hx]at hl;cases hl;obtain⟨u,hu',hs⟩:=h o x hx;refine⟨u,?_,hs⟩;have hagg:(isAgg T).run P w=.ok false w:=by unfold zX at hag;rw[hu]at hag;unfold isAgg;simp only[Sem.run_bind,run_underlying hu,Result.andThen_ok];cases d<;>simp_all
  simp only[loadVar,Sem.run_bind,hagg,Result.andThen_ok,nD,mJ,run_load,hu']
end
section
variable {P:Program} {X:Mu} {w:World} {m:gU} {h:List aV}
theorem oP{o:aV}(e:eD h k=o)(ho:o.live):h[k]? =some o:=by unfold eD at e;rcases hk:h[k]? with _|x;rw[hk]at e;subst e;exact ho.elim;rw[hk]at e;simp at e;rw[e]
theorem aph(H:fK X w m h){cs:List SC}(e:eD h k=.box cs){l:Loc}(hk:m k=some l)(hb:l.blk=some b):
  Gd w m (MX X m h) b 0 cs:=by
 obtain⟨l',b',T,vs,e1,e2,e3,e4,_⟩:=H.obj k _ (oP e trivial);rw[hk]at e1;cases e1;rw[hb]at e2;cases e2;intro j x hx;have hj:j<cs.length:=by
  rcases mI j cs.length with h'|h'
  .exact h'
  .rw[wK h']at hx;cases hx
 refine⟨vs.getD j undef,?_,e4.2 j x hx⟩;rw[cell_of_row w b _ vs T _ e3];have:j<vs.size:=by rw[e4.1];exact hj
 simp[Array.getD,this]
theorem Wl(H:fK X w m h){f:Nat->List CV}(e:eD h k=.arr z n f){l:Loc}(hk:m k=some l):l.n=n:=by obtain⟨l',e1,_,e3,_⟩:=H.obj k _ (oP e trivial);rw[hk]at e1;cases e1;exact e3.1
theorem dP.vw(H:fK X w m h){get:Nat->aV}(hget:∀k,(get k).live->eD h k=get k){x:SC}{v:Value}(hs:dP w m (MX X m h) x v):dP w m (MX X m h) (Go.AM.vw get x) v:=by cases x with
 |own k=>simp only[Go.AM.vw];cases hg:get k with
  |arr z n f=>have hg':=hget k (by rw[hg];trivial);rw[hg]at hg';obtain⟨l',e1,_,e3,e4,e5⟩:=H.obj k _ (oP hg' trivial);cases hs with|own _ l hk=>rw[hk]at e1;cases e1;rw[<-e3.1];rw[<-e3.1]at e3;refine .sl k 0 l'.n l' _ _ hk (λ_=>⟨rfl,rfl⟩) (λhne=> ?_) e3.2 ah;rcases hb:l'.blk with _|b;have:=e4 hb;omega;exact⟨b,rfl,by rw[(e5 b hb).1,abC]⟩
  |box cs=>exact hs
  |ra z1 n1 cs1=>exact hs
  |ms es1=>exact hs
  |dead=>exact hs
 |c y=>cases y with
  |ls t xs=>cases hs with|c h=>cases h with|ls _ _ _ h=>exact .c h
  |_=>exact hs
 |_=>exact hs
theorem aIP(H:fK X w m h){f:Nat->List CV}(e:eD h k=.arr z n f){l:Loc}(hk:m k=some l)(hb:l.blk=some b)(hi:i<n):
  Gd w m (MX X m h) b (i*l.z) ((f i).map .c):=by
 obtain⟨l',e1,e2,e3,_,e5⟩:=H.obj k _ (oP e trivial);rw[hk]at e1;cases e1;obtain⟨e6,T,vs,e7,e8,_,e10⟩:=e5 b hb;obtain⟨hlen,hc⟩:=e10 i hi;intro j x hx;rw[mG]at hx;rcases hy:(f i)[j]? with _|y;rw[hy]at hx;cases hx;rw[hy]at hx;cases hx;have hj:j<z:=by
  rw[<-hlen];rcases mI j (f i).length with h'|h'
  .exact h'
  .rw[wK h']at hy;cases hy
 refine⟨vs.getD (i*z+j) undef,?_,.c (hc j y hy)⟩;rw[e2,cell_of_row w b _ vs T _ e7];have h1:i*z+z<=l.cap*z:=by rw[<-pF];exact jU _ ah
 have:i*z+j<vs.size:=ah
 simp[Array.getD,this]
theorem aKh{cs:List CV}{b off:Nat}{M:Mu}{v:Value}(hs:dP w m M (.rp cs) v):∃b off,v=.pointer (some ⟨b,off,none⟩)/\Gd w m M b off (cs.map .c):=by cases hs with
 |rp _ b off c hb hs hc h=>
  refine⟨b,off,rfl,λj x hx=> ?_⟩;rw[mG]at hx;rcases hy:cs[j]? with _|y;rw[hy]at hx;cases hx;rw[hy]at hx;cases hx;have hj:j<cs.length:=by
   rcases mI j cs.length with h'|h'
   .exact h'
   .rw[wK h']at hy;cases hy
  exact⟨c j,hc j hj,.c (h j y hy)⟩
theorem aIp(H:fK X w m h){T:TypeId}{p:SC}{v:Value}{bK:Eff}(hp:dP w m (MX X m h) p v)(he:abM P T (eD h) p=some bK):
  ∃u,(Instr.loadAt T v).run P w=.ok u w/\bK.ws=[]/\fu w m (MX X m h) bK.r u:=by
 unfold abM at he;cases p with
 |pb k off=>simp only at he;cases hg:eD h k with
  |box cs=>rw[hg]at he;simp only at he;rcases hl:yh P T cs off with _|a;rw[hl]at he;cases he;rw[hl]at he;cases he;cases hp with|pb _ _ b l hk hb=>obtain⟨u,hr,hs⟩:=U7 (P:=P) (aph H hg hk hb) hl;refine⟨u,?_,rfl,hs⟩;rw[nL]at hr;simp only[Instr.loadAt,Instr.sureAddr,Sem.run_bind,Sem.run_pure,Result.andThen_ok,hr]
  |arr z n f=>rw[hg]at he;cases he
  |ra z1 n1 cs1=>rw[hg]at he;cases he
  |ms es1=>rw[hg]at he;cases he
  |dead=>rw[hg]at he;cases he
 |pe k i off=>simp only at he;cases hg:eD h k with
  |arr z n f=>rw[hg]at he;simp only at he;rcases hl:yh P T ((f i).map .c) off with _|a;rw[hl]at he;cases he;rw[hl]at he;cases he;cases hp with|pe _ _ _ b l hk hb hi=>rw[Wl H hg hk]at hi;obtain⟨u,hr,hs⟩:=U7 (P:=P) (aIP H hg hk hb hi) hl;refine⟨u,?_,rfl,hs⟩;simp only[Instr.loadAt,Instr.sureAddr,Sem.run_bind,Sem.run_pure,Result.andThen_ok,hr]
  |box cs=>rw[hg]at he;cases he
  |ra z1 n1 cs1=>rw[hg]at he;cases he
  |ms es1=>rw[hg]at he;cases he
  |dead=>rw[hg]at he;cases he
 |rp cs=>simp only at he;rcases hl:yh P T (cs.map .c) 0 with _|a;rw[hl]at he;cases he;rw[hl]at he;cases he;obtain⟨b,off,rfl,hcells⟩:=aKh (b:=0) (off:=0) hp;obtain⟨u,hr,hs⟩:=U7 (P:=P) hcells hl;refine⟨u,?_,rfl,hs⟩;simp only[Instr.loadAt,Instr.sureAddr,Sem.run_bind,Sem.run_pure,Result.andThen_ok];exact hr
 |c x=>cases he
 |own k=>cases he
 |sl k lo len=>cases he
 |fn f caps=>cases he
 |mp k=>cases he
 |fb f k off=>cases he
 |bot=>cases he
theorem abG(H:fK X w m h){o:aV}{l:Loc}(hk:h[k]? =some o)(ho:o.live)(hm:m k=some l)(hb:l.blk=some b):b<w.heap.size:=by have:=H.obj k o hk;cases o with
 |dead=>exact ho.elim
 |box cs=>obtain⟨l',b',T,vs,e1,e2,e3,_⟩:=this;rw[hm]at e1;cases e1;rw[hb]at e2;cases e2;exact lt_of_block e3
 |arr z n f=>obtain⟨l',e1,_,_,_,e5⟩:=this;rw[hm]at e1;cases e1;obtain⟨_,T,vs,e7,_⟩:=e5 b hb;exact lt_of_block e7
 |ms es=>obtain⟨l',b',rows,clock,e1,e2,e3,_⟩:=this;rw[hm]at e1;cases e1;rw[hb]at e2;cases e2;exact lt_of_block e3
 |ra z n cs=>obtain⟨l',b',T,vs,e1,_,_,e2,_,e3,_⟩:=this;rw[hm]at e1;cases e1;rw[hb]at e2;cases e2;exact lt_of_block e3
def mU(m:gU)(id:Nat)(l:Loc):gU:=λk=>if k=id then some l else m k
def sO(h:List aV):Option Nat->List aV
 |some k=>h.set k .dead
 |none=>h
theorem Ul(h:List aV)(kl:Option Nat):(sO h kl).length=h.length:=by cases kl<;>simp[sO]
theorem iI{l:List α}{x:α}(h:l[i]? =some x):i<l.length:=by
 rcases mI i l.length with h'|h'
 .exact h'
 .rw[wK h']at h;cases h
theorem Stp.make(H:fK X w m h){id:Nat}(hid:h[id]? =some .dead)(hm:m id=none)(kl:Option Nat)(l:Loc)(o:aV)(hol:o.live){w':World}
  (hos:w'.os=w.os) (Wp:w'.tape=w.tape) (hout:oF w w') (hsize:w.heap.size<=w'.heap.size)
  (hkeep:∀b,b<w.heap.size->w'.heap[b]? =w.heap[b]? ∨∃k ok lk,kl=some k/\h[k]? =some ok/\ok.live/\m k=some lk/\lk.blk=some b)
  (hblk:∀b,l.blk=some b->w.heap.size<=b∨∃k ok lk,kl=some k/\h[k]? =some ok/\ok.live/\m k=some lk/\lk.blk=some b)
  (CF:Later w m (MX X m h) w' (mU m id l) (MX X (mU m id l) ((sO h kl).set id o))->xY w' (mU m id l) (MX X (mU m id l) ((sO h kl).set id o)) id o):
  Stp X w m h w' (mU m id l) ((sO h kl).set id o):=by
 have hlt:id<h.length:=iI hid;have hk':∀k,kl=some k→¬k=id->((sO h kl).set id o)[k]? =some .dead\/h.length<=k:=by
  intro k hk hne;subst hk;rcases mI k h.length with h'|h'
  .left;simp only[sO];rw[sI ah,uz h']
  .exact .inr h'
 have hat:((sO h kl).set id o)[id]? =some o:=by rw[uz (by rw[Ul];exact hlt)]
 refine H.change (λk=>k=id\/kl=some k) (by rw[oQ,Ul]) ?_ ?_ ?_ ?_ hos Wp hout hsize ?_ ?_ ?_ ?_ ?_
 .intro k hk;rw[sI (by intro e;exact hk (.inl e.symm))];rcases kl with _|j;rfl;simp only[sO];rw[sI (by intro e;exact hk (.inr (by rw[e])))]
 .intro k l' hk;unfold mU;rw[cZ (by intro e;rw[e,hm]at hk;cases hk)];exact hk
 .intro k hk;unfold mU;rw[cZ (by intro e;exact hk (.inl e))]
 .intro k hk;unfold mU;rw[cZ ah];exact H.used k hk
 .intro k o' l' b hk ho hl hml hb;by_cases e:k=id
  .subst e;unfold mU at hml;rw[bU rfl]at hml;cases hml;rcases hblk b hb with h1|⟨j,ok,lk,_,h2,h3,h4,h5⟩
   .exact .inr h1
   .exact .inl ⟨j,ok,lk,h2,h3,h4,h5⟩
  .rcases hk with hk|hk
   .exact absurd hk e
   .rcases hk' k hk e with h1|h1
    .rw[ho]at h1;cases h1;exact hl.elim
    .have:=iI ho;rw[oQ,Ul]at this;omega
 .intro b hb;rcases hkeep b hb with h1|⟨j,ok,lk,h1,h2,h3,h4,h5⟩
  .exact .inl h1
  .refine .inr ⟨⟨j,ok,lk,h2,h3,h4,h5⟩,λk o' l' hk ho hl hml hb'=>hk (.inr ?_)⟩;rw[h1,H.inj j k ok o' lk l' b h2 ho h3 hl h4 hml h5 hb']
 .intro k k' o1 o2 l1 l2 b hk h1 h2 h3 h4 h5 h6 h7 h8;have xZ:∀q oq,((sO h kl).set id o)[q]? =some oq->oq.live->kl=some q->q=id:=by
   intro q oq hq hlq hkl;apply ajQ;intro e;rcases hk' q hkl e with h9|h9
   .rw[hq]at h9;cases h9;exact hlq.elim
   .have:=iI hq;rw[oQ,Ul]at this;omega
  have aNn:k=id:=by
   rcases hk with hk|hk
   .exact hk
   .exact xZ k o1 h1 h3 hk
  subst aNn;apply ajQ;intro hne;have hne':¬k'=k:=λe=>hne e.symm;have hnk:¬kl=some k':=λe=>hne' (xZ k' o2 h2 h4 e);have h2':h[k']? =some o2:=by rw[sI ah]at h2;rcases kl with _|j;exact h2;simp only[sO]at h2;rw[sI (by intro e;exact hnk (by rw[e]))]at h2;exact h2
  have h6':m k'=some l2:=by unfold mU at h6;rw[cZ hne']at h6;exact h6
  unfold mU at h5;rw[bU rfl]at h5;cases h5;rcases hblk b h7 with h9|⟨j,ok,lk,h9,h10,h11,h12,h13⟩
  .have:=abG H h2' h4 h6' h8;omega
  .have:=H.inj j k' ok o2 lk l2 b h10 h2' h11 h4 h12 h6' h13 h8;subst this;exact hnk h9
 .intro k hk h1 h2;by_cases e:k=id
  .subst e;rw[hat]at h1;cases h1;exact hol.elim
  .unfold mU;rw[cZ e];exact h2
 .intro hL k o' hk ho;by_cases e:k=id
  .subst e;rw[hat]at ho;cases ho;exact CF hL
  .rcases hk with hk|hk
   .exact absurd hk e
   .rcases hk' k hk e with h1|h1
    .rw[ho]at h1;cases h1;trivial
    .have:=iI ho;rw[oQ,Ul]at this;omega
theorem Stp.write(H:fK X w m h){o o':aV}{l:Loc}(hk:h[k]? =some o)(ho:o.live)(hm:m k=some l)(hb:l.blk=some b){w':World}
  (hos:w'.os=w.os) (Wp:w'.tape=w.tape) (hout:oF w w') (hsize:w.heap.size<=w'.heap.size)
  (hkeep:∀c,c<w.heap.size->c≠b->w'.heap[c]? =w.heap[c]?)
  (CF:Later w m (MX X m h) w' m (MX X m (h.set k o'))->xY w' m (MX X m (h.set k o')) k o'):
  Stp X w m h w' m (h.set k o'):=by
 have hlt:k<h.length:=iI hk;have hat:(h.set k o')[k]? =some o':=uz hlt;refine H.change (λj=>j=k) aj (λj hj=>sI ah) (λ_ _ h=>h) (λ_ _=>rfl) H.used hos Wp hout hsize ?_ ?_ ?_ (λ_ _ _ h=>h) ?_
 .rintro j oj lj c rfl h1 h2 h3 h4;rw[hm]at h3;cases h3;rw[hb]at h4;cases h4;exact .inl ⟨j,o,l,hk,ho,hm,hb⟩
 .intro c hc;by_cases e:c=b
  .subst e;refine .inr ⟨⟨k,o,l,hk,ho,hm,hb⟩,λj oj lj hj h1 h2 h3 h4=>hj (H.inj j k oj o lj l c h1 hk h2 ho h3 hm h4 hb)⟩
  .exact .inl (hkeep c hc e)
 .rintro j k' o1 o2 l1 l2 c rfl h1 h2 h3 h4 h5 h6 h7 h8;rw[hm]at h5;cases h5;by_cases e:k'=j
  .exact e.symm
  .rw[sI ah]at h2;exact H.inj j k' o o2 l l2 c hk h2 ho h4 hm h6 h7 h8
 .rintro hL j oj rfl h1;rw[hat]at h1;cases h1;exact CF hL
theorem sF(cs:List α)(off:Nat)(xs:List α)(hl:off+xs.length<=cs.length)(i:Nat):
  (splice cs off xs)[i]? =if off<=i/\i<off+xs.length then xs[i-off]? else cs[i]? :=by
 unfold splice;rcases mI i off with h1|h1
 .rw[cZ ah,pX ay,tu,bU h1]
 .rw[uw ay];have e1:(cs.take off).length=off:=ay
  rw[e1];rcases mI i (off+xs.length)with h2|h2
  .rw[bU ⟨h1,h2⟩,pX ah]
  .rw[cZ ah,uw ah,yL];congr 1;omega
theorem yG(cs:List α)(off:Nat)(xs:List α)(hl:off+xs.length<=cs.length:=by omega):(splice cs off xs).length=cs.length:=by unfold splice;simp;omega
end
end
section
variable {P:Program} {X:Mu} {w:World} {m:gU} {h:List aV} {M:Mu}
theorem aoz{z n:Nat}{f:Nat->List CV}{v:Value}(h:lu w M (.rd z n f) v):v.oneCell'=true:=by cases h<;>rfl
theorem dP.one{x:SC}{v:Value}(hs:dP w m M x v)(hx:x.scalar=true):v.oneCell'=true:=by cases hs with
 |c h=>cases h with|val v=>exact hx|ls _ _ _ h=>exact aoz h|lY _ _ _ h=>exact aoz h|_=>rfl
 |bot v=>cases hx
 |_=>rfl
theorem aGi{v:Value}(h:v.oneCell'=true):v.cells= #[v]:=by cases v<;>first|rfl|cases h
theorem jo.cells{a:AV}{v:Value}(hs:jo w m M a v)(ha:(kT a).all SC.scalar=true):
  nW w m M (kT a) v.cells∧∀u∈v.cells.toList,u.oneCell'=true:=by
 cases a with
 |s x=>
  have hx:x.scalar=true:=by simpa[kT]using ha
  have h1:=dP.one hs hx;rw[aGi h1];refine⟨⟨rfl,λi y hy=> ?_⟩,aD h1⟩
  match i,hy with
  |0,hy=>cases hy;exact hs
  |i+1,hy=>simp[kT]at hy
 |agg cs=>
  obtain⟨vs,rfl,hl⟩:=hs;refine⟨hl,λu hu=> ?_⟩;obtain⟨i,hi,rfl⟩:=zh hu;have hi':i<vs.size:=by simpa[Value.cells]using hi
  have hi2:i<cs.length:=by rw[<-hl.1];exact hi'
  have:=hl.2 i cs[i] (jN hi2);have h1:=dP.one this (by simp only[kT,kG]at ha;exact ha _ (yN hi2));simpa[Array.getD,hi',Value.cells]using h1
theorem agN{T:TypeId}{i:TypeInfo}(hi:P.info? T=some i){b off:Nat}{cur:Array Value}{t:TypeId}{v:Value}(hg:w.heap[b]? =some (.cells cur t (0,0)))
  (hsz:v.cells.size=i.size) (hl:off+v.cells.size<=cur.size) (h1:∀u∈v.cells.toList,u.oneCell'=true):
  (Instr.storeAt T (.pointer (some ⟨b,off,none⟩)) v).run P w=.ok () (w.setRow b (splice cur.toList off v.cells.toList).toArray):=by
 have hst:=run_storeCells_at P b off t v.cells.toList 0 cur w hg (aD hl) h1;simp only[wN]at hst;simp only[Instr.storeAt,Instr.sureAddr,storeVar,sizeOf,typeInfo,Sem.run_bind,Sem.run_pure,Result.andThen_ok,run_program,hi,hsz,ne_eq,not_true_eq_false,mJ];rw[hst];simp[splice,qU]
theorem wE{l:List Value}{i:Nat}:l.toArray.getD i undef=(l[i]?).getD undef:=by simp[Array.getD];by_cases hi:i<l.length<;>simp[hi]
theorem mY{a:Array Value}{i:Nat}:a.getD i undef=(a.toList[i]?).getD undef:=by simp[Array.getD];by_cases hi:i<a.size<;>simp[hi]
theorem F7{cur:List Value}{off:Nat}{vs:List Value}(hl:off+vs.length<=cur.length)(hc:∀i,i<cur.length->((cur[i]?).getD undef).oneCell'=true)(h1:∀u∈vs,u.oneCell'=true):
  ∀i,i<(splice cur off vs).toArray.size->((splice cur off vs).toArray.getD i undef).oneCell'=true:=by
 intro i hi;rw[zU,yG _ _ _ hl]at hi;rw[wE,sF _ _ _ hl];split
 .rename_i hx;have:i-off<vs.length:=ah
  rw[jN this];exact h1 _ (yN this)
 .exact hc i hi
theorem Vb:∀{cs:List SC} {xs:List CV},tK cs=some xs->cs=xs.map .c
 | [],xs,h=>by simp[tK]at h;subst h;rfl
 | .c x::cs,xs,h=>by simp only[tK]at h;rcases hr:tK cs with _|ys;rw[hr]at h;cases h;rw[hr]at h;cases h;rw[Vb hr];rfl
 | .rp _::cs,xs,h=>by simp[tK]at h
 | .sl _ _ _::cs,xs,h=>by simp[tK]at h
 | .pb _ _::cs,xs,h=>by simp[tK]at h
 | .pe _ _ _::cs,xs,h=>by simp[tK]at h
 | .fn _ _::cs,xs,h=>by simp[tK]at h
 | .bot::cs,xs,h=>by simp[tK]at h
theorem aHt(H:fK X w m h){T:TypeId}{p:SC}{a:AV}{pv v:Value}{bK:Eff}(hp:dP w m (MX X m h) p pv)(ha:jo w m (MX X m h) a v)
  (he:Vr P T (eD h) p a=some bK):
  ∃w',(Instr.storeAt T pv v).run P w=.ok () w'/\bK.r=fQ undef/\Stp X w m h w' m (eY h bK.ws):=by
 unfold Vr at he;rcases hi:P.info? T with _|i;rw[hi]at he;cases he;rw[hi]at he;simp only at he;cases hb:(Nat.beq (kT a).length i.size&&(kT a).all SC.scalar)with
 |false=>rw[hb]at he;cases he
 | true =>
  rw[hb]at he;simp only[aY]at he;simp only[dD]at hb;obtain⟨hsz,hsc⟩:=hb;have hsz:=eG hsz;obtain⟨hL,h1⟩:=jo.cells ha hsc;have hvs:v.cells.size=i.size:=by rw[hL.1];exact hsz
  cases p with
  | pb k off=> simp only at he;cases hg:eD h k with
   |box cs=>rw[hg]at he;simp only at he;rcases hle:Nat.ble (off+i.size) cs.length with _|_;rw[hle]at he;cases he;rw[hle]at he;simp only[aY]at he;cases he;have hle:=qV hle;cases hp with
    |pb _ _ b l hk hbk=>
     have hget:=oP hg trivial;obtain⟨l',b',t,cur,e1,e2,e3,e4,e5⟩:=H.obj k _ hget;rw[hk]at e1;cases e1;rw[hbk]at e2;cases e2;have hcl:off+v.cells.size<=cur.size:=(by rw[e4.1,hvs];exact hle);refine⟨_,agN hi e3 hvs hcl h1,rfl,?_⟩;refine Stp.write H hget trivial hk hbk rfl rfl ⟨rfl,λ_=>gI _⟩ aj (λc _ hc=>setRow_other w b c _ hc) (λkM=> ?_);refine⟨l,b,t,_,hk,hbk,setRow_heap w b cur _ t _ e3,⟨?_,λj x hx=> ?_⟩,?_⟩
     .rw[zU,yG _ _ _ (aD hcl),yG _ _ _ (by rw[<-hL.1,hvs];exact hle)];simpa using e4.1
     .rw[sF _ _ _ (by rw[<-hL.1,hvs];exact hle)]at hx;rw[wE,sF _ _ _ (aD hcl)];have hll:(kT a).length=v.cells.toList.length:=(by rw[<-hL.1];simp);rw[hll]at hx;split at hx
      .rename_i hin;rw[bU hin];have:=(hL.2 _ _ hx).later kM;rwa [mY]at this
      .rename_i hin;rw[cZ hin];have:=(e4.2 _ _ hx).later kM;rwa [mY]at this
     .exact F7 (aD hcl) (λj hj=>by have:=e5 j (aD hj);rwa [mY]at this) h1
   |arr z n f=>rw[hg]at he;cases he
   |ra z1 n1 cs1=>rw[hg]at he;cases he
   |ms es1=>rw[hg]at he;cases he
   |dead=>rw[hg]at he;cases he
  | pe k j off=> simp only at he;cases hg:eD h k with
   | arr z n f=> rw[hg]at he;cases hcv:tK (kT a)with
    |none=>rw[hcv]at he;cases he
    | some xs=> rw[hcv]at he;simp only at he;rcases hle:Nat.ble (off+i.size) z with _|_;rw[hle]at he;cases he;rw[hle]at he;simp only[aY]at he;cases he;have hle:=qV hle;have hxs:kT a=xs.map .c:=Vb hcv;cases hp with
     | pe _ _ _ b l hk hbk hj=>
      rw[Wl H hg hk]at hj;have hget:=oP hg trivial;obtain⟨l',e1,e2,e3,e4,e5⟩:=H.obj k _ hget;rw[hk]at e1;cases e1;obtain⟨e6,t,cur,e7,e8,e9,e10⟩:=e5 b hbk;subst e2;have hjz:j*l.z+l.z<=l.cap*l.z:=(by rw[<-pF];exact jU _ ah);have hcl:j*l.z+off+v.cells.size<=cur.size:=(by rw[e8,hvs];omega);have hxl:xs.length=i.size:=(by rw[<-hsz,hxs];simp);refine⟨_,agN hi e7 hvs hcl h1,rfl,?_⟩;refine Stp.write H hget trivial hk hbk rfl rfl ⟨rfl,λ_=>gI _⟩ aj (λc _ hc=>setRow_other w b c _ hc) (λkM=> ?_);refine⟨l,hk,rfl,e3,e4,λb' hb'=> ?_⟩;obtain rfl:b=b':=(by rw[hbk]at hb';exact rP hb');refine⟨e6,t,_,setRow_heap w b cur _ t _ e7,?_,?_,λq hq=> ?_⟩
      .rw[zU,yG _ _ _ (aD hcl)];simpa using e8
      .exact F7 (aD hcl) (λj hj=>by have:=e9 j (aD hj);rwa [mY]at this) h1
      .obtain⟨hql,hqc⟩:=e10 q hq;have hjl:=(e10 j hj).1;unfold upd;split
       .rename_i hqj;subst hqj;refine⟨by rw[yG _ _ _];exact hql,λu x hx=> ?_⟩;rw[sF _ _ _ ah]at hx;rw[wE,sF _ _ _ (aD hcl)];have hvl:v.cells.toList.length=xs.length:=(by simp[hvs,hxl]);rw[hvl];have hu:u<l.z:=by
         split at hx
         .omega
         .rw[<-hql];exact iI hx
        split at hx
        .rename_i hin;rw[bU ah];have hs:=hL.2 (u-off) (.c x) (by rw[hxs,mG,hx];rfl);rw[mY]at hs;have e:q*l.z+u-(q*l.z+off)=u-off:=ah;rw[e];cases hs.later kM with|c hs=>exact hs
        .rename_i hin;rw[cZ ah];have:=(hqc u x hx).later kM;rwa [mY]at this
       .rename_i hqj;refine⟨hql,λu x hx=> ?_⟩;have hu:u<l.z:=(by rw[<-hql];exact iI hx);rw[wE,sF _ _ _ (aD hcl)];have hvl:v.cells.toList.length=i.size:=(by simp[hvs]);rw[hvl,cZ ?_]
        .have:=(hqc u x hx).later kM;rwa [mY]at this
        .rcases VI hqj with h'|h'
         .have:q*l.z+l.z<=j*l.z:=(by rw[<-pF];exact jU _ ah);omega
         .have:j*l.z+l.z<=q*l.z:=(by rw[<-pF];exact jU _ ah);omega
   |box cs=>rw[hg]at he;cases he
   |ra z1 n1 cs1=>rw[hg]at he;cases he
   |ms es1=>rw[hg]at he;cases he
   |dead=>rw[hg]at he;cases he
  |c x=>cases he
  |own k=>cases he
  |rp cs=>cases he
  |sl k lo len=>cases he
  |fn f caps=>cases he
  |mp k=>cases he
  |fb f k off=>cases he
  |bot=>cases he
end
inductive j4{α β:Type}(R:α->β->Prop):List α->List β->Prop
 |nil:j4 R [] []
 |cons {a:α} {b:β} {l:List α} {r:List β} (h:R a b) (t:j4 R l r):j4 R (a::l) (b::r)
theorem U3(w:World)(o:Obj):(w.alloc o).heap[w.heap.size]? =some o:=by show(w.heap.push o)[w.heap.size]? =_;simp
section
variable {P:Program} {X:Mu} {w:World} {m:gU} {h:List aV}
theorem Ua(w:World)(o:Obj)(b:Nat)(hb:b<w.heap.size):(w.alloc o).heap[b]? =w.heap[b]? :=Below.heap_alloc w o b hb
theorem Stp.aso(H:fK X w m h){id:Nat}(hid:h[id]? =some .dead)(hm:m id=none){cs:List SC}{vs:Array Value}(T:TypeId)
  (hL:nW w m (MX X m h) cs vs) (h1:∀i,i<vs.size->(vs.getD i undef).oneCell'=true):
  ∃m',Stp X w m h (w.alloc (.cells vs T)) m' (eY h [(id,.box cs)])/\dP (w.alloc (.cells vs T)) m' (MX X m' (eY h [(id,.box cs)])) (.pb id 0) (.pointer (some ⟨w.heap.size,0,none⟩)):=by
 let l:Loc:=⟨some ⟨w.heap.size,0,none⟩,0,0,some w.heap.size,0⟩
 refine⟨mU m id l,?_,.pb id 0 w.heap.size l (by simp[mU]) rfl⟩;refine Stp.make H hid hm none l (.box cs) trivial rfl rfl ⟨rfl,λ_=>gI _⟩ aj (λb hb=> .inl (Ua w _ b hb)) (λb hb=> ?_) (λkM=> ?_)
 .cases hb;exact .inl (gI _)
 .exact⟨l,w.heap.size,T,vs,by simp[mU],rfl,U3 w _,hL.later kM,h1⟩
theorem Stp.abR(H:fK X w m h){id:Nat}(hid:h[id]? =some .dead)(hm:m id=none){w1:World}(hw1:w1.heap=w.heap)(hos:w1.os=w.os)(ht:w1.tape=w.tape)(ho:oF w w1)
  (kl:Option Nat) {z n cap:Nat} {f:Nat->List CV} {vs:Array Value} (T:TypeId)
  (hn:n<=cap) (hsz:vs.size=cap*z) (h1:∀i,i<vs.size->(vs.getD i undef).oneCell'=true)
  (hf:∀i,i<n->(f i).length=z∧∀(j:Nat) x,(f i)[j]? =some x->lu w (MX X m h) x (vs.getD (i*z+j) undef)):
  ∃m',Stp X w m h (w1.alloc (.cells vs T)) m' ((sO h kl).set id (.arr z n f))∧
   dP (w1.alloc (.cells vs T)) m' (MX X m' ((sO h kl).set id (.arr z n f))) (.own id) (.slice (some ⟨w.heap.size,0,none⟩) n cap):=by
 let l:Loc:=⟨some ⟨w.heap.size,0,none⟩,cap,z,some w.heap.size,n⟩
 have hsz1:w1.heap.size=w.heap.size:=by rw[hw1]
 refine⟨mU m id l,?_,.own id l (by simp[mU])⟩;refine Stp.make H hid hm kl l (.arr z n f) trivial hos ht ho (by simp[hsz1]) (λb hb=> .inl ?_) (λb hb=> ?_) (λkM=> ?_)
 .rw[Ua w1 _ b (by rw[hsz1];exact hb),hw1]
 .cases hb;exact .inl (gI _)
 .refine⟨l,by simp[mU],rfl,⟨rfl,hn⟩,(λe=>by cases e),λb hb=> ?_⟩;cases hb;refine⟨rfl,T,vs,?_,hsz,h1,λi hi=>⟨(hf i hi).1,λj x hx=>((hf i hi).2 j x hx).later kM⟩⟩;rw[<-hsz1];exact U3 w1 _
theorem U8{M:Mu}(cs:List Value):nW w m M (vals cs) cs.toArray:=by refine⟨by simp[vals],λi x hx=> ?_⟩;simp only[vals,mG]at hx;rcases hc:cs[i]? with _|v;rw[hc]at hx;cases hx;rw[hc]at hx;cases hx;rw[wE,hc];exact .c (.val v)
theorem foldl_set(off:Nat):∀(l:List Value) (k:Nat) (cells:Array Value),off+k+l.length<=cells.size→
  (l.zipIdx k).foldl (λ(cs:Array Value) (x:Value×Nat)=>cs.setIfInBounds (off+x.2) x.1) cells=(splice cells.toList (off+k) l).toArray
 | [],k,cells,hl=>by simp only[List.zipIdx_nil,List.foldl_nil];apply LW;simp[splice]
 |c::r,k,cells,hl=>by
  simp only[zi]at hl;rw[List.zipIdx_cons,PV];have ih:=foldl_set off r (k+1) (cells.setIfInBounds (off+k) c) ay;rw[ih];congr 1;apply Ed;intro i;rw[sF _ _ _ ay,sF _ _ _ ay];simp only[Array.toList_setIfInBounds,zi];by_cases h1:off+(k+1)<=i/\i<off+(k+1)+r.length
  .rw[bU h1,bU ah];have:i-(off+k)=(i-(off+(k+1)))+1:=ah;rw[this,Lm]
  .rw[cZ h1];by_cases h2:i=off+k
   .subst h2;rw[bU ah,uz ay];simp
   .rw[cZ ah,sI ah]
theorem aG4(v:Array Value)(off:Nat)(cells:Array Value)(hl:off+v.size<=cells.size):
  (v.zipIdx.foldl (λcs (x:Value×Nat)=>cs.setIfInBounds (off+x.2) x.1) cells)=(splice cells.toList off v.toList).toArray:=by
 rw[<-Array.foldl_toList,Array.toList_zipIdx];exact foldl_set off v.toList 0 cells (aD hl)
theorem Vf{M:Mu}{place:Nat->Option (Nat×Nat)}:∀{ps:List (Nat×AV)} {qs:List (Nat×Value)} {cells:List SC} {vs:Array Value} {cs':List SC},
  j4 (λ(a:Nat×AV) (b:Nat×Value)=>a.1=b.1/\jo w m M a.2 b.2) ps qs->nW w m M cells vs->(∀i,i<vs.size->(vs.getD i undef).oneCell'=true)→
  vK place cells ps=some cs'→∃vs',Instr.fill place vs qs=some vs'/\nW w m M cs' vs'∧∀i,i<vs'.size->(vs'.getD i undef).oneCell'=true
 |_,_,cells,vs,cs',.nil,hL,h1,hf=>by simp only[vK,kZ]at hf;subst hf;exact⟨vs,rfl,hL,h1⟩
 | (i, a)::ps,(i',v)::qs,cells,vs,cs',.cons ⟨hi,ha⟩ hr,hL,h1,hf=>by simp only at hi ha;subst hi;simp only[vK]at hf;rcases hp:place i with _|q;rw[hp]at hf;cases hf;obtain⟨off,size⟩:=q;rw[hp]at hf;simp only at hf;cases hb:(Nat.beq (kT a).length size&&Nat.ble (off+size) cells.length&&(kT a).all SC.scalar)with
  |false=>rw[hb]at hf;cases hf
  |true=>
   rw[hb]at hf;simp only[aY]at hf;simp only[dD]at hb;obtain⟨⟨b1,b2⟩,b3⟩:=hb;have b1:=eG b1;have b2:=qV b2;obtain⟨hc,ho⟩:=jo.cells ha b3;have e1:v.cells.size=size:=(by rw[hc.1];exact b1);have hcl:off+v.cells.size<=vs.size:=(by rw[hL.1,e1];exact b2);have hcl':off+(kT a).length<=cells.length:=ah;have hL':nW w m M (splice cells off (kT a)) (splice vs.toList off v.cells.toList).toArray:=by
    refine⟨?_,λj x hx=> ?_⟩
    .rw[zU,yG _ _ _ (aD hcl),yG _ _ _ hcl'];simpa using hL.1
    .rw[sF _ _ _ hcl']at hx;rw[wE,sF _ _ _ (aD hcl)];have hll:(kT a).length=v.cells.toList.length:=(by rw[<-hc.1];simp);rw[hll]at hx;split at hx
     .rename_i hin;rw[bU hin];have:=hc.2 _ _ hx;rwa [mY]at this
     .rename_i hin;rw[cZ hin];have:=hL.2 _ _ hx;rwa [mY]at this
   obtain⟨vs',r1,r2,r3⟩:=Vf hr hL' (F7 (aD hcl) (λj hj=>by have:=h1 j (aD hj);rwa [mY]at this) ho) hf;refine⟨vs',?_,r2,r3⟩;simp only[Instr.fill,hp];rw[cZ (by simp[e1];omega),aG4 v.cells off vs hcl];exact r1
theorem aog(z:List SC):∀(n i:Nat),i<n*z.length->(rep z n)[i]? =z[i%z.length]?
 |0,i,hi=>by simp at hi
 |n+1,i,hi=>by
  simp only[rep];rcases mI i z.length with h1|h1
  .rw[pX h1,PZ h1]
  .rw[uw h1,aog z n (i-z.length) (by rw[pF]at hi;omega)];congr 1;rw[Nat.mod_eq_sub_mod h1]
theorem O5(z:List SC):∀n,(rep z n).length=n*z.length
 |0=>by simp[rep]
 |n+1=>by simp[rep,O5 z n,pF];omega
theorem aic{M:Mu}(z:Array Value)(n:Nat)(hz:0<z.size)(h1:z.all Value.oneCell'=true):
  nW w m M (rep (vals z.toList) n) ((Array.range (n*z.size)).map (z[· %z.size]!))∧
  ∀i,i<((Array.range (n*z.size)).map (z[· %z.size]!)).size->(((Array.range (n*z.size)).map (z[· %z.size]!)).getD i undef).oneCell'=true:=by
 have hat:∀i,i<n*z.size->((Array.range (n*z.size)).map (z[· %z.size]!)).getD i undef=z[i%z.size]'(uD _ hz):=by intro i hi;have:i%z.size<z.size:=uD _ hz;simp[Array.getD,hi,this]
 refine⟨⟨by simp[O5,vals],λi x hx=> ?_⟩,λi hi=> ?_⟩
 .have hi:=iI hx;rw[O5]at hi;rw[aog _ _ _ hi]at hx;have e:(vals z.toList).length=z.size:=by simp[vals]
  rw[e]at hx hi;rw[hat i hi];simp only[vals,mG]at hx;have hlt:i%z.size<z.size:=uD _ hz;simp[hlt]at hx;rw[<-hx];exact .c (.val _)
 .simp at hi;rw[hat i hi];rw[LV]at h1;exact h1 _ _
end
section
variable {t:TypeId}{i:TypeInfo}{z:Array Value}
section
variable {P:Program} {X:Mu} {w:World} {m:gU} {h:List aV}
theorem run_places:∀(fs:List Field),(fs.all λf=>(P.info? f.type).isSome)=true→
  (fs.mapM λf=>do pure (f.offset,<-sizeOf f.type):Sem (List (Nat×Nat))).run P w=.ok (fs.map λf=>(f.offset,P.cellsOf f.type)) w
 | [],_=>aj
 |f::fs,hf=>by simp only[wT,dD]at hf;obtain⟨hi,hr⟩:=hf;rcases QB:P.info? f.type with _|i;rw[QB]at hi;cases hi;have ih:=run_places fs hr;simp only[abq,Sem.run_bind,sizeOf,typeInfo,run_program,Result.andThen_ok,QB,Sem.run_pure,Program.cellsOf,VK,Ls,mH];simp only[sizeOf,typeInfo,Program.cellsOf]at ih;rw[ih];simp
theorem ah6(fs:Array Field)(hf:(fs.all λf=>(P.info? f.type).isSome)=true):
  (λi=>(fs.map λf=>(f.offset,P.cellsOf f.type))[i]?)=placeOf P fs:=by
 funext i;unfold placeOf;rw[Array.getElem?_map];rcases hfi:fs[i]? with _|f;rfl;have hlt:i<fs.size:=by
  rcases mI i fs.size with h'|h'
  .exact h'
  .rw[V7 h']at hfi;cases hfi
 have:=(LV.1 hf) i hlt;have e:fs[i]=f:=by rw[Ji hlt]at hfi;exact rP hfi
 rw[e]at this;rcases QB:P.info? f.type with _|j;rw[QB]at this;cases this;simp[Program.cellsOf,QB]
theorem FR{t:TypeId}{i:TypeInfo}{z:Value}(hi:P.info? t=some i)(hz:i.zero=some z):(zeroValue t).run P w=.ok z w:=by simp[zeroValue,typeInfo,hi,hz]
theorem Aw(hi:P.info? t=some i):(sizeOf t).run P w=.ok i.size w:=by simp[sizeOf,typeInfo,hi]
theorem ail(hz:z.all Value.oneCell'=true):∀i,i<z.toList.toArray.size->(z.toList.toArray.getD i undef).oneCell'=true:=by intro i hi;simp at hi;have:=(LV.1 hz) i hi;simpa[Array.getD,hi]using this
theorem aHm{t:TypeId}{ps:List (Nat×AV)}{qs:Array (Nat×Value)}{bK:Eff}{M:Mu}(hq:j4 (λ(a:Nat×AV) (b:Nat×Value)=>a.1=b.1/\jo w m M a.2 b.2) ps qs.toList)
  (he:aiy P t ps=some bK):∃v,(Instr.build t qs).run P w=.ok v w/\bK.ws=[]/\bK.bs=[]/\fu w m M bK.r v:=by
 unfold aiy at he;rcases hi:P.info? t with _|i;rw[hi]at he;simp at he;rcases hu:P.underlying t with _|d;rw[hi,hu]at he;simp at he;rw[hi,hu]at he;cases d with
 |struct fs=>simp only at he;rcases hz:i.zero with _|zv;rw[hz]at he;cases he;rw[hz]at he;cases zv with
  |agg z=>simp only at he;cases hb:(z.all Value.oneCell'&&fs.all (λf=>(P.info? f.type).isSome))with
   |false=>rw[hb]at he;cases he
   |true=>rw[hb]at he;simp only[aY]at he;simp only[dD]at hb;rcases hf:vK (placeOf P fs) (vals z.toList) ps with _|cs;rw[hf]at he;cases he;rw[hf]at he;cases he;obtain⟨vs',r1,r2,_⟩:=Vf hq (U8 z.toList) (ail hb.1) hf;refine⟨.agg vs',?_,rfl,rfl,vs',rfl,r2⟩;have hpl:(fs.mapM λf=>do pure (f.offset,<-sizeOf f.type):Sem (Array (Nat×Nat))).run P w=.ok (fs.map λf=>(f.offset,P.cellsOf f.type)) w:=(by rw[asR,Sem.run_map,run_places fs.toList (aD hb.2)];simp only[Result.andThen_ok];congr 1;apply LW;simp);simp only[Instr.build,Sem.run_bind,FR hi hz,Result.andThen_ok,run_underlying hu,hpl,ah6 fs hb.2,Value.cells];have r1':Instr.fill (placeOf P fs) z qs.toList=some vs':=(aD r1);rw[r1'];simp
  |_=>cases he
 |array n e=>simp only at he;rcases hz:i.zero with _|zv;rw[hz]at he;cases he;rcases hj:P.info? e with _|j;rw[hz,hj]at he;cases zv<;>cases he;rw[hz,hj]at he;cases zv with
  |agg z=>simp only at he;rcases hb:z.all Value.oneCell' with _|_;rw[hb]at he;cases he;rw[hb]at he;simp only[aY]at he;rcases hf:vK (λk=>some (k*j.size,j.size)) (vals z.toList) ps with _|cs;rw[hf]at he;cases he;rw[hf]at he;cases he;obtain⟨vs',r1,r2,_⟩:=Vf hq (U8 z.toList) (ail hb) hf;refine⟨.agg vs',?_,rfl,rfl,vs',rfl,r2⟩;have r1':Instr.fill (λk=>some (k*j.size,j.size)) z qs.toList=some vs':=(aD r1);simp only[Instr.build,Sem.run_bind,FR hi hz,Result.andThen_ok,run_underlying hu,Aw hj,Value.cells,r1',Sem.run_pure]
  |_=>cases he
 |_=>cases he
theorem DK{e:TypeId}(he:qO P t=some (e,i,z)):
  P.underlying t=some (.slice e)/\P.info? e=some i/\(∃zv,i.zero=some zv/\zv.cells=z)/\z.size=i.size/\z.all Value.oneCell'=true/\0<i.size/\0<i.bytes:=by
 unfold qO at he;rcases hu:P.underlying t with _|d;rw[hu]at he;cases he;rw[hu]at he;cases d with
 |slice e'=>simp only at he;rcases hi:P.info? e' with _|i';rw[hi]at he;cases he;rw[hi]at he;simp only at he;rcases hz:i'.zero with _|zv;rw[hz]at he;cases he;rw[hz]at he;simp only at he;cases hb:(Nat.beq zv.cells.size i'.size&&(zv.cells.all Value.oneCell')&&Nat.blt 0 i'.size&&Nat.blt 0 i'.bytes)with
  |false=>rw[hb]at he;cases he
  |true=>
   rw[hb]at he;simp only[aY]at he;cases he;simp only[dD]at hb;refine⟨rfl,hi,⟨zv,hz,rfl⟩,eG hb.1.1.1,hb.1.1.2,?_,?_⟩
   .have:=hb.1.2;simp only[Nat.blt]at this;exact qV this
   .have:=hb.2;simp only[Nat.blt]at this;exact qV this
 |_=>cases he
theorem aIN{cs:List SC}{xs:List CV}(hx:tK cs=some xs):xs.length=cs.length:=by rw[Vb hx];simp
theorem ahw{place:Nat->Option (Nat×Nat)}:∀{ps:List (Nat×AV)} {cells cs:List SC},vK place cells ps=some cs->cs.length=cells.length
 | [],cells,cs,h=>by simp[vK]at h;rw[h]
 | (i,a)::ps,cells,cs,h=>by simp only[vK]at h;rcases hp:place i with _|q;rw[hp]at h;cases h;rw[hp]at h;simp only at h;cases hb:(Nat.beq (kT a).length q.2&&Nat.ble (q.1+q.2) cells.length&&(kT a).all SC.scalar)with
  |false=>rw[hb]at h;cases h
  |true=>rw[hb]at h;simp only[aY]at h;simp only[dD]at hb;have h1:=eG hb.1.1;have h2:=qV hb.1.2;rw[ahw h,yG _ _ _]
theorem anE(H:fK X w m h){id:Nat}(hid:h[id]? =some .dead)(hm:m id=none){t:TypeId}{n:Nat}{ps:List (Nat×AV)}{qs:Array (Nat×Value)}{bK:Eff}
  (hq:j4 (λ(a:Nat×AV) (b:Nat×Value)=>a.1=b.1/\jo w m (MX X m h) a.2 b.2) ps qs.toList) (he:OG P t id n ps=some bK):
  ∃v w' m',(Instr.buildSlice t n qs).run P w=.ok v w'/\Stp X w m h w' m' (eY h bK.ws)/\fu w' m' (MX X m' (eY h bK.ws)) bK.r v:=by
 unfold OG at he;rcases jB:qO P t with _|q;rw[jB]at he;cases he;obtain⟨e,i,z⟩:=q;rw[jB]at he;simp only at he;obtain⟨hu,hi,⟨zv,hz,hzc⟩,hzs,hz1,hpos,Bc⟩:=DK jB;rcases hb:Nat.ble (n*i.size) 16777216 with _|_;rw[hb]at he;cases he;rw[hb]at he;simp only[aY]at he;have hb:=qV hb;rcases hf:vK (λk=>some (k*i.size,i.size)) (rep (vals z.toList) n) ps with _|cs;rw[hf]at he;cases he;rw[hf]at he;simp only at he;rcases hx:tK cs with _|xs;rw[hx]at he;cases he;rw[hx]at he;cases he;obtain⟨hr,hr1⟩:=aic (w:=w) (m:=m) (M:=MX X m h) z n ah hz1;obtain⟨vs',r1,r2,r3⟩:=Vf hq hr hr1 hf;have hlen:cs.length=n*i.size:=by rw[ahw hf,O5];simp[vals,hzs]
 have hcx:=Vb hx
 obtain⟨m',hS,hs⟩:=Stp.abR H hid hm (w1:=w) rfl rfl rfl (oF.same _) none (z:=i.size) (n:=n) (cap:=n) (f:=λj=>(xs.drop (j*i.size)).take i.size) (vs:=vs') e (gI _)
  (by rw[r2.1,hlen]) r3 (λq hq'=>by
   have hqz:q*i.size+i.size<=n*i.size:=(by rw[<-pF];exact jU _ ah);have hxl:xs.length=n*i.size:=(by rw[aIN hx,hlen]);refine⟨ay,λj x hx'=> ?_⟩;have hj:j<i.size:=(by have:=iI hx';simp at this;omega);rw[tu,bU hj,yL]at hx';have:=r2.2 (q*i.size+j) (.c x) (by rw[hcx,mG,hx'];rfl);cases this with
   |c hc=>exact hc)
 refine⟨_,_,m',?_,hS,hs⟩;have hzero:∀zz:Array Value,zz=(if n*i.size=0 then #[]else z)->((Array.range (n*i.size)).map (zz[· %zz.size]!))=((Array.range (n*z.size)).map (z[· %z.size]!)):=by
  intro zz hzz;rw[hzs];by_cases h0:n*i.size=0
  .rw[h0];simp
  .rw[cZ h0]at hzz;rw[hzz,hzs]
 simp only[Instr.buildSlice,Sem.run_bind,run_underlying hu,Result.andThen_ok,Aw hi];rw[cZ ah];by_cases h0:n*i.size=0
 .rw[bU h0];simp only[Sem.run_bind,Sem.run_pure,Result.andThen_ok];rw[hzero #[] (by rw[bU h0]),r1];simp[newRow]
 .rw[cZ h0];simp only[Sem.run_bind,Sem.run_pure,Result.andThen_ok,FR hi hz,hzc];rw[hzero z (by rw[cZ h0]),r1];simp[newRow]
theorem aIq(H:fK X w m h){id:Nat}(hid:h[id]? =some .dead)(hm:m id=none){t:TypeId}{k1 k2:IntKind}{l c:Int}{bK:Eff}
  (he:abN P t id l c=some bK) (hc:∀q∈bK.bs,q=true):
  ∃v w' m',(Instr.makeSlice t (.int k1 l) (.int k2 c)).run P w=.ok v w'/\Stp X w m h w' m' (eY h bK.ws)/\fu w' m' (MX X m' (eY h bK.ws)) bK.r v:=by
 unfold abN at he;rcases jB:qO P t with _|q;rw[jB]at he;cases he;obtain⟨e,i,z⟩:=q;rw[jB]at he;cases he;obtain⟨hu,hi,⟨zv,hz,hzc⟩,hzs,hz1,hpos,Bc⟩:=DK jB;obtain⟨c1,c2,c3,c4⟩:0<=l/\l<=c/\c<=9223372036854775807/\c*i.bytes<=140737488355328:=iZ (hc _ aj);obtain⟨hr,hr1⟩:=aic (w:=w) (m:=m) (M:=MX X m h) z c.toNat ah hz1;have hat:∀q,q<c.toNat*z.size->((Array.range (c.toNat*z.size)).map (z[· %z.size]!)).getD q undef=z[q%z.size]'(uD _ ah):=by intro q hq;have:q%z.size<z.size:=uD _ ah;simp[Array.getD,hq,this]
 obtain⟨m',hS,hs⟩:=Stp.abR H hid hm (w1:=w) rfl rfl rfl (oF.same _) none (z:=i.size) (n:=l.toNat) (cap:=c.toNat) (f:=λ_=>z.toList.map .val)
  (vs:=((Array.range (c.toNat*z.size)).map (z[· %z.size]!))) e ah (by simp[hzs]) hr1 (λq hq'=>by
   refine⟨by simp[hzs],λj x hx=> ?_⟩;rw[mG]at hx;rcases hzj:z.toList[j]? with _|v;rw[hzj]at hx;cases hx;rw[hzj]at hx;cases hx;have hj:j<z.size:=(by have:=iI hzj;simpa using this);have hqz:q*i.size+i.size<=c.toNat*i.size:=(by rw[<-pF];exact jU _ ah);rw[hat _ (by rw[hzs]at hj⊢;omega)];have hmod:(q*i.size+j)%z.size=j:=(by rw[<-hzs,Eh,abB,PZ hj]);have hv:v=z[j]:=(by simp[hj]at hzj;exact hzj.symm);have:z[(q*i.size+j)%z.size]'(uD _ ah)=v:=(by rw[hv];congr 1);rw[this]
   exact .val v)
 refine⟨_,_,m',?_,hS,hs⟩;have wl:IntKind.i64.wrap l=l:=IntWalk.i64_in _ ah;have wc:IntKind.i64.wrap c=c:=IntWalk.i64_in _ ah;have hb:(i.bytes:Int)*c<=281474976710656:=by rw[Int.mul_comm];omega
 have hzero:∀zz:Array Value,zz=(if c.toNat*i.size=0 then #[]else z)->((Array.range (c.toNat*i.size)).map (zz[· %zz.size]!))=((Array.range (c.toNat*z.size)).map (z[· %z.size]!)):=by
  intro zz hzz;rw[hzs];by_cases h0:c.toNat*i.size=0
  .rw[h0];simp
  .rw[cZ h0]at hzz;rw[hzz,hzs]
 have hti:(typeInfo e).run P w=.ok i w:=by simp[typeInfo,hi]
 simp only[Instr.makeSlice,Sem.run_bind,run_underlying hu,Result.andThen_ok,asInt,asIntOf,Sem.run_pure,hti,wl,wc];rw[cZ ay];simp only[Sem.run_bind,Result.andThen_ok,run_askRoom,Aw hi];by_cases h0:c.toNat*i.size=0
 .rw[bU h0];simp only[Sem.run_bind,Sem.run_pure,Result.andThen_ok];rw[hzero #[] (by rw[bU h0])];simp[newRow]
 .rw[cZ h0];simp only[Sem.run_bind,Sem.run_pure,Result.andThen_ok,FR hi hz,hzc];rw[hzero z (by rw[cZ h0])];simp[newRow]
end
end
section
variable {z:Nat}{t u e:TypeId}{i:TypeInfo}{ty e':TypeId}{n k:Nat}{x s:SC}{v sv xv:Value}{bK:Eff}
section
variable {P:Program} {X:Mu} {w:World} {m:gU} {h:List aV}
def Src(w:World)(M:Mu)(z k:Nat)(g:Nat->List CV)(v:Value)(news:List Value):Prop:=
 (∃a c,v=.slice a k c/\(k=0∨∃b off,a=some ⟨b,off,none⟩∧∀(j:Nat) u,news[j]? =some u->w.cell? ⟨b,off+j,none⟩=some u))∧
 news.length=k*z/\(∀u∈news,u.oneCell'=true)∧∀i,i<k->(g i).length=z∧∀(j:Nat) x,(g i)[j]? =some x->lu w M x ((news[i*z+j]?).getD undef)
theorem aaU{w:World}{M:Mu}{g:Nat->List CV}{a:Option Addr}{c:Nat}:Src w M z 0 g (.slice a 0 c) []:=
 ⟨⟨a,c,rfl,.inl rfl⟩,aj,aj,λi hi=>ah⟩
theorem arD(f:Nat->Value)(n:Nat)(j:Nat)(hj:j<n:=by omega):(((List.range n).map f)[j]?).getD undef=f j:=by simp[hj]
theorem agY(H:fK X w m h){z k:Nat}{g:Nat->List CV}{cs:List Bool}{x:SC}{v:Value}(hx:dP w m (MX X m h) x v)
  (hs:Ci z (eD h) x=some (k,g,cs)) (hc:∀q∈cs,q=true):∃news,Src w (MX X m h) z k g v news:=by
 unfold Ci at hs;cases x with
 | sl k' lo len=> simp only at hs;cases hg:eD h k' with
  |arr z' n f=>rw[hg]at hs;simp only at hs;rcases hb:Nat.beq z z' with _|_;rw[hb]at hs;cases hs;rw[hb]at hs;have hb:=eG hb;subst hb;simp only[aY]at hs;cases hs;have hle:lo+k<=n:=iZ (hc _ aj);cases hx with
   |sl _ _ _ l a c hk h0 h1 h2 h3=>
    by_cases hk0:k=0
    .subst hk0;exact⟨[],aaU⟩
    .obtain⟨b,hb,ha⟩:=h1 hk0;obtain⟨l',e1,e2,e3,e4,e5⟩:=H.obj k' _ (oP hg trivial);rw[hk]at e1;cases e1;obtain⟨e6,T,vs,e7,e8,e9,e10⟩:=e5 b hb;subst e2;have hz:(lo+k)*l.z<=vs.size:=(by rw[e8];exact jU _ ah);rw[nS]at hz;refine⟨(List.range (k*l.z)).map (λj=>vs.getD (lo*l.z+j) undef),⟨a,c,rfl,.inr ⟨b,lo*l.z,ha,λj u hu=> ?_⟩⟩,aj,λu hu=> ?_,λi hi=> ?_⟩
     .have hj:j<k*l.z:=(by have:=iI hu;simpa using this);simp[hj]at hu;rw[cell_of_row w b _ vs T _ e7];have:lo*l.z+j<vs.size:=ah;simp[Array.getD,this]at hu⊢;exact hu
     .simp only[xS,zT]at hu;obtain⟨j,hj,rfl⟩:=hu;exact e9 _ ah
     .obtain⟨q1,q2⟩:=e10 (lo+i) ah;refine⟨q1,λj y hy=> ?_⟩;have hj:j<l.z:=(by rw[<-q1];exact iI hy);have hiz:i*l.z+l.z<=k*l.z:=(by rw[<-pF];exact jU _ ah);rw[arD _ _ _];have:=q2 j y hy;rw[nS]at this;rw[<-wM];exact this
  |box cs=>rw[hg]at hs;cases hs
  |ra z1 n1 cs1=>rw[hg]at hs;cases hs
  |ms es1=>rw[hg]at hs;cases hs
  |dead=>rw[hg]at hs;cases hs
 | c x => simp only[Mx]at hs;cases x with
  |rd z' n f=>simp only at hs;rcases hb:Nat.beq z z' with _|_;rw[hb]at hs;cases hs;rw[hb]at hs;have hb:=eG hb;subst hb;simp only[aY]at hs;cases hs;cases hx with
   |c hx=>cases hx with
    |qh _ _ a cap=>exact⟨[],aaU⟩
    |rd _ _ _ b off cap c hb hs hn hl hcell h1 iP=>
     refine⟨(List.range (k*z)).map c,⟨_,cap,rfl,.inr ⟨b,off,rfl,λj u hu=> ?_⟩⟩,aj,λu hu=> ?_,λi hi=>⟨hl i hi,λj y hy=> ?_⟩⟩
     .have hj:j<k*z:=(by have:=iI hu;simpa using this);simp[hj]at hu;rw[hcell j hj,hu]
     .simp only[xS,zT]at hu;obtain⟨j,hj,rfl⟩:=hu;exact h1 j hj
     .have hj:j<z:=(by rw[<-hl i hi];exact iI hy);have hiz:i*z+z<=k*z:=(by rw[<-pF];exact jU _ ah);rw[arD _ _ _];exact iP i j y hi hy
  |e0=>simp only at hs;cases hs;cases hx with|c hx=>cases hx with|e0 a=>exact⟨[],aaU⟩
  | val u=> cases hx with
   |c hx=>cases hx;cases v with
    |slice a n c=>cases a with
     |none=>cases n with
      |zero=>simp only at hs;cases hs;exact⟨[],aaU⟩
      |succ n=>cases hs
     |some a=>cases hs
    |_=>cases hs
  |ls t xs=>cases hs
  |lY t xs=>cases hs
 |_=>cases hs
theorem ahJ(z k:Nat){g:Nat->List CV}{v:Value}{news:List Value}{M:Mu}(hs:Src w M z k g v news){w1:World}(hw:w1.heap=w.heap):
  (Builtin.firstCells z k v).run P w1=.ok news.toArray w1:=by
 obtain⟨⟨a,c,rfl,ha⟩,hl,_⟩:=hs;rcases ha with rfl|⟨b,off,rfl,hn⟩
 .have:news=[]:=Ja (aD hl);subst this;cases a<;>simp[Builtin.firstCells,loadCells,loadCellsFrom]
 .refine run_firstCells_some w1 z k ⟨b,off,none⟩ k c news hl (λj v hv=> ?_);rw[addr_add];have:w1.cell? ⟨b,off+j,none⟩=w.cell? ⟨b,off+j,none⟩:=World.cell?_of_block (by rw[hw]);rw[this];exact hn j v hv
theorem aat(z k:Nat){g:Nat->List CV}{v:Value}{news:List Value}{M:Mu}(hs:Src w M z k g v news){w1:World}:(Builtin.lenOf v).run P w1=.ok k w1:=by obtain⟨⟨a,c,rfl,ha⟩,_⟩:=hs;simp[Builtin.lenOf]
theorem aqI{t u e:TypeId}{i:TypeInfo}{zv:Value}{ty:TypeId}(hu:P.underlying t=some (.slice e)){e':TypeId}(hu':P.underlying u=some (.slice e'))(hi:P.info? e=some i)(hz:i.zero=some zv)
  {base:Option Addr} {n cap k:Nat} {x:Value} {olds news:List Value} {g:Nat->List CV} {M:Mu} (hs:Src w M i.size k g x news)
  (ho:∀w1:World,w1.heap=w.heap->(Builtin.firstCells i.size n (.slice base n cap)).run P w1=.ok olds.toArray w1)
  (hgr:cap<n+k) (h63:n+k<=9223372036854775807) (hfit:Builtin.nextslicecap (n+k) cap*i.bytes<=281474976710656):
  (Builtin.append_ #[t,u] ty #[.slice base n cap,x]).run P w=
   .ok (.slice (some ⟨w.heap.size,0,none⟩) (n+k) (grownCap w (n+k) cap e))
    (w.drew.alloc (.cells (olds.toArray++news.toArray++Builtin.zeroCells zv.cells (grownCap w (n+k) cap e-(n+k))) e)):=by
 have hn:¬(n+k<=cap):=ah
 have h63':¬(9223372036854775807<((n:Int)+(k:Int))):=ah
 have h48':¬(281474976710656<Builtin.nextslicecap (n+k) cap*i.bytes):=ah
 have hf:=ahJ (P:=P) i.size k hs (w1:=w.drew) rfl;have hfo:=ho w.drew rfl;have hl:=aat (P:=P) i.size k hs (w1:=w);simp[Builtin.append_,run_underlying hu,run_underlying hu',sizeOf,typeInfo,zeroValue,hi,hz,hl,hn,h63',h48',Question.forced,hf,hfo,newRow,grownCap];congr 2;apply LW;simp[qU]
theorem aib(hu:P.underlying t=some (.slice e))(hu':P.underlying u=some (.slice e'))(hi:P.info? e=some i)
  {b cap:Nat} {x:Value} {news:List Value} {g:Nat->List CV} {M:Mu} (hs:Src w M i.size k g x news) {cur:Array Value} {T:TypeId} (hg:w.heap[b]? =some (.cells cur T (0,0)))
  (hroom:n+k<=cap) (hfit:n*i.size+news.length<=cur.size):
  (Builtin.append_ #[t,u] ty #[.slice (some ⟨b,0,none⟩) n cap,x]).run P w=
   .ok (.slice (some ⟨b,0,none⟩) (n+k) cap) (w.setRow b (splice cur.toList (n*i.size) news).toArray):=by
 have hf:=ahJ (P:=P) i.size k hs (w1:=w) rfl;have hl:=aat (P:=P) i.size k hs (w1:=w);have hst:=run_storeCells_at P b (n*i.size) T news 0 cur w hg (aD hfit) hs.2.2.1;simp only[wN]at hst;simp[Builtin.append_,run_underlying hu,run_underlying hu',sizeOf,typeInfo,hi,hl,hroom,hf,Addr.add_lit,hst,splice,qU]
theorem aqL(hu:P.underlying t=some (.slice e))(hu':P.underlying u=some (.slice e'))(hi:P.info? e=some i)
  {base:Option Addr} {x:Value} {news:List Value} {g:Nat->List CV} {M:Mu} (hs:Src w M i.size 0 g x news):
  (Builtin.append_ #[t,u] ty #[.slice base 0 0,x]).run P w=.ok (.slice base 0 0) w:=by
 have hf:=ahJ (P:=P) i.size 0 hs (w1:=w) rfl;have hl:=aat (P:=P) i.size 0 hs (w1:=w);have hn:news=[]:=Ja (aD hs.2.1);subst hn;cases base<;>simp[Builtin.append_,run_underlying hu,run_underlying hu',sizeOf,typeInfo,hi,hl,hf,storeCells]
theorem aHZ(H:fK X w m h){f:Nat->List CV}{cs:List Bool}{ws:List (Nat×aV)}(hs:dP w m (MX X m h) s v)
  (hd:Bb z (eD h) s=some (n,f,cs,ws)) (hc:∀q∈cs,q=true):
  ∃ base cap kl,v=.slice base n cap/\(∀id o,eY h (ws++ [(id,o)])=(sO h kl).set id o)∧
   ((n=0/\cap=0)∨∃k ok l b T vs,kl=some k/\h[k]? =some ok/\ok.live/\m k=some l/\l.blk=some b/\l.cap=cap/\l.z=z/\l.base=base/\base=some ⟨b,0,none⟩/\n<=cap∧
    w.heap[b]? =some (.cells vs T (0,0))/\vs.size=cap*z/\(∀i,i<vs.size->(vs.getD i undef).oneCell'=true)∧
    ∀i,i<n->(f i).length=z∧∀(j:Nat) x,(f i)[j]? =some x->lu w (MX X m h) x (vs.getD (i*z+j) undef)):=by
 unfold Bb at hd;cases s with
 |own k=>simp only at hd;cases hg:eD h k with
   |arr z' n' f'=>rw[hg]at hd;simp only at hd;rcases hb:Nat.beq z z' with _|_;rw[hb]at hd;cases hd;rw[hb]at hd;have hb:=eG hb;subst hb;simp only[aY]at hd;cases hd;cases hs with|own _ l hk=>have hln:=Wl H hg hk;have hget:=oP hg trivial;obtain⟨l',e1,e2,e3,e4,e5⟩:=H.obj k _ hget;rw[hk]at e1;cases e1;refine⟨l.base,l.cap,some k,by rw[hln],λid o=>rfl,?_⟩;rcases hbl:l.blk with _|b;left;have:=e4 hbl;omega;right;obtain⟨e6,T,vs,e7,e8,e9,e10⟩:=e5 b hbl;refine⟨k,_,l,b,T,vs,rfl,hget,trivial,hk,hbl,rfl,e2,rfl,e6,e3.2,e7,e8,e9,e10⟩
   |box cs=>rw[hg]at hd;cases hd
   |ra z1 n1 cs1=>rw[hg]at hd;cases hd
   |ms es1=>rw[hg]at hd;cases hd
   |dead=>rw[hg]at hd;cases hd
 | c x => simp only[acy]at hd;cases x with
  |e0=>simp only at hd;cases hd;cases hs with|c hs=>cases hs with|e0 a=>exact⟨a,0,none,rfl,λ_ _=>rfl,.inl ⟨rfl,rfl⟩⟩
  | val u=> cases hs with
   | c hs=> cases hs;cases v with
    |slice a n' c=>cases a with
     |none=>cases n' with
      |zero=>cases c with
       |zero=>simp only at hd;cases hd;exact⟨none,0,none,rfl,λ_ _=>rfl,.inl ⟨rfl,rfl⟩⟩
       |succ c=>cases hd
      |succ n'=>cases hd
     |some a=>cases hd
    |_=>cases hd
  |rd z n f=>cases hd
  |ls t xs=>cases hd
  |lY t xs=>cases hd
 |_=>cases hd
theorem ahk(H:fK X w m h){g:Nat->List CV}{cs:List Bool}(hx:dP w m (MX X m h) x v)
  (hs:qC z (eD h) x=some (k,g,cs)) (hc:∀q∈cs,q=true):∃news,Src w (MX X m h) z k g v news:=by
 unfold qC at hs;have hv:=dP.vw H (get:=eD h) (λ_ _=>rfl) hx;split at hs
 .rename_i j;split at hs
  .rename_i z' n f hg;rcases hb:Nat.beq z z' with _|_;rw[hb]at hs;cases hs;rw[hb]at hs;simp only[aY]at hs;cases hs;simp only[Go.AM.vw,hg]at hv;have:=agY (z:=z) (k:=k) (cs:=[decide (0+k<=k)]) (g:=λi=>g (0+i)) H hv (by simp only[Ci,hg,hb,aY]) aj;simpa using this
  .cases hs
 .rename_i t xs;cases hb:Nat.beq z (wd t)with
  |false=>rw[hb]at hs;cases hs
  |true=>rw[hb]at hs;simp only[aY]at hs;cases hs;simp only[Go.AM.vw]at hv;exact agY (cs:=[]) H hv (by simp only[Ci,Mx,hb,aY]) aj
 .exact agY H hx hs hc
theorem aq0{M:Mu}{f g:Nat->List CV}{vs:List Value}(hf:∀i,i<n->(f i).length=z∧∀(j:Nat) x,(f i)[j]? =some x->lu w M x ((vs[i*z+j]?).getD undef))
  (hg:∀i,i<k->(g i).length=z∧∀(j:Nat) x,(g i)[j]? =some x->lu w M x ((vs[(n+i)*z+j]?).getD undef)):
  ∀i,i<n+k->(app n f g i).length=z∧∀(j:Nat) x,(app n f g i)[j]? =some x->lu w M x ((vs[i*z+j]?).getD undef):=by
 intro i hi;unfold app;split
 .rename_i h;exact hf i h
 .rename_i h;have:=hg (i-n) ah;rw[show n+(i-n)=i by omega]at this;exact this
theorem aFG(H:fK X w m h){id:Nat}(hid:h[id]? =some .dead)(hm:m id=none)(hu':P.underlying u=some (.slice e'))
  (hs:dP w m (MX X m h) s sv) (hx:dP w m (MX X m h) x xv) (he:O6 P t id (eD h) s x=some bK) (hc:∀q∈bK.bs,q=true):
  ∃v w' m',(Builtin.append_ #[t,u] ty #[sv,xv]).run P w=.ok v w'/\Stp X w m h w' m' (eY h bK.ws)/\fu w' m' (MX X m' (eY h bK.ws)) bK.r v:=by
 unfold O6 at he;rcases jB:qO P t with _|q;rw[jB]at he;cases he;obtain⟨e,i,z⟩:=q;rw[jB]at he;simp only at he;obtain⟨hu,hi,⟨zv,hz,hzc⟩,hzs,hz1,hpos,Bc⟩:=DK jB;rcases hd:Bb i.size (eD h) s with _|q;rw[hd]at he;cases he;obtain⟨n,f,c1,w1⟩:=q;rcases hsr:qC i.size (eD h) x with _|q;rw[hd,hsr]at he;cases he;obtain⟨k,g,c2⟩:=q;rw[hd,hsr]at he;cases he;obtain⟨news,hS⟩:=ahk H hx hsr (λq hq=>hc q (by simp[hq]));obtain⟨base,cap,kl,rfl,hap,hD⟩:=aHZ H hs hd (λq hq=>hc q (by simp[hq]));have hbytes:(n+k)*i.bytes<=140737488355328:=iZ (hc _ aj);have h63:n+k<=9223372036854775807:=by have:(n+k)*1<=(n+k)*i.bytes:=ajj _ Bc;omega
 have hnl:news.length=k*i.size:=hS.2.1;simp only[hap];by_cases hroom:n+k<=cap
 .rcases hD with⟨h0,h00⟩|⟨kk,ok,l,b,T,vs,rfl,g1,g2,g3,g4,g5,g6,g7,g8,g9,g10,g11,g12,g13⟩
  .have hk0:k=0:=ah;subst hk0;subst h0;subst h00;let l:Loc:=⟨base,0,i.size,none,0⟩
   refine⟨_,w,mU m id l,aqL hu hu' hi hS,?_,?_⟩
   .refine Stp.make H hid hm kl l _ (by exact trivial) rfl rfl (oF.same _) (gI _) (λb hb=> .inl rfl) (λb hb=>by cases hb) (λkM=> ?_);exact⟨l,by simp[mU],rfl,⟨rfl,gI _⟩,λ_=>rfl,λb hb=>by cases hb⟩
   .exact .own id l (bU rfl)
  .subst g8;have hfit:n*i.size+news.length<=vs.size:=(by rw[hnl,g11,<-nS];exact jU _ hroom);refine⟨_,_,mU m id {l with n:=n+k},aib hu hu' hi hS g10 hroom hfit,?_,?_⟩
   .refine Stp.make H hid hm (some kk) {l with n:=n+k} _ (by exact trivial) rfl rfl ⟨rfl,λ_=>gI _⟩ aj (λc hcb=> ?_) (λc hcb=> ?_) (λkM=> ?_)
    .by_cases hcc:c=b
     .subst hcc;exact .inr ⟨kk,ok,l,rfl,g1,g2,g3,g4⟩
     .exact .inl (setRow_other w b c _ hcc)
    .have hcb:l.blk=some c:=hcb;rw[g4]at hcb;cases hcb;exact .inr ⟨kk,ok,l,rfl,g1,g2,g3,g4⟩
    .refine⟨{l with n:=n+k},bU rfl,g6,⟨rfl,by show n+k<=l.cap;omega⟩,λhh=>(by have hh:l.blk=none:=hh;rw[g4]at hh;cases hh),λc hcb=> ?_⟩;have hcb:l.blk=some c:=hcb;obtain rfl:b=c:=(by rw[g4]at hcb;exact rP hcb);refine⟨g7,T,_,setRow_heap w b vs _ T _ g10,?_,?_,?_⟩
     .rw[zU,yG _ _ _ (aD hfit),g5];simpa using g11
     .exact F7 (aD hfit) (λj hj=>by have:=g12 j (aD hj);rwa [mY]at this) hS.2.2.1
     .simp only[wE];refine aq0 (λq hq=> ?_) (λq hq=> ?_)
      .obtain⟨p1,p2⟩:=g13 q hq;refine⟨p1,λj y hy=> ?_⟩;have hj:j<i.size:=(by rw[<-p1];exact iI hy);have hqz:q*i.size+i.size<=n*i.size:=(by rw[<-pF];exact jU _ ah);rw[sF _ _ _ (aD hfit),cZ ah];have:=(p2 j y hy).later kM;rwa [mY]at this
      .obtain⟨p1,p2⟩:=hS.2.2.2 q hq;refine⟨p1,λj y hy=> ?_⟩;have hj:j<i.size:=(by rw[<-p1];exact iI hy);have hqz:q*i.size+i.size<=k*i.size:=(by rw[<-pF];exact jU _ ah);rw[sF _ _ _ (aD hfit),nS,bU ah];have e:n*i.size+q*i.size+j-n*i.size=q*i.size+j:=ah;rw[e];exact(p2 j y hy).later kM
   .show dP _ (mU m id {l with n:=n+k}) _ (.own id) _;rw[<-g7,<-g5];exact .own id {l with n:=n+k} (bU rfl)
 .have hgrow:cap<n+k:=ah
  have hfit:=growslice_fits hgrow hbytes
  obtain⟨olds,ho1,ho2,ho3,ho4⟩:∃olds:List Value,olds.length=n*i.size/\(∀u∈olds,u.oneCell'=true)∧
    (∀w1:World,w1.heap=w.heap->(Builtin.firstCells i.size n (.slice base n cap)).run P w1=.ok olds.toArray w1)∧
    ∀q,q<n->(f q).length=i.size∧∀(j:Nat) x,(f q)[j]? =some x->lu w (MX X m h) x ((olds[q*i.size+j]?).getD undef):=by
   rcases hD with⟨h0,h00⟩|⟨kk,ok,l,b,T,vs,rfl,g1,g2,g3,g4,g5,g6,g7,g8,g9,g10,g11,g12,g13⟩
   .subst h0;refine⟨[],aj,aj,λw1 _=> ?_,λq hq=>ah⟩;cases base<;>simp[Builtin.firstCells,loadCells,loadCellsFrom]
   .subst g8;have hle:n*i.size<=vs.size:=(by rw[g11];exact jU _ g9);refine⟨vs.toList.take (n*i.size),ay,λu hu=> ?_,λw1 hw1=> ?_,λq hq=> ?_⟩
    .obtain⟨j,hj,rfl⟩:=zh hu;have hj':j<n*i.size:=(by simp at hj;omega);have:=g12 j ah;rw[mY]at this;rw[ai8];have hj2:j<vs.toList.length:=ay;rw[jN hj2]at this;exact this
    .refine run_firstCells_some w1 i.size n ⟨b,0,none⟩ n cap _ ay (λj v hv=> ?_);rw[addr_add];have hj:j<n*i.size:=(by have:=iI hv;simp at this;omega);rw[cell_of_row w1 b _ vs T _ (by rw[hw1];exact g10)];rw[tu,bU hj]at hv;simpa using hv
    .obtain⟨p1,p2⟩:=g13 q hq;refine⟨p1,λj y hy=> ?_⟩;have hj:j<i.size:=(by rw[<-p1];exact iI hy);have hqz:q*i.size+i.size<=n*i.size:=(by rw[<-pF];exact jU _ ah);rw[tu,bU ah];have:=p2 j y hy;rwa [mY]at this
  have hrun:=aqI (ty:=ty) hu hu' hi hz hS ho3 hgrow h63 hfit;have hge:=grownCap_ge w (n+k) cap e;generalize grownCap w (n+k) cap e=nc at hrun hge;have hsz:(olds.toArray++news.toArray++Builtin.zeroCells zv.cells (nc-(n+k))).size=nc*i.size:=by simp only[ajO,zU,size_zeroCells,hzc,hzs,ho1,hnl,<-nS];congr 1;omega
  have htl:(olds.toArray++news.toArray++Builtin.zeroCells zv.cells (nc-(n+k))).toList=olds++(news++(Builtin.zeroCells zv.cells (nc-(n+k))).toList):=aj
  obtain⟨m',hSt,iP⟩:=Stp.abR H hid hm (w1:=w.drew) rfl rfl rfl ⟨rfl,λ_=>abA _⟩ kl (z:=i.size) (n:=n+k) (cap:=nc) (f:=app n f g) (vs:=olds.toArray++news.toArray++Builtin.zeroCells zv.cells (nc - (n+k))) e hge hsz
   (λq hq=>by
    rw[mY,htl];rcases mI q olds.length with h1|h1
    .rw[pX h1,jN h1];exact ho2 _ (yN h1)
    .rw[uw h1];rcases mI (q-olds.length) news.length with h2|h2
     .rw[pX h2,jN h2];exact hS.2.2.1 _ (yN h2)
     .rw[uw h2];have h3:q-olds.length-news.length<(Builtin.zeroCells zv.cells (nc-(n+k))).toList.length:=(by have h5:(Builtin.zeroCells zv.cells (nc-(n+k))).toList.length=(nc-(n+k))*i.size:=(by simp only[ajN,size_zeroCells,hzc,hzs]);rw[h5];rw[hsz]at hq;have e2:(nc-(n+k))*i.size+(n+k)*i.size=nc*i.size:=(by rw[<-nS];congr 1;omega);rw[nS]at e2;omega);rw[jN h3];simp only[Ls,asQ,Builtin.zeroCells,Array.getElem_map,asP,hzc];have h4:(q-olds.length-news.length)%z.size<z.size:=uD _ ah;simp only[h4,AP]
      exact(LV.1 hz1) _ h4)
   (by
    simp only[mY,htl];refine aq0 (λq hq=> ?_) (λq hq=> ?_)
    .obtain⟨p1,p2⟩:=ho4 q hq;refine⟨p1,λj y hy=> ?_⟩;have hj:j<i.size:=(by rw[<-p1];exact iI hy);have hqz:q*i.size+i.size<=n*i.size:=(by rw[<-pF];exact jU _ ah);rw[pX ah];exact p2 j y hy
    .obtain⟨p1,p2⟩:=hS.2.2.2 q hq;refine⟨p1,λj y hy=> ?_⟩;have hj:j<i.size:=(by rw[<-p1];exact iI hy);have hqz:q*i.size+i.size<=k*i.size:=(by rw[<-pF];exact jU _ ah);rw[nS,uw ah,pX ah];have e:n*i.size+q*i.size+j-olds.length=q*i.size+j:=ah;rw[e]
     exact p2 j y hy)
  exact⟨_,_,m',hrun,hSt,iP⟩
theorem aIj(H:fK X w m h)(hu':P.underlying u=some (.slice e')){lo n1:Nat}
  (hs:dP w m (MX X m h) (.sl k lo n1) sv) (hx:dP w m (MX X m h) x xv) (he:P5 P t (eD h) k lo n1 x=some bK) (hc:∀q∈bK.bs,q=true):
  ∃v w',(Builtin.append_ #[t,u] ty #[sv,xv]).run P w=.ok v w'/\Stp X w m h w' m (eY h bK.ws)/\fu w' m (MX X m (eY h bK.ws)) bK.r v:=by
 unfold P5 at he;rcases jB:qO P t with _|q;rw[jB]at he;cases he;obtain⟨e,i,z⟩:=q;rw[jB]at he;simp only at he;obtain⟨hu,hi,⟨zv,hz,hzc⟩,hzs,hz1,hpos,Bc⟩:=DK jB;rcases hsr:qC i.size (eD h) x with _|q;rw[hsr]at he;cases he;obtain⟨mm,g,c2⟩:=q;rw[hsr]at he;simp only at he;split at he
 .rename_i z' n f hg;cases hb:(Nat.beq z' i.size&&Nat.beq lo 0)with
  |false=>rw[hb]at he;cases he
  | true => rw[hb]at he;rw[dD]at hb;have hb1:=eG hb.1;have hb2:=eG hb.2;subst hb1;subst hb2;simp only[aY]at he;cases he;have hle:n1+mm<=n:=iZ (hc _ aj);obtain⟨news,hS⟩:=ahk H hx hsr (λq hq=>hc q (by simp[hq]));cases hs with
   | sl _ _ _ l a c hk h0 h1 h2 h3=> have hget:=oP hg trivial;obtain⟨l',e1,e2,e3,e4,e5⟩:=H.obj k _ hget;rw[hk]at e1;cases e1;obtain⟨rfl,rfl⟩:=h0 rfl;have hnl:news.length=mm*i.size:=hS.2.1;cases hbk:l.blk with
    |none=>
     have hcap:=e4 hbk;have hn0:n1=0:=ah;have hm0:mm=0:=ah;subst hn0;subst hm0;rw[hcap];refine⟨_,w,aqL hu hu' hi hS,?_,?_⟩
     .have hcp:wo 0 0 f g=f:=(by funext q;unfold wo;rw[cZ ah]);have hset:h.set k (.arr i.size n f)=h:=by
       apply Ed;intro q;by_cases hq:k=q
       .subst hq;rw[uz (iI hget),hget]
       .rw[sI hq]
      show Stp X w m h w m (h.set k (.arr i.size n (wo 0 0 f g)));rw[hcp,hset];exact Stp.refl H
     .refine dP.sl k 0 0 l _ 0 hk (λ_=>⟨rfl,hcap.symm⟩) (λq=>absurd rfl q) (gI _) ah
    | some b=>
     obtain⟨e6,T,vs,e7,e8,e9,e10⟩:=e5 b hbk;have hroom:n1+mm<=l.cap:=ah;have hfit:n1*i.size+news.length<=vs.size:=(by rw[hnl,e8,<-nS];exact jU _ hroom);rw[e6];refine⟨_,_,aib hu hu' hi hS e7 hroom hfit,?_,?_⟩
     .refine Stp.write H hget trivial hk hbk rfl rfl ⟨rfl,λ_=>gI _⟩ aj (λc _ hc=>setRow_other w b c _ hc) (λkM=> ?_);refine⟨l,hk,e2,e3,e4,λb' hb'=> ?_⟩;obtain rfl:b=b':=(by rw[hbk]at hb';exact rP hb');refine⟨e6,T,_,setRow_heap w b vs _ T _ e7,?_,?_,λq hq=> ?_⟩
      .rw[zU,yG _ _ _ (aD hfit)];simpa using e8
      .exact F7 (aD hfit) (λj hj=>by have:=e9 j (aD hj);rwa [mY]at this) hS.2.2.1
      .unfold wo;split
       .rename_i hq2;obtain⟨p1,p2⟩:=hS.2.2.2 (q-n1) ah;refine⟨p1,λj y hy=> ?_⟩;have hj:j<i.size:=(by rw[<-p1];exact iI hy);have hq3:(q-n1)*i.size+i.size<=mm*i.size:=(by rw[<-pF];exact jU _ ah);have hq4:q*i.size=n1*i.size+(q-n1)*i.size:=(by rw[<-nS];congr 1;omega);rw[wE,sF _ _ _ (aD hfit),hnl,bU ah];have e:q*i.size+j-n1*i.size=(q-n1)*i.size+j:=ah;rw[e];exact(p2 j y hy).later kM
       .rename_i hq2;obtain⟨p1,p2⟩:=e10 q hq;refine⟨p1,λj y hy=> ?_⟩;have hj:j<i.size:=(by rw[<-p1];exact iI hy);have Xr:q<n1\/n1+mm<=q:=ah;have hq6:¬(n1*i.size<=q*i.size+j/\q*i.size+j<n1*i.size+mm*i.size):=by
         rcases Xr with Xr|Xr
         .have:q*i.size+i.size<=n1*i.size:=(by rw[<-pF];exact jU _ Xr);omega
         .have:(n1+mm)*i.size<=q*i.size:=jU _ Xr;rw[nS]at this;omega
        rw[wE,sF _ _ _ (aD hfit),hnl,cZ hq6];have:=(p2 j y hy).later kM;rwa [mY]at this
     .refine dP.sl k 0 (n1+mm) l _ _ hk (λ_=>⟨e6.symm,rfl⟩) (λ_=>⟨b,hbk,aj⟩) hroom ah
 .cases he
theorem aGs(H:fK X w m h){id:Nat}(hid:h[id]? =some .dead)(hm:m id=none){t u ty:TypeId}{e':TypeId}(hu':P.underlying u=some (.slice e')){s x:SC}{sv xv:Value}{bK:Eff}
  (hs:dP w m (MX X m h) s sv) (hx:dP w m (MX X m h) x xv) (he:Pj P t id (eD h) s x=some bK) (hc:∀q∈bK.bs,q=true):
  ∃v w' m',(Builtin.append_ #[t,u] ty #[sv,xv]).run P w=.ok v w'/\Stp X w m h w' m' (eY h bK.ws)/\fu w' m' (MX X m' (eY h bK.ws)) bK.r v:=by
 unfold Pj at he;split at he
 .obtain⟨v,w',q1,q2,q3⟩:=aIj H hu' hs hx he hc;exact⟨v,w',m,q1,q2,q3⟩
 .exact aFG H hid hm hu' hs hx he hc
end
end
section
variable {t ty:TypeId}{s x:SC}{sv:Value}{bK:Eff}{f o:Nat}{e:TypeId}{ie:TypeInfo}{n b:Nat}{lo:Option Int}{v:Value}{hi mx:Option Int}{yC hiv MN:Option Value}
section
variable {P:Program} {X:Mu} {w:World} {m:gU} {h:List aV} {M:Mu}
theorem aHo(H : fK X w m h){u:TypeId}{xv:Value}
    (hs:dP w m (MX X m h) s sv) (hx:dP w m (MX X m h) x xv) (he:Py P t (eD h) s x=some bK) (hc:∀q∈bK.bs,q=true):
    ∃v w',(Builtin.copy_ #[t,u] ty #[sv,xv]).run P w=.ok v w'/\Stp X w m h w' m (eY h bK.ws)/\fu w' m (MX X m (eY h bK.ws)) bK.r v:=by
  unfold Py at he;rcases jB:qO P t with _|q;rw[jB]at he;cases he;obtain⟨e,i,z⟩:=q;rw[jB]at he;simp only at he;obtain⟨hu,hi,⟨zv,hz,hzc⟩,hzs,hz1,hpos,Bc⟩:=DK jB;cases s with
  | sl k lo len => rcases hsr:qC i.size (eD h) x with _|q;rw[hsr]at he;cases he;obtain⟨mm,g,c2⟩:=q;rw[hsr]at he;simp only at he;cases hg:eD h k with
    | arr z' n f=> rw[hg]at he;simp only at he;rcases hb:Nat.beq z' i.size with _|_;rw[hb]at he;cases he;rw[hb]at he;have hb:=eG hb;subst hb;simp only[aY]at he;cases he;have hle:lo+len<=n:=iZ (hc _ aj);obtain⟨news,hS⟩:=ahk H hx hsr (λq hq=>hc q (by simp[hq]));cases hs with
      | sl _ _ _ l a c hk h0 h1 h2 h3=>
        have hget:=oP hg trivial;obtain⟨l',e1,e2,e3,e4,e5⟩:=H.obj k _ hget;rw[hk]at e1;cases e1;have hlen:=aat (P:=P) i.size mm hS (w1:=w)
        -- the first cells of the source
        have asa:(Builtin.firstCells i.size (min mm len) xv).run P w= .ok (news.take (min mm len*i.size)).toArray w:=by
          obtain⟨⟨a',c',rfl,ha'⟩,hnl,_⟩:=hS;rcases ha' with rfl|⟨b',off',rfl,hn'⟩
          · have:news=[]:=Ja (aD hnl);subst this;cases a'<;>simp[Builtin.firstCells,loadCells,loadCellsFrom]
          · refine run_firstCells_some w i.size (min mm len) ⟨b',off',none⟩ mm c' _ ?_ (λj v hv=> ?_)
            · rw[rM,hnl];have:min mm len*i.size<=mm*i.size:=jU _ (aji _ _);omega
            · rw[addr_add];have hj:=iI hv;simp at hj;rw[tu,bU ah]at hv;exact hn' j v hv
        by_cases hz0:min mm len=0
        · refine⟨_,w,?_,?_,.c (.val _)⟩
          · have hf2:(Builtin.firstCells i.size (Nat.min mm len) xv).run P w=.ok (news.take (min mm len*i.size)).toArray w:=asa;rw[hz0]at hf2;simp only[abC,List.take_zero]at hf2;have e0:Nat.min mm len=0:=hz0;rw[e0]at hf2;cases a<;>simp[Builtin.copy_,run_underlying hu,hlen,sizeOf,typeInfo,hi,e0,hf2,storeCells,goInt,hz0]
          · have:Stp X w m h w m h:=Stp.refl H;have hcp:wo lo (min mm len) f g=f:=(by funext q;unfold wo;rw[hz0,cZ ah]);have hset:h.set k (.arr i.size n f)=h:=by
              apply Ed;intro q;by_cases hq:k=q
              · subst hq;rw[uz (iI hget),hget]
              · rw[sI hq]
            show Stp X w m h w m (h.set k (.arr i.size n (wo lo (min mm len) f g)));rw[hcp,hset];exact this
        · have hl0:len≠0:=ah;obtain⟨b,hbk,ha⟩:=h1 hl0;obtain⟨e6,T,vs,e7,e8,e9,e10⟩:=e5 b hbk;have hnl:news.length=mm*i.size:=hS.2.1;have hmn:min mm len*i.size<=mm*i.size:=jU _ (aji _ _);have hln:(news.take (min mm len*i.size)).length=min mm len*i.size:=(by rw[rM,hnl];omega);have hfit:lo*i.size+(news.take (min mm len*i.size)).length<=vs.size:=(by rw[hln,e8,<-nS];exact jU _ (by have:=Nat.min_le_right mm len;omega));have Xo:∀u∈news.take (min mm len*i.size),u.oneCell'=true:=λu hu=>hS.2.2.1 u (abw hu);have hst:=run_storeCells_at P b (lo*i.size) T (news.take (min mm len*i.size)) 0 vs w e7 (aD hfit) Xo;simp only[wN]at hst;refine⟨.int .i64 ((min mm len:Nat):Int),w.setRow b (splice vs.toList (lo*i.size) (news.take (min mm len*i.size))).toArray,?_,?_,.c (.val _)⟩
          · have hf2:(Builtin.firstCells i.size (Nat.min mm len) xv).run P w=.ok (news.take (min mm len*i.size)).toArray w:=asa;rw[ha,e2];simp[Builtin.copy_,run_underlying hu,hlen,sizeOf,typeInfo,hi,hf2,hst,goInt,splice,qU];first|done|rfl
          · refine Stp.write H hget trivial hk hbk rfl rfl ⟨rfl,λ_=>gI _⟩ aj (λc _ hc=>setRow_other w b c _ hc) (λkM=> ?_);refine⟨l,hk,e2,e3,e4,λb' hb'=> ?_⟩;obtain rfl:b=b':=(by rw[hbk]at hb';exact rP hb');refine⟨e6,T,_,setRow_heap w b vs _ T _ e7,?_,?_,λq hq=> ?_⟩
            · rw[zU,yG _ _ _ (aD hfit)];simpa using e8
            · exact F7 (aD hfit) (λj hj=>by have:=e9 j (aD hj);rwa [mY]at this) Xo
            · unfold wo;split
              · rename_i hq2;obtain⟨p1,p2⟩:=hS.2.2.2 (q-lo) (by have:=aji mm len;omega);refine⟨p1,λj y hy=> ?_⟩;have hj:j<i.size:=(by rw[<-p1];exact iI hy);have hq3:(q-lo)*i.size+i.size<=min mm len*i.size:=(by rw[<-pF];exact jU _ ah);have hq4:q*i.size=lo*i.size+(q-lo)*i.size:=(by rw[<-nS];congr 1;omega);rw[wE,sF _ _ _ (aD hfit),hln,bU ah];have e:q*i.size+j-lo*i.size=(q-lo)*i.size+j:=ah;rw[e,tu,bU ah];exact(p2 j y hy).later kM
              · rename_i hq2;obtain⟨p1,p2⟩:=e10 q hq;refine⟨p1,λj y hy=> ?_⟩;have hj:j<i.size:=(by rw[<-p1];exact iI hy);rw[wE,sF _ _ _ (aD hfit),hln,cZ ?_]
                · have:=(p2 j y hy).later kM;rwa [mY]at this
                · rcases mI q lo with h'|h'
                  · have:q*i.size+i.size<=lo*i.size:=(by rw[<-pF];exact jU _ ah);omega
                  · have:(lo+min mm len)*i.size<=q*i.size:=jU _ ah;rw[nS]at this;omega
    |box cs=>rw[hg]at he;cases he
    |ra z1 n1 cs1=>rw[hg]at he;cases he
    |ms es1=>rw[hg]at he;cases he
    |dead=>rw[hg]at he;cases he
  |_=>cases qC i.size (eD h) x<;>cases he
theorem aIk(H:fK X w m h){t u ty:TypeId}{s x:SC}{sv xv:Value}{bK:Eff}
    (hs:dP w m (MX X m h) s sv) (hx:dP w m (MX X m h) x xv) (he:abK P t (eD h) s x=some bK) (hc:∀q∈bK.bs,q=true):
    ∃v w',(Builtin.copy_ #[t,u] ty #[sv,xv]).run P w=.ok v w'/\Stp X w m h w' m (eY h bK.ws)/\fu w' m (MX X m (eY h bK.ws)) bK.r v:=
  aHo H (dP.vw H (λ_ _=>rfl) hs) hx he hc
theorem aGu(H : fK X w m h){ts:List TypeId}
    (hs:dP w m (MX X m h) s sv) (he:Pk P t (eD h) s=some bK) (hc:∀q∈bK.bs,q=true):
    ∃v w',(Builtin.clear_ (t::ts).toArray ty #[sv]).run P w=.ok v w'/\Stp X w m h w' m (eY h bK.ws)/\fu w' m (MX X m (eY h bK.ws)) bK.r v:=by
  unfold Pk at he;rcases jB:qO P t with _|q;rw[jB]at he;cases he;obtain⟨e,i,z⟩:=q;rw[jB]at he;simp only at he;obtain⟨hu,hi,⟨zv,hz,hzc⟩,hzs,hz1,hpos,Bc⟩:=DK jB;cases s with
  | sl k lo len => simp only at he;cases hg:eD h k with
    | arr z' n f=>
      rw[hg]at he;simp only at he;rcases hb:Nat.beq z' i.size with _|_;rw[hb]at he;cases he;rw[hb]at he;have hb:=eG hb;subst hb;simp only[aY]at he;cases he;have hle:lo+len<=n:=iZ (hc _ aj);have hunit:∀(w':World) (M':Mu),fu w' m M' (.mW []) (.tuple #[]):=λw' M'=>⟨#[],rfl,rfl,λq a hq=>by simp at hq⟩
      cases hs with
      | sl _ _ _ l a c hk h0 h1 h2 h3=>
        have hget:=oP hg trivial;obtain⟨l',e1,e2,e3,e4,e5⟩:=H.obj k _ hget;rw[hk]at e1;cases e1;by_cases hz0:len=0
        · refine⟨.tuple #[],w,?_,?_,hunit _ _⟩
          · subst hz0;cases a<;>simp[Builtin.clear_,run_underlying hu]
          · have:Stp X w m h w m h:=Stp.refl H;have hcp:wo lo len f (λ_=>z.toList.map .val)=f:=(by funext q;unfold wo;rw[hz0,cZ ah]);have hset:h.set k (.arr i.size n f)=h:=by
              apply Ed;intro q;by_cases hq:k=q
              · subst hq;rw[uz (iI hget),hget]
              · rw[sI hq]
            show Stp X w m h w m (h.set k (.arr i.size n (wo lo len f (λ_=>z.toList.map .val))));rw[hcp,hset];exact this
        · obtain⟨b,hbk,ha⟩:=h1 hz0;obtain⟨e6,T,vs,e7,e8,e9,e10⟩:=e5 b hbk;obtain⟨news,hnews⟩:∃news,news=(Builtin.zeroCells z len).toList:=⟨_,rfl⟩;have hnl:news.length=len*i.size:=(by rw[hnews];simp[Builtin.zeroCells,hzs]);have hat:∀q,q<len*i.size->news[q]? =some (z[q%z.size]'(uD _ ah)):=(by intro q hq;have h2:q%z.size<z.size:=uD _ ah;have hq':q<len*z.size:=(by rw[hzs];exact hq);rw[hnews];simp[Builtin.zeroCells,hq',h2]);have Xo:∀u∈news,u.oneCell'=true:=(by intro u hu;obtain⟨q,hq,rfl⟩:=zh hu;have h2:q%z.size<z.size:=uD _ ah;have:=hat q ah;rw[jN hq]at this;rw[rP this];exact(LV.1 hz1) _ h2);have hfit:lo*i.size+news.length<=vs.size:=(by rw[hnl,e8,<-nS];exact jU _ ah);have hst:=run_storeCells_at P b (lo*i.size) T news 0 vs w e7 (aD hfit) Xo;simp only[wN]at hst;refine⟨.tuple #[],w.setRow b (splice vs.toList (lo*i.size) news).toArray,?_,?_,hunit _ _⟩
          · rw[ha,e2];rw[hnews]at hst;have hzv:=FR (P:=P) (w:=w) hi hz;cases len with
            |zero=>exact absurd rfl hz0
            |succ len=>
            simp only[Builtin.clear_,List.getElem?_toArray,abn,Sem.run_bind,run_underlying hu,Result.andThen_ok,hzv,hzc,Sem.run_pure]
            first
              |(rw[hst];simp[splice,hnews,qU];done)
              |(simp[hzv,hzc,hst,splice,hnews,qU];done)
          · refine Stp.write H hget trivial hk hbk rfl rfl ⟨rfl,λ_=>gI _⟩ aj (λc _ hc=>setRow_other w b c _ hc) (λkM=> ?_);refine⟨l,hk,e2,e3,e4,λb' hb'=> ?_⟩;obtain rfl:b=b':=(by rw[hbk]at hb';exact rP hb');refine⟨e6,T,_,setRow_heap w b vs _ T _ e7,?_,?_,λq hq=> ?_⟩
            · rw[zU,yG _ _ _ (aD hfit)];simpa using e8
            · exact F7 (aD hfit) (λj hj=>by have:=e9 j (aD hj);rwa [mY]at this) Xo
            · unfold wo;split
              · rename_i hq2;refine⟨by simp[hzs],λj y hy=> ?_⟩;rw[mG]at hy;rcases hzj:z.toList[j]? with _|v;rw[hzj]at hy;cases hy;rw[hzj]at hy;cases hy;have hj:j<z.size:=(by have:=iI hzj;simpa using this);have hq3:(q-lo)*i.size+i.size<=len*i.size:=(by rw[<-pF];exact jU _ ah);have hq4:q*i.size=lo*i.size+(q-lo)*i.size:=(by rw[<-nS];congr 1;omega);rw[wE,sF _ _ _ (aD hfit),hnl,bU (by rw[hzs]at hj;omega)];have e:q*i.size+j-lo*i.size=(q-lo)*i.size+j:=ah;rw[e,hat _ (by rw[hzs]at hj;omega)];have hmod:((q-lo)*i.size+j)%z.size=j:=(by rw[<-hzs,Eh,abB,PZ hj]);have hv:v=z[j]:=(by simp[hj]at hzj;exact hzj.symm);have:z[((q-lo)*i.size+j)%z.size]'(uD _ ah)=v:=(by rw[hv];congr 1);rw[Ls,this];exact .val v
              · rename_i hq2;obtain⟨p1,p2⟩:=e10 q hq;refine⟨p1,λj y hy=> ?_⟩;have hj:j<i.size:=(by rw[<-p1];exact iI hy);rw[wE,sF _ _ _ (aD hfit),hnl,cZ ?_]
                · have:=(p2 j y hy).later kM;rwa [mY]at this
                · rcases mI q lo with h'|h'
                  · have:q*i.size+i.size<=lo*i.size:=(by rw[<-pF];exact jU _ ah);omega
                  · have:(lo+len)*i.size<=q*i.size:=jU _ ah;rw[nS]at this;omega
    |box cs=>rw[hg]at he;cases he
    |ra z1 n1 cs1=>rw[hg]at he;cases he
    |ms es1=>rw[hg]at he;cases he
    |dead=>rw[hg]at he;cases he
  |_=>cases he
theorem aHn(H:fK X w m h){t ty:TypeId}{ts:List TypeId}{s:SC}{sv:Value}{bK:Eff}
    (hs:dP w m (MX X m h) s sv) (he:aa7 P t (eD h) s=some bK) (hc:∀q∈bK.bs,q=true):
    ∃v w',(Builtin.clear_ (t::ts).toArray ty #[sv]).run P w=.ok v w'/\Stp X w m h w' m (eY h bK.ws)/\fu w' m (MX X m (eY h bK.ws)) bK.r v:=
  aGu H (dP.vw H (λ_ _=>rfl) hs) he hc
theorem aou{s:TypeId}(he:Pz P s f=some (o,t)):
    ∃fs fl i,P.underlying s=some (.struct fs)/\fs[f]? =some fl/\P.info? fl.type=some i/\i.size≠0/\o=fl.offset/\t=fl.type:=by
  unfold Pz at he;rcases hu:P.underlying s with _|d;rw[hu]at he;cases he;rw[hu]at he;cases d with
  |struct fs=>simp only at he;rcases hf:fs[f]? with _|fl;rw[hf]at he;cases he;rw[hf]at he;simp only at he;rcases hi:P.info? fl.type with _|i;rw[hi]at he;cases he;rw[hi]at he;simp only at he;cases hb:Nat.beq i.size 0 with
    |true=>rw[hb]at he;cases he
    |false=>rw[hb]at he;simp only[aZ]at he;cases he;refine⟨fs,fl,i,rfl,hf,hi,λh0=> ?_,rfl,rfl⟩;rw[h0]at hb;cases hb
  |_=>cases he
theorem agX{s:TypeId}(he:Pz P s f=some (o,t))(b off:Nat):
    (Instr.fieldAt s (.pointer (some ⟨b,off,none⟩)) f).run P w=.ok (.pointer (some ⟨b,off+o,none⟩)) w:=by
  obtain⟨fs,fl,i,hu,hf,hi,h0,rfl,rfl⟩:=aou he;simp only[Instr.fieldAt,Sem.run_bind,run_underlying hu,Result.andThen_ok,hf,Instr.sureAddr,Sem.run_pure,fieldPlace,Aw hi,cZ h0,addr_add]
theorem aEk{s:TypeId}{x:SC}{v:Value}{f:Nat}{bK:Eff}(hx:dP w m M x v)(he:agQ P s x f=some bK):
    ∃u,(Instr.fieldAt s v f).run P w=.ok u w/\bK.ws=[]/\fu w m M bK.r u:=by
  unfold agQ at he;rcases hf:Pz P s f with _|q;rw[hf]at he;cases he;obtain⟨o,t⟩:=q;rw[hf]at he;cases x with
  |pb k off=>cases he;cases hx with|pb _ _ b l hk hb=>exact⟨_,agX hf b off,rfl,.pb k (off+o) b l hk hb⟩
  |pe k i off=>cases he;cases hx with|pe _ _ _ b l hk hb hi=>refine⟨_,agX hf b _,rfl,?_⟩;rw[wM];exact .pe k i (off+o) b l hk hb hi
  | rp cs=> cases he;cases hx with
    |rp _ b off c hb hs hc h=>
      refine⟨_,agX hf b off,rfl,?_⟩;refine .rp (cs.drop o) b (off+o) (λj=>c (o+j)) hb hs (λj hj=> ?_) (λj x hx=> ?_)
      · rw[wM];exact hc _ (by simp at hj;omega)
      · rw[yL]at hx;exact h _ _ hx
  |_=>cases he
theorem aqM{t:TypeId}{cs:List SC}{vs:Array Value}{o:Nat}{v:AV}(hL:nW w m M cs vs)(hl:yh P t cs o=some v):
    ∃u,(part t vs o).run P w=.ok u w/\jo w m M v u:=by
  unfold yh at hl;rcases hu:P.underlying t with _|d;rw[hu]at hl;cases hl;rw[hu]at hl;simp only at hl;cases hag:zX P t with
  | true=>
    rw[hag]at hl;rcases hi:P.info? t with _|i;rw[hi]at hl;simp at hl;rw[hi]at hl;simp only[aY]at hl;split at hl
    · rename_i hle;cases hl;have hagg:(isAgg t).run P w=.ok true w:=(by unfold zX at hag;rw[hu]at hag;unfold isAgg;simp only[Sem.run_bind,run_underlying hu,Result.andThen_ok];cases d<;>simp_all);refine⟨.agg (vs.extract o (o+i.size)),?_,_,rfl,?_,λj x hx=> ?_⟩
      · simp only[part,Sem.run_bind,hagg,Result.andThen_ok,l7,Aw hi,Sem.run_pure]
      · simp[hL.1];omega
      · have hj:=iI hx;simp at hj;rw[tu,bU ah,yL]at hx;have:=hL.2 _ _ hx;rw[mY]at this⊢;simpa[tu,yL,show j<i.size by omega]using this
    · cases hl
  |false=>
    rw[hag]at hl;simp only[aZ]at hl;rcases hx:cs[o]? with _|x;rw[hx]at hl;cases hl;rw[hx]at hl;cases hl;have hagg:(isAgg t).run P w=.ok false w:=(by unfold zX at hag;rw[hu]at hag;unfold isAgg;simp only[Sem.run_bind,run_underlying hu,Result.andThen_ok];cases d<;>simp_all);have ho:o<vs.size:=(by rw[hL.1];exact iI hx);refine⟨vs[o],?_,?_⟩
    · simp only[part,Sem.run_bind,hagg,Result.andThen_ok,nD,mJ,Ji ho,Sem.run_pure]
    · have:=hL.2 _ _ hx;have e:vs.getD o undef=vs[o]:=(by simp[Array.getD,ho]);rw[e]at this;exact this
theorem run_indexAt_slice{t e:TypeId}{ie:TypeInfo}(hu:P.underlying t=some (.slice e))(hi:P.info? e=some ie){k:IntKind}{i:Int}{b off n c:Nat}(hb:0<=i/\i<n):
    (Instr.indexAt t (.slice (some ⟨b,off,none⟩) n c) (.int k i)).run P w=.ok (.pointer (some ⟨b,off+i.toNat*ie.size,none⟩)) w:=by
  simp[Instr.indexAt,asIntOf,run_underlying hu,hb,sizeOf,typeInfo,hi,addr_add]
theorem run_indexAt_array(hu:P.underlying t=some (.array n e))(hi:P.info? e=some ie){k:IntKind}{i:Int}{off:Nat}(hb:0<=i/\i<n):
    (Instr.indexAt t (.pointer (some ⟨b,off,none⟩)) (.int k i)).run P w=.ok (.pointer (some ⟨b,off+i.toNat*ie.size,none⟩)) w:=by
  simp[Instr.indexAt,asIntOf,run_underlying hu,hb,sizeOf,typeInfo,hi,addr_add,Instr.sureAddr]
theorem agb{t:TypeId}{x:SC}{v:Value}{k:IntKind}{i:Int}{bK:Eff}(H:fK X w m h)(hx:dP w m (MX X m h) x v)(he:OH P t (eD h) x i=some bK)(hc:∀q∈bK.bs,q=true):
    ∃u,(Instr.indexAt t v (.int k i)).run P w=.ok u w/\bK.ws=[]/\fu w m (MX X m h) bK.r u:=by
  unfold OH at he;rcases hu:P.underlying t with _|d;rw[hu]at he;cases he;rw[hu]at he;cases d with
  | slice e => simp only at he;rcases hi:P.info? e with _|ie;rw[hi]at he;cases he;rw[hi]at he;cases x with
    |sl k' lo len=>simp only at he;cases hg:eD h k' with
      |arr z n f=>rw[hg]at he;simp only at he;rcases hbz:Nat.beq z ie.size with _|_;rw[hbz]at he;cases he;rw[hbz]at he;have hbz:=eG hbz;cases he;have hb:0<=i/\i<len:=iZ (hc _ aj);cases hx with|sl _ _ _ l a c hk h0 h1 h2 h3=>have hb2:lo+len<=n:=iZ (hc _ aj);obtain⟨b,hbl,rfl⟩:=h1 ah;obtain⟨l',e1,e2,_⟩:=H.obj k' _ (oP hg trivial);rw[hk]at e1;cases e1;refine⟨_,run_indexAt_slice hu hi hb,rfl,?_⟩;have e:lo*l.z+i.toNat*ie.size=(lo+i.toNat)*l.z+0:=(by rw[nS,e2,hbz];omega);rw[e];exact .pe k' (lo+i.toNat) 0 b l hk hbl (by rw[Wl H hg hk];omega)
      |box cs=>rw[hg]at he;cases he
      |ra z1 n1 cs1=>rw[hg]at he;cases he
      |ms es1=>rw[hg]at he;cases he
      |dead=>rw[hg]at he;cases he
    |c x =>cases x with
      |rd z n f=>simp only at he;rcases hbz:Nat.beq z ie.size with _|_;rw[hbz]at he;cases he;rw[hbz]at he;have hbz:=eG hbz;cases he;have hb:0<=i/\i<n:=iZ (hc _ aj);cases hx with|c hx=>cases hx with|qh=>omega|rd _ _ _ b off cap c hb' hs hn hl hcell h1 iP=>refine⟨_,run_indexAt_slice hu hi hb,rfl,?_⟩;rw[<-hbz];have hin:i.toNat<n:=ah;have hz:i.toNat*z+z<=n*z:=(by rw[<-pF];exact jU _ ah);refine .rp (f i.toNat) b (off+i.toNat*z) (λj=>c (i.toNat*z+j)) hb' hs (λj hj=> ?_) (λj x hx=>iP _ j x hin hx);rw[hl _ hin]at hj;rw[wM];exact hcell _ ah
      |_=>cases he
    |_=>cases he
  | array n e=> simp only at he;rcases hi:P.info? e with _|ie;rw[hi]at he;cases he;rw[hi]at he;cases x with
    |pb k' off=>cases he;have hb:0<=i/\i<n:=iZ (hc _ aj);cases hx with|pb _ _ b l hk hbl=>exact⟨_,run_indexAt_array hu hi hb,rfl,.pb k' _ b l hk hbl⟩
    |pe k' j off=>cases he;have hb:0<=i/\i<n:=iZ (hc _ aj);cases hx with|pe _ _ _ b l hk hbl hj=>refine⟨_,run_indexAt_array hu hi hb,rfl,?_⟩;rw[wM];exact .pe k' j _ b l hk hbl hj
    | rp cs=> cases he;have hb:0<=i/\i<n:=iZ (hc _ aj);cases hx with
      |rp _ b off c hb' hs hcl h=>
        refine⟨_,run_indexAt_array hu hi hb,rfl,?_⟩;refine .rp (cs.drop (i.toNat*ie.size)) b (off+i.toNat*ie.size) (λj=>c (i.toNat*ie.size+j)) hb' hs (λj hj=> ?_) (λj x hx=> ?_)
        · rw[wM];exact hcl _ (by simp at hj;omega)
        · rw[yL]at hx;exact h _ _ hx
    |_=>cases he
  |_=>cases he
theorem aEl{t:TypeId}{x:SC}{v:Value}{k:IntKind}{i:Int}{bK:Eff}(H:fK X w m h)(hx:dP w m (MX X m h) x v)(he:Ux P t (eD h) x i=some bK)(hc:∀q∈bK.bs,q=true):
    ∃u,(Instr.indexAt t v (.int k i)).run P w=.ok u w/\bK.ws=[]/\fu w m (MX X m h) bK.r u:=by
  have hv:=dP.vw H (get:=eD h) (λ_ _=>rfl) hx;unfold Ux at he;split at he
  · rename_i k';split at he
    · rename_i e hu;split at he
      · rename_i ie z n f hi hg;rcases hbz:Nat.beq z ie.size with _|_;rw[hbz]at he;cases he;rw[hbz]at he;simp only[aY]at he;simp only[Go.AM.vw,hg]at hv;cases he;have hb:0<=i/\i<n:=iZ (hc _ aj)
        have:=agb (P:=P) (t:=t) (k:=k) (i:=i) (bK:={r:=.one (.s (.pe k' (0+i.toNat) 0)),bs:=[decide (0<=i/\i<n),decide (0+n<=n)]}) H hv
          (by simp only[OH,hu,hi,hg,hbz,aY]) ay
        simpa using this
      · cases he
    · cases he
  · simp only[Go.AM.vw]at hv;exact agb H hv he hc
  · exact agb H hx he hc
theorem aHw(hu:P.underlying t=some (.slice e))(hi:P.info? e=some ie){base:Option Addr}{c:Nat}{lo hi':Option Value}{a:Nat}
    (hlo:(lo=none/\a=0)∨∃k,lo=some (.int k (a:Int))) (hhi:(hi'=none/\b=n)∨∃k,hi'=some (.int k (b:Int))) (hab:a<=b) (h1:b<=c):
    (Instr.sliceAt t (.slice base n c) lo hi' none).run P w=.ok (.slice (if c=a then base else base.map (·.add (a*ie.size))) (b-a) (c-a)) w:=by
  have h2:(a:Int)<=(b:Int):=ah
  have h3:(b:Int)<=(c:Int):=ah
  rcases hlo with⟨rfl,rfl⟩|⟨k,rfl⟩<;>rcases hhi with⟨rfl,rfl⟩|⟨k',rfl⟩<;>
    simp[Instr.sliceAt,Instr.slice,run_underlying hu,Instr.sliceBounds,Instr.sliceBound,asIntOf,sizeOf,typeInfo,hi,h1,h2,h3,hab]
theorem aHv{t e:TypeId}{ie:TypeInfo}(hu:P.underlying t=some (.slice e))(hi:P.info? e=some ie){base:Option Addr}{n c:Nat}{k1 k2 k3:IntKind}{a b d:Nat}(hab:a<=b)(hbd:b<=d)(hdc:d<=c):
    ∃u,(Instr.sliceAt t (.slice base n c) (some (.int k1 (a:Int))) (some (.int k2 (b:Int))) (some (.int k3 (d:Int)))).run P w=.ok u w:=by
  have h2:(a:Int)<=(b:Int):=ah
  have h3:(b:Int)<=(d:Int):=ah
  have h4:(d:Int)<=(c:Int):=ah
  simp[Instr.sliceAt,Instr.slice,run_underlying hu,Instr.sliceBounds,Instr.sliceBound,asIntOf,sizeOf,typeInfo,hi,h2,h3,h4,hab,hbd,hdc]
theorem agk{t e:TypeId}{ie:TypeInfo}(hu:P.underlying t=some (.slice e))(hi:P.info? e=some ie){base:Option Addr}{n c:Nat}{lo hi':Option Value}{a b:Nat}
    (hlo:(lo=none/\a=0)∨∃k,lo=some (.int k (a:Int))) (hhi:(hi'=none/\b=n)∨∃k,hi'=some (.int k (b:Int))) (hab:a<=b) (hbn:b<=n) (hnc:n<=c):
    (Instr.sliceAt t (.slice base n c) lo hi' none).run P w=.ok (.slice (if c=a then base else base.map (·.add (a*ie.size))) (b-a) (c-a)) w:=by
  have h1:b<=c:=ah
  have h2:(a:Int)<=(b:Int):=ah
  have h3:(b:Int)<=(c:Int):=ah
  rcases hlo with⟨rfl,rfl⟩|⟨k,rfl⟩<;>rcases hhi with⟨rfl,rfl⟩|⟨k',rfl⟩<;>
    simp[Instr.sliceAt,Instr.slice,run_underlying hu,Instr.sliceBounds,Instr.sliceBound,asIntOf,sizeOf,typeInfo,hi,h1,h2,h3,hab]
theorem aGw(H:fK X w m h)(hx:dP w m (MX X m h) x v)
    (hlo:(lo=none/\yC=none)∨∃k n,lo=some n/\yC=some (.int k n)) (hhi:(hi=none/\hiv=none)∨∃k n,hi=some n/\hiv=some (.int k n)) (hmx:(mx=none/\MN=none)∨∃k n,mx=some n/\MN=some (.int k n))
    (he:Pm P t (eD h) x lo hi mx=some bK) (hc:∀q∈bK.bs,q=true):
    ∃u,(Instr.sliceAt t v yC hiv MN).run P w=.ok u w/\bK.ws=[]/\fu w m (MX X m h) bK.r u:=by
  unfold Pm at he;rcases hu:P.underlying t with _|d;rw[hu]at he;cases he;rw[hu]at he;cases d with
  | slice e =>
    simp only at he;rcases hie:P.info? e with _|ie;rw[hie]at he;cases he;rw[hie]at he;simp only at he;rcases hmx with⟨rfl,rfl⟩|⟨km,mm,rfl,rfl⟩
    · simp only at he;cases x with
      | sl k l len=> simp only at he;cases hg:eD h k with
        |box cs=>rw[hg]at he;cases he
        |ra z1 n1 cs1=>rw[hg]at he;cases he
        |ms es1=>rw[hg]at he;cases he
        |dead=>rw[hg]at he;cases he
        | arr z n f => rw[hg]at he;simp only at he;rcases hbz:Nat.beq z ie.size with _|_;rw[hbz]at he;cases he;rw[hbz]at he;simp only[aY]at he;have hbz:=eG hbz;cases hx with
          | sl _ _ _ ll a c hk h0 h1 h2 h3=>
            obtain⟨l',e1,e2,⟨e3,e3'⟩,e4,e5⟩:=H.obj k _ (oP hg trivial);rw[hk]at e1;cases e1;have hz:ll.z=ie.size:=by rw[e2,hbz]
            -- the bounds
            have key:∀(a' b':Nat),((yC=none/\a'=0)∨∃k,yC=some (.int k (a':Int)))->((hiv=none/\b'=len)∨∃k,hiv=some (.int k (b':Int)))->a'<=b'->(b'<=len\/l=0/\b'<=n)→
                ∃u,(Instr.sliceAt t (.slice a len c) yC hiv none).run P w=.ok u w/\dP w m (MX X m h) (.sl k (l+a') (b'-a')) u:=by
              intro a' b' ha hb hab auq;have hbl:b'<=c:=by
                rcases auq with q|⟨q1,q2⟩
                · omega
                · have:=(h0 q1).2;omega
              refine⟨_,aHw hu hie ha hb hab hbl,?_⟩;refine .sl k (l+a') (b'-a') ll _ _ hk (λh00=> ?_) (λhne=> ?_) ah ah
              · have hl0:l=0:=ah;have ha0:a'=0:=ah;obtain⟨q1,q2⟩:=h0 hl0;subst ha0;refine⟨?_,ah⟩;rw[<-q1];split
                · rfl
                · cases a<;>simp[Addr.add]
              · have hbb:∃b,ll.blk=some b/\a=some ⟨b,l*ll.z,none⟩:=by
                  by_cases aMT:len=0
                  · rcases auq with q|⟨q1,q2⟩
                    · omega
                    · rcases hbk:ll.blk with _|b;have:=e4 hbk;omega;exact⟨b,rfl,by rw[(h0 q1).1,(e5 b hbk).1,q1,abC]⟩
                  · exact h1 aMT
                obtain⟨b,hb1,hb2⟩:=hbb;refine⟨b,hb1,?_⟩;rw[cZ ah,hb2,VK,addr_add,nS,hz]
            rcases hlo with⟨rfl,rfl⟩|⟨k1,x1,rfl,rfl⟩
            · simp only at he;cases he;rcases hhi with⟨rfl,rfl⟩|⟨k2,x2,rfl,rfl⟩
              · have hb:(0:Int)<=(len:Int)/\(len:Int)<=len:=iZ (hc _ aj);obtain⟨u,hr,hs⟩:=key 0 len (.inl ⟨rfl,rfl⟩) (.inl ⟨rfl,rfl⟩) ah (.inl ah);exact⟨u,hr,rfl,by simpa[fu,jo]using hs⟩
              · have hb:(0:Int)<=x2/\x2<=len:=iZ (hc _ aj);obtain⟨u,hr,hs⟩:=key 0 x2.toNat (.inl ⟨rfl,rfl⟩) (.inr ⟨k2,by rw[Cj hb.1]⟩) ah (.inl ah);exact⟨u,hr,rfl,by simpa[fu,jo]using hs⟩
            · simp only at he;cases he;rcases hhi with⟨rfl,rfl⟩|⟨k2,x2,rfl,rfl⟩
              · have hb:0<=x1/\x1<=(len:Int)/\(len:Int)<=((akd l n len:Nat):Int):=iZ (hc _ (.head _));obtain⟨u,hr,hs⟩:=key x1.toNat len (.inr ⟨k1,by rw[Cj hb.1]⟩) (.inl ⟨rfl,rfl⟩) ah (.inl (gI _));exact⟨u,hr,rfl,by simpa[fu,jo]using hs⟩
              · have hb:0<=x1/\x1<=x2/\x2<=((akd l n len:Nat):Int):=iZ (hc _ (.head _));have hb':x2.toNat<=len\/l=0/\x2.toNat<=n:=(by obtain⟨q1,q2,q3⟩:=hb;cases l with|zero=>exact .inr ⟨rfl,by have:x2<=(n:Int):=q3;omega⟩|succ l=>exact .inl (by have:x2<=(len:Int):=q3;omega));obtain⟨u,hr,hs⟩:=key x1.toNat x2.toNat (.inr ⟨k1,by rw[Cj hb.1]⟩) (.inr ⟨k2,by rw[Cj ah]⟩) ah hb';exact⟨u,hr,rfl,by simpa[fu,jo]using hs⟩
      | c x => cases x with
        | rd z n f=>
          simp only at he;rcases hbz:Nat.beq z ie.size with _|_;rw[hbz]at he;cases he;rw[hbz]at he;simp only[aY]at he;have hbz:=eG hbz
          have key:∀(a' b':Nat),((yC=none/\a'=0)∨∃k,yC=some (.int k (a':Int)))->((hiv=none/\b'=n)∨∃k,hiv=some (.int k (b':Int)))->a'<=b'->b'<=n→
                ∃u,(Instr.sliceAt t v yC hiv none).run P w=.ok u w∧∀g:Nat->List CV,(∀i,g i=f (a'+i))->dP w m (MX X m h) (.c (.rd z (b'-a') g)) u:=by
            intro a' b' ha hb hab hbl;cases hx with
            | c hx=> cases hx with
              |qh _ _ a cap=>refine⟨_,agk hu hie ha hb hab hbl (zk _),λg hg=> ?_⟩;have:b'-a'=0:=ah;rw[this];exact .c (.qh z g _ _)
              | rd _ _ _ b off cap c hb' hs hn hl hcell h1 iP=>
                refine⟨_,agk hu hie ha hb hab hbl hn,λg hg=> ?_⟩;by_cases h00:b'-a'=0
                · rw[h00];exact .c (.qh z g _ _)
                · rw[cZ ah,VK,addr_add,<-hbz];have hz2:b'*z<=n*z:=jU _ hbl;have hz3:(b'-a')*z+a'*z=b'*z:=(by rw[<-nS];congr 1;omega);refine .c (.rd z (b'-a') g b (off+a'*z) (cap-a') (λj=>c (a'*z+j)) hb' hs ah (λi hi=> ?_) (λj hj=> ?_) (λj hj=>h1 _ ah) (λi j x hi hx=> ?_))
                  · rw[hg];exact hl _ ah
                  · rw[wM];exact hcell _ ah
                  · rw[hg]at hx;have:=iP (a'+i) j x ah hx;rw[nS,wM]at this;exact this
          rcases hlo with⟨rfl,rfl⟩|⟨k1,x1,rfl,rfl⟩
          · simp only at he;cases he;rcases hhi with⟨rfl,rfl⟩|⟨k2,x2,rfl,rfl⟩
            · have hb:(0:Int)<=(n:Int)/\(n:Int)<=n:=iZ (hc _ aj);obtain⟨u,hr,hs⟩:=key 0 n (.inl ⟨rfl,rfl⟩) (.inl ⟨rfl,rfl⟩) ah ah;exact⟨u,hr,rfl,by simpa[fu,jo]using hs f (λi=>by rw[nL])⟩
            · have hb:(0:Int)<=x2/\x2<=n:=iZ (hc _ aj);obtain⟨u,hr,hs⟩:=key 0 x2.toNat (.inl ⟨rfl,rfl⟩) (.inr ⟨k2,by rw[Cj hb.1]⟩) ah ah;exact⟨u,hr,rfl,by simpa[fu,jo]using hs f (λi=>by rw[nL])⟩
          · simp only at he;cases he;rcases hhi with⟨rfl,rfl⟩|⟨k2,x2,rfl,rfl⟩
            · have hb:0<=x1/\x1<=(n:Int)/\(n:Int)<=n:=iZ (hc _ aj);obtain⟨u,hr,hs⟩:=key x1.toNat n (.inr ⟨k1,by rw[Cj hb.1]⟩) (.inl ⟨rfl,rfl⟩) ah ah;exact⟨u,hr,rfl,by simpa[fu,jo]using hs _ (λi=>rfl)⟩
            · have hb:0<=x1/\x1<=x2/\x2<=n:=iZ (hc _ aj);obtain⟨u,hr,hs⟩:=key x1.toNat x2.toNat (.inr ⟨k1,by rw[Cj hb.1]⟩) (.inr ⟨k2,by rw[Cj ah]⟩) ah ah;exact⟨u,hr,rfl,by simpa[fu,jo]using hs _ (λi=>rfl)⟩
        | val u =>
          simp only at he;split at he
          · rename_i b0;cases hb0:decide (b0=0)with
            |false=>rw[hb0]at he;cases he
            | true=> rw[hb0]at he;cases he;have hb0:=iZ hb0;subst hb0;cases hx with
              |c hx=>
              cases hx;rcases hlo with⟨_,rfl⟩|⟨k1,x1,e1,_⟩
              · rcases hhi with⟨e2,_⟩|⟨k2,x2,e2,rfl⟩
                · cases e2
                · cases e2;have:=agk (P:=P) (w:=w) (base:=none) (n:=0) (c:=0) (lo:=none) (hi':=some (.int k2 0)) (a:=0) (b:=0) hu hie (.inl ⟨rfl,rfl⟩) (.inr ⟨k2,rfl⟩) (gI _) (gI _) (gI _);exact⟨_,this,rfl,.c (.val _)⟩
              · cases e1
          · cases he
        |_=>cases he
      |_=>cases he
    · simp only at he;rcases hlo with⟨rfl,rfl⟩|⟨k1,x1,rfl,rfl⟩
      · rcases hhi with⟨rfl,rfl⟩|⟨k2,x2,rfl,rfl⟩
        · cases he
        · rcases hlen:lenOf x with _|len;rw[hlen]at he;cases he;rw[hlen]at he;simp only at he;cases hb:(x2==0)&&(mm==0)with
          |false=>rw[hb]at he;cases he
          | true=>
            rw[hb]at he;cases he;simp only[dD,uE]at hb;obtain⟨rfl,rfl⟩:=hb;have hv:∃a n c,v= .slice a n c:=by cases hx with
              |c hx=>cases hx with
                |val v=>cases v<;>first|exact⟨_,_,_,rfl⟩|cases hlen
                |e0 a=>exact⟨_,_,_,rfl⟩
                |qh=>exact⟨_,_,_,rfl⟩
                |rd=>exact⟨_,_,_,rfl⟩
                |ls=>cases hlen
                |lY=>cases hlen
              |sl=>exact⟨_,_,_,rfl⟩
              |_=>cases hlen
            obtain⟨a,n,c,rfl⟩:=hv;refine⟨.slice a 0 0,?_,rfl,.c (.e0 a)⟩;cases a<;>simp[Instr.sliceAt,Instr.slice,run_underlying hu,Instr.sliceBounds,Instr.sliceBound,asIntOf,sizeOf,typeInfo,hie]
      · rcases hhi with⟨rfl,rfl⟩|⟨k2,x2,rfl,rfl⟩
        · cases he
        · rcases hlen:lenOf x with _|WV;rw[hlen]at he;cases he;rw[hlen]at he;simp only at he;rcases hlen3:asi x with _|len;rw[hlen3]at he;cases he;rw[hlen3]at he;cases he;have hb:0<=x1/\x1<=x2/\x2<=mm/\mm<=(len:Int):=iZ (hc _ aj);have hv:∃a n c,v= .slice a n c/\len<=c:=by cases hx with
            |c hx=>cases hx with
              |qh=>cases hlen3;exact⟨_,_,_,rfl,zk _⟩
              |rd _ _ _ _ _ _ _ _ _ hn=>cases hlen3;exact⟨_,_,_,rfl,hn⟩
              |_=>cases hlen3
            |sl _ _ _ _ _ _ _ _ _ h2 _=>cases hlen3;exact⟨_,_,_,rfl,h2⟩
            |_=>cases hlen3
          obtain⟨a,n,c,rfl,hlc⟩:=hv;obtain⟨u,hr⟩:=aHv (P:=P) (w:=w) (base:=a) (n:=n) (c:=c) (k1:=k1) (k2:=k2) (k3:=km) (a:=x1.toNat) (b:=x2.toNat) (d:=mm.toNat) hu hie ah ah ah;rw[Cj hb.1,Cj ah,Cj ah]at hr;exact⟨u,hr,rfl,.bot _⟩
  | string=> simp only at he;cases x with
    | c x => cases x with
      | val u => cases hx with
        | c hx=>
          cases hx;rcases hmx with⟨rfl,rfl⟩|⟨km,mm,rfl,rfl⟩
          · cases v with
            | string s=>
              simp only at he;cases he
              have key:∀(a' b':Int),((yC=none/\a'=0)∨∃k,yC=some (.int k a'))->((hiv=none/\b'=s.size)∨∃k,hiv=some (.int k b'))->0<=a'/\a'<=b'/\b'<=s.size→
                  (Instr.sliceAt t (.string s) yC hiv none).run P w=.ok (.string (s.extract a'.toNat b'.toNat)) w:=by
                rintro a' b' ha hb ⟨q1,q2,q3⟩;have q4:0<=b':=ah;have q5:a'<=(b'.toNat:Int):=ah;have q6:a'<=(s.size:Int):=ah;have q7:¬max b' 0<a':=ah
                rcases ha with⟨rfl,rfl⟩|⟨k,rfl⟩<;>rcases hb with⟨rfl,rfl⟩|⟨k',rfl⟩<;>
                  simp[Instr.sliceAt,Instr.slice,run_underlying hu,Instr.sliceBounds,Instr.sliceBound,asIntOf,q1,q2,q3,q4,q5,q6]<;>(first|done|(intro hh;exact absurd hh q7))
              rcases hlo with⟨rfl,rfl⟩|⟨k1,x1,rfl,rfl⟩<;>rcases hhi with⟨rfl,rfl⟩|⟨k2,x2,rfl,rfl⟩
              · exact⟨_,key 0 s.size (.inl ⟨rfl,rfl⟩) (.inl ⟨rfl,rfl⟩) (iZ (hc _ aj)),rfl,.c (.val _)⟩
              · exact⟨_,key 0 x2 (.inl ⟨rfl,rfl⟩) (.inr ⟨k2,rfl⟩) (iZ (hc _ aj)),rfl,.c (.val _)⟩
              · exact⟨_,key x1 s.size (.inr ⟨k1,rfl⟩) (.inl ⟨rfl,rfl⟩) (iZ (hc _ aj)),rfl,.c (.val _)⟩
              · exact⟨_,key x1 x2 (.inr ⟨k1,rfl⟩) (.inr ⟨k2,rfl⟩) (iZ (hc _ aj)),rfl,.c (.val _)⟩
            |_=>cases he
          · cases v<;>cases he
      |_=>cases he
    |_=>cases he
  |_=>cases he
theorem aHs(H:fK X w m h)(hx:dP w m (MX X m h) x v)
    (hlo:(lo=none/\yC=none)∨∃k n,lo=some n/\yC=some (.int k n)) (hhi:(hi=none/\hiv=none)∨∃k n,hi=some n/\hiv=some (.int k n)) (hmx:(mx=none/\MN=none)∨∃k n,mx=some n/\MN=some (.int k n))
    (he:abb P t (eD h) x lo hi mx=some bK) (hc:∀q∈bK.bs,q=true):
    ∃u,(Instr.sliceAt t v yC hiv MN).run P w=.ok u w/\bK.ws=[]/\fu w m (MX X m h) bK.r u:=
  aGw H (dP.vw H (λ_ _=>rfl) hx) hlo hhi hmx he hc
end
end
section
variable {op:BinOp}{t:TypeId}{k:IntKind}{a b:Int}{v:Value}{e:TypeId}{xo yo:Operand}{n c:Nat}
section
variable {P:Program} {X:Mu} {w:World} {m:gU} {h:List aV} {M:Mu}
theorem aIs{cs:List Bool}(he:ajx op k a b=some (v,cs))(hc:∀q∈cs,q=true):
  (binOp op t (.int k a) (.int k b)).run P w=.ok v w:=by
 cases op<;>simp only[ajx,kZ,zm]at he;all_goals first|(cases he;done)|skip
 all_goals
  obtain⟨rfl,rfl⟩:=he
  first
   |(simp[binOp,Op.intArith];done)
   |(simp[binOp,Op.intCmp];done)
   |(simp[binOp,Op.intBits];done)
   |(have hb:b≠0:=iZ (hc _ aj);simp[binOp,Op.intDiv,hb];done)
theorem aoh{k':IntKind}{cs:List Bool}(he:aaS op k a b=some (v,cs))(hc:∀q∈cs,q=true):
  (binOp op t (.int k a) (.int k' b)).run P w=.ok v w:=by
 cases op<;>simp only[aaS,kZ,zm]at he;all_goals first|(cases he;done)|skip
 all_goals
  obtain⟨rfl,rfl⟩:=he;have hb:0<=b:=iZ (hc _ aj);have hb':¬b<0:=ah
  simp[binOp,Op.shift,hb']
theorem aIv{a b:ByteArray}{cs:List Bool}(he:ajH op a b=some (v,cs))(hc:∀q∈cs,q=true):
  (binOp op t (.string a) (.string b)).run P w=.ok v w:=by
 cases op<;>simp only[ajH,kZ,zm]at he;all_goals first|(cases he;done)|skip
 all_goals
  obtain⟨rfl,rfl⟩:=he
  first
   |(simp[binOp,Op.stringOp];done)
   |(have hb:a.size+b.size<=9223372036854775807:=iZ (hc _ aj);have hb':¬(9223372036854775807<(a.size:Int)+(b.size:Int)):=ah;simp[binOp,Op.stringOp,IntKind.max,IntKind.signed,IntKind.bits,hb'];done)
theorem anD(w:World)(d:Nat){T e:TypeId}(a:Option Addr)(n c:Nat)(hT:P.underlying T=some (.slice e)):
  (Op.equalIn (d+1) T (.slice a n c) (.slice none 0 0)).run P w=.ok a.isNone w:=by
 have hu:=run_underlying (P:=P) (w:=w) hT;rcases a with _|a;simp[Op.equalIn,hu];simp[Op.equalIn,hu]
theorem aov{w:World}{T:TypeId}{a:Option Addr}(hT:P.underlying T=some (.slice e)):
  (do eqGuard .eql T xo yo (.slice a n c) (.slice none 0 0);binOp .eql T (.slice a n c) (.slice none 0 0):Sem Value).run P w=.ok (.bool a.isNone) w:=by
 have hq:=anD (P:=P) w 9999 a n c hT;have hg:(eqGuard .eql T xo yo (.slice a n c) (.slice none 0 0)).run P w=.ok () w:=by simp[eqGuard]
 rw[Sem.run_bind,hg];simp[binOp,Op.equal,Op.maxDepth,hq]
theorem aow{w:World}{T:TypeId}{a:Option Addr}(hT:P.underlying T=some (.slice e)):
  (do eqGuard .neq T xo yo (.slice a n c) (.slice none 0 0);binOp .neq T (.slice a n c) (.slice none 0 0):Sem Value).run P w=.ok (.bool (!a.isNone)) w:=by
 have hq:=anD (P:=P) w 9999 a n c hT;have hg:(eqGuard .neq T xo yo (.slice a n c) (.slice none 0 0)).run P w=.ok () w:=by simp[eqGuard]
 rw[Sem.run_bind,hg];simp[binOp,Op.equal,Op.maxDepth,hq]
theorem aIw{a b:Value}{cs:List Bool}(he:abZ P op t a b=some (v,cs))(hc:∀q∈cs,q=true):
  (do eqGuard op t xo yo a b;binOp op t a b:Sem Value).run P w=.ok v w:=by
 have hg:∀(a b:Value),(∀cs ds,¬(a=.agg cs/\b=.agg ds))->(¬(a=.nilIface/\b=.nilIface))->(eqGuard op t xo yo a b).run P w=.ok () w:=by
  intro a b h1 h2;unfold eqGuard;cases op<;>simp
  all_goals
   split
   .rename_i x y;exact absurd ⟨rfl,rfl⟩ h2
   .rename_i x y cs ds;exact absurd ⟨rfl,rfl⟩ (h1 _ _)
   .rfl
 unfold abZ at he;cases a with
 | int k a=> cases b with
  |int k' b=>
   simp only at he;have hgi:=hg (.int k a) (.int k' b) (by rintro _ _ ⟨h,_⟩;cases h) (by rintro⟨h,_⟩;cases h);have hrun:(binOp op t (.int k a) (.int k' b)).run P w=.ok v w:=by cases op with
    |shl=>exact aoh he hc
    |shr=>exact aoh he hc
    |_=>
     simp only at he;split at he
     .rename_i hk;subst hk;exact aIs he hc
     .cases he
   simp only[Sem.run_bind,hgi,Result.andThen_ok,hrun]
  |_=>cases he
 |string a=>cases b with
  |string b=>have hgi:=hg (.string a) (.string b) (by rintro _ _ ⟨h,_⟩;cases h) (by rintro⟨h,_⟩;cases h);simp only[Sem.run_bind,hgi,Result.andThen_ok,aIv he hc]
  |_=>cases he
 |bool a=>cases b with
  |bool b=>simp only at he;rcases hu:P.underlying t with _|d;rw[hu]at he;cases op<;>cases he;rw[hu]at he;cases d with
   |bool=>
    have hgi:=hg (.bool a) (.bool b) (by rintro _ _ ⟨h,_⟩;cases h) (by rintro⟨h,_⟩;cases h);cases op;all_goals first|(cases he;done)|skip
    .simp only[kZ,zm]at he;obtain⟨rfl,rfl⟩:=he;simp only[Sem.run_bind,hgi,Result.andThen_ok];simp[binOp,Op.equal,Op.maxDepth,run_equalIn_bool' w 9999 t a b hu]
    .simp only[kZ,zm]at he;obtain⟨rfl,rfl⟩:=he;simp only[Sem.run_bind,hgi,Result.andThen_ok];simp[binOp,Op.equal,Op.maxDepth,run_equalIn_bool' w 9999 t a b hu]
   |_=>cases op<;>cases he
  |_=>cases he
 |slice a n c=>cases a with
  |some a=>cases b<;>cases he
  |none=>cases n with
  |succ n=>cases b<;>cases he
  |zero=>cases c with
  |succ c=>cases b<;>cases he
  |zero=>cases b with
  |slice a' n' c'=>cases a' with
   |some a'=>cases he
   |none=>cases n' with
   |succ n'=>cases he
   |zero=>cases c' with
   |succ c'=>cases he
   |zero=>simp only at he;rcases hu:P.underlying t with _|d;rw[hu]at he;cases op<;>cases he;rw[hu]at he;cases d with
   |slice e=>
    cases op;all_goals first|(cases he;done)|skip
    .simp only[kZ,zm]at he;obtain⟨rfl,rfl⟩:=he;exact aov hu
    .simp only[kZ,zm]at he;obtain⟨rfl,rfl⟩:=he;exact aow hu
   |_=>cases op<;>cases he
  |_=>cases he
 |_=>cases he
theorem aJn{d:Nat}{x y:Value}{b:Bool}(he:Wn P t x y=some b):(Op.equalIn (d+1) t x y).run P w=.ok b w:=by
 unfold Wn at he;rcases hu:P.underlying t with _|dd;rw[hu]at he;cases x<;>cases y<;>cases he;rw[hu]at he;cases dd<;>cases x<;>cases y;all_goals first|(cases he;done)|skip
 .simp only[kZ]at he;subst he;exact run_equalIn_bool' w d t _ _ hu
 .simp only at he;split at he
  .rename_i hk;subst hk;cases he;exact run_equalIn_int w d t _ _ _ _ hu
  .cases he
 .simp only[kZ]at he;subst he;exact run_equalIn_string w d t _ _ hu
theorem apj{xs:List SC}{vs:Array Value}{i:Nat}(hL:nW w m M xs vs)(hc:cellV xs i=some v):vs[i]? =some v:=by
 unfold cellV at hc;rcases hx:xs[i]? with _|x;rw[hx]at hc;cases hc;rw[hx]at hc;have hi:i<vs.size:=by rw[hL.1];exact iI hx
 have hs:=hL.2 i x hx;cases x with
 |c x=>cases x with
  |val u=>simp only[kZ]at hc;subst hc;cases hs with|c hs=>cases hs;simp[Array.getD,hi]
  |_=>cases hc
 |_=>cases hc
theorem aol{xs ys:List SC}:∀(l r:List (Nat×TypeId)),yj P xs ys (l++r)=match yj P xs ys l,yj P xs ys r with
  |some a,some b=>some (a&&b)
  |_,_=>none
 | [],r=>by simp only[Gn,yj];cases yj P xs ys r<;>simp
 | (off,t)::l,r=>by simp only[I9,yj,aol l r];rcases cellV xs off with _|x;rfl;rcases cellV ys off with _|y;rfl;simp only;rcases Wn P t x y with _|a;rfl;rcases yj P xs ys l with _|b;rfl;rcases yj P xs ys r with _|c;rfl;simp[Bool.and_assoc]
theorem extract_extract(xs:Array Value)(off n o s:Nat)(h1:o+s<=n):(xs.extract off (off+n)).extract o (o+s)=xs.extract (off+o) (off+o+s):=by rw[Array.extract_extract];congr 1;omega
theorem ao4{i:TypeInfo}(hi:P.info? t=some i)(xs:Array Value)(off n o:Nat)(h1:o+i.size<=n)(h0:0<i.size):
  (part t (xs.extract off (off+n)) o).run P w=(part t xs (off+o)).run P w:=by
 rcases hu:P.underlying t with _|d;simp[part,isAgg,underlying,hu,Sem.run_bind];have hcell:(xs.extract off (off+n))[o]? =xs[off+o]? :=by
  rw[asM];by_cases hx:off+o<xs.size
  .rw[bU ah]
  .rw[cZ ah,V7 ah]
 by_cases hag:zX P t=true
 .have hagg:(isAgg t).run P w=.ok true w:=by unfold zX at hag;rw[hu]at hag;unfold isAgg;simp only[Sem.run_bind,run_underlying hu,Result.andThen_ok];cases d<;>simp_all
  simp only[part,Sem.run_bind,hagg,Result.andThen_ok,l7,Aw hi,Sem.run_pure,extract_extract xs off n o i.size h1]
 .have hagg:(isAgg t).run P w=.ok false w:=by unfold zX at hag;rw[hu]at hag;unfold isAgg;simp only[Sem.run_bind,run_underlying hu,Result.andThen_ok];cases d<;>simp_all
  simp only[part,Sem.run_bind,hagg,Result.andThen_ok,nD,mJ,hcell]
theorem aIt : ∀(d:Nat) (t:TypeId) (it:TypeInfo) (off:Nat) (ls:List (Nat×TypeId)) (e:Nat) (xs ys:Array Value) (b:Bool) (cx cy:List SC),
  P.info? t=some it->leaves P d t off=some ls->nW w m M cx xs->nW w m M cy ys->yj P cx cy ls=some b→
  ∃vx vy:Value,(part t xs off).run P w=.ok vx w/\(part t ys off).run P w=.ok vy w/\(Op.equalIn (e+d) t vx vy).run P w=.ok b w:=by
 intro d;induction d with
 |zero=>intro t it off ls e xs ys b cx cy _ hl;cases hl
 | succ d ih =>
  intro t it off ls e xs ys b cx cy hti hl hX hY hb;simp only[leaves]at hl;rcases hu:P.underlying t with _|dd;rw[hu]at hl;cases hl;rw[hu]at hl;have scalar:∀(hsc:∀fs,dd≠.struct fs) (hsa:∀n e,dd≠.array n e),some [(off,t)]=some ls→∃vx vy:Value,(part t xs off).run P w=.ok vx w/\(part t ys off).run P w=.ok vy w/\(Op.equalIn (e+(d+1)) t vx vy).run P w=.ok b w:=by
   intro hsc hsa hls;cases hls;simp only[yj]at hb;rcases hcx:cellV cx off with _|x;rw[hcx]at hb;cases hb;rcases hcy:cellV cy off with _|y;rw[hcx,hcy]at hb;cases hb;rw[hcx,hcy]at hb;simp only at hb;rcases hev:Wn P t x y with _|b';rw[hev]at hb;cases hb;rw[hev]at hb;simp only[kZ,Gt]at hb;subst hb;have hagg:(isAgg t).run P w=.ok false w:=(by unfold isAgg;simp only[Sem.run_bind,run_underlying hu,Result.andThen_ok];cases dd<;>first|rfl|exact absurd rfl (hsc _)|exact absurd rfl (hsa _ _));refine⟨x,y,?_,?_,aJn hev⟩
   .simp only[part,Sem.run_bind,hagg,Result.andThen_ok,nD,mJ,apj hX hcx,Sem.run_pure]
   .simp only[part,Sem.run_bind,hagg,Result.andThen_ok,nD,mJ,apj hY hcy,Sem.run_pure]
  cases dd with
  | struct fs=> simp only at hl;cases hst:P.stoodInHeld t with
   |true=>rw[hst]at hl;cases hl
   | false =>
    rw[hst]at hl;simp only[aZ]at hl;have hagg:(isAgg t).run P w=.ok true w:=(by unfold isAgg;simp only[Sem.run_bind,run_underlying hu,Result.andThen_ok];rfl);have hcells:P.cellsOf t=it.size:=(by simp[Program.cellsOf,hti]);rw[hcells]at hl;refine⟨.agg (xs.extract off (off+it.size)),.agg (ys.extract off (off+it.size)),?_,?_,?_⟩
    .simp only[part,Sem.run_bind,hagg,Result.andThen_ok,l7,Aw hti,Sem.run_pure]
    .simp only[part,Sem.run_bind,hagg,Result.andThen_ok,l7,Aw hti,Sem.run_pure]
    .have hfs:P.fieldsOf t=fs:=(by simp[Program.fieldsOf,hu]);have hd:e+(d+1)=(e+d)+1:=ah;rw[hd,run_equalIn_struct w (e+d) t _ _ (by rw[hfs];exact hu) hst,hfs];clear hfs hu scalar;generalize fs.toList=fl at hl;induction fl generalizing ls b with
     |nil=>simp only[List.foldr_nil,kZ]at hl;subst hl;simp only[yj,kZ]at hb;subst hb;simp[Op.eqFields]
     |cons f fl ihf=>simp only[List.foldr_cons]at hl;cases hlf:leaves P d f.type (off+f.offset)with
      |none=>rw[hlf]at hl;cases hl
      |some lf=>rw[hlf]at hl;generalize hacc:fl.foldr _ (some [])=acc at hl;rcases acc with _|r;cases hl;simp only at hl;cases hnm:(f.name== "_")with
       |true=>rw[hnm]at hl;cases hl
       |false=>rw[hnm]at hl;simp only[aZ]at hl;rcases hwi:within P it.size f.offset f.type with _|_;rw[hwi]at hl;cases hl;rw[hwi]at hl;simp only[aY,kZ]at hl;subst hl;unfold within at hwi;rcases hif:P.info? f.type with _|ifo;rw[hif]at hwi;cases hwi;rw[hif]at hwi;simp only[dD]at hwi;have hw1:=qV hwi.1;have hw2:0<ifo.size:=(by have:=hwi.2;simp only[Nat.blt]at this;exact qV this);rw[aol]at hb;rcases hb1:yj P cx cy lf with _|b1;rw[hb1]at hb;cases hb;rcases hb2:yj P cx cy r with _|b2;rw[hb1,hb2]at hb;cases hb;rw[hb1,hb2]at hb;simp only[kZ]at hb;obtain⟨vx,vy,q1,q2,q3⟩:=ih f.type ifo (off+f.offset) lf e xs ys b1 cx cy hif hlf hX hY hb1;have hrest:=ihf r b2 hb2 hacc;have hne:f.name≠ "_" :=(by intro hh;rw[hh]at hnm;simp at hnm);simp only[Op.eqFields,bU hne,Sem.run_bind,ao4 hif xs off it.size f.offset hw1 hw2,ao4 hif ys off it.size f.offset hw1 hw2,q1,q2,q3,Result.andThen_ok,Sem.run_ite,Sem.run_pure,hrest];subst hb;cases b1<;>cases b2<;>simp
  |array n e=>cases hl
  |_=>exact scalar (λ_ h=>by cases h) (λ_ _ h=>by cases h) hl
end
end
section
variable {P:Program} {X:Mu} {w:World} {m:gU} {h:List aV} {M:Mu}
theorem aJo{op:BinOp}{t:TypeId}{xo yo:Operand}{x y:SV}{a b:Value}{bK:Eff}(hx:fu w m M x a)(hy:fu w m M y b)(he:ajZ P op t x y=some bK)(hc:∀q∈bK.bs,q=true):
  ∃v,(do eqGuard op t xo yo a b;binOp op t a b:Sem Value).run P w=.ok v w/\bK.ws=[]/\fu w m M bK.r v:=by
 unfold ajZ at he;split at he
 .rename_i a' b';cases hx with|c hx=>cases hx;cases hy with|c hy=>cases hy;rcases hv:abZ P op t a b with _|q;rw[hv]at he;cases he;obtain⟨v,cs⟩:=q;rw[hv]at he;cases he;exact⟨v,aIw hv hc,rfl,.c (.val v)⟩
 .rename_i t' x' xs';cases hx with
  |c hx=>cases hy with
   |c hy=>cases hy;obtain⟨ad,n,c,rfl,hsome⟩:∃ad n c,a=.slice ad n c/\ad.isNone=false:=(by cases hx with|ls _ _ _ h=>generalize hn:(x'::xs').length=n at h;generalize fE t' (x'::xs')=f at h;cases h with|qh _ _ ad cap=>simp at hn|rd _ _ _ b off cap=>exact⟨_,_,cap,rfl,rfl⟩);rcases hu:P.underlying t with _|d;rw[hu]at he;cases op<;>cases he;rw[hu]at he;cases d with
    |slice e=>
     cases op;all_goals first|(cases he;done)|skip
     .cases he;exact⟨_,aov hu,rfl,by rw[hsome];exact .c (.val _)⟩
     .cases he;exact⟨_,aow hu,rfl,by rw[hsome];exact .c (.val _)⟩
    |_=>cases op<;>cases he
 .rename_i xs ys;obtain⟨vx,rfl,hX⟩:=hx;obtain⟨vy,rfl,hY⟩:=hy;cases hb:(P.eqGuardType P.depth t|| !(zX P t&&(P.info? t).isSome&&Nat.beq xs.length (P.cellsOf t)&&Nat.beq ys.length (P.cellsOf t)))with
  |true=>rw[hb]at he;cases he
  |false=>
   rw[hb]at he;simp only[aZ]at he;simp only[ng,zY,dD]at hb;obtain⟨hgt,⟨⟨hag,his⟩,hlx⟩,hly⟩:=hb;have hlx:=eG hlx;have hly:=eG hly;rcases hti:P.info? t with _|it;rw[hti]at his;cases his;have hcells:P.cellsOf t=it.size:=(by simp[Program.cellsOf,hti]);rcases hl:leaves P 100 t 0 with _|ls;rw[hl]at he;cases he;rw[hl]at he;simp only at he;rcases hq:yj P xs ys ls with _|bb;rw[hq]at he;cases op<;>cases he;rw[hq]at he;obtain⟨ux,uy,q1,q2,q3⟩:=aIt (w:=w) 100 t it 0 ls 9900 vx vy bb xs ys hti hl hX hY hq;have hagg:(isAgg t).run P w=.ok true w:=(by unfold zX at hag;rcases hu:P.underlying t with _|d;rw[hu]at hag;cases hag;rw[hu]at hag;unfold isAgg;simp only[Sem.run_bind,run_underlying hu,Result.andThen_ok];cases d<;>simp_all);have ex:ux=.agg vx:=(by simp only[part,Sem.run_bind,hagg,Result.andThen_ok,l7,Aw hti,Sem.run_pure]at q1;have:=(Result.ok.inj q1).1;rw[<-this];congr 1;have hs:vx.size=it.size:=(by rw[hX.1,hlx,hcells]);rw[nL,<-hs,atr]);have ey:uy=.agg vy:=(by simp only[part,Sem.run_bind,hagg,Result.andThen_ok,l7,Aw hti,Sem.run_pure]at q2;have:=(Result.ok.inj q2).1;rw[<-this];congr 1;have hs:vy.size=it.size:=(by rw[hY.1,hly,hcells]);rw[nL,<-hs,atr]);subst ex;subst ey;have q3':(Op.equalIn 10000 t (.agg vx) (.agg vy)).run P w=.ok bb w:=q3;have hg:=run_eqGuard_agg (P:=P) w op t xo yo vx vy hgt;cases op;all_goals first|(cases he;done)|skip
   .simp only[kZ]at he;subst he;refine⟨.bool bb,?_,rfl,.c (.val _)⟩;simp only[Sem.run_bind,hg,Result.andThen_ok,run_eql_struct,q3']
   .simp only[kZ]at he;subst he;refine⟨.bool (!bb),?_,rfl,.c (.val _)⟩;simp only[Sem.run_bind,hg,Result.andThen_ok,run_neq_struct,q3']
 .cases he
theorem aI8{x:SC}{v:Value}{n:Nat}(hx:dP w m M x v)(hl:lenOf x=some n):∃a c,v=.slice a n c:=by unfold lenOf at hl;cases hx with
 |c hx=>cases hx with
  |val v=>
   cases v<;>first|(cases hl;done)|skip
   simp only[kZ]at hl;subst hl;exact⟨_,_,rfl⟩
  |e0 a=>simp only[kZ]at hl;subst hl;exact⟨_,_,rfl⟩
  |qh=>simp only[kZ]at hl;subst hl;exact⟨_,_,rfl⟩
  |rd=>simp only[kZ]at hl;subst hl;exact⟨_,_,rfl⟩
  |ls=>cases hl
  |lY=>cases hl
 |sl=>simp only[kZ]at hl;subst hl;exact⟨_,_,rfl⟩
 |_=>cases hl
theorem aIH{x:SV}{v:Value}{n:Nat}(hx:fu w m M x v)(hl:abY x=some n):∃s,v=.string s/\n=s.size:=by
 unfold abY at hl;split at hl
 .cases hl;cases hx with|c hx=>cases hx;exact⟨_,rfl,rfl⟩
 .cases hl
theorem aJp{X:Mu}{h:List aV}(H:fK X w m h){t ty:TypeId}{ts:List TypeId}{x:SV}{v:Value}{bK:Eff}(hx:fu w m (MX X m h) x v)(he:ab8 P (eD h) t x=some bK):
  ∃u,(Builtin.len_ (t::ts).toArray ty #[v]).run P w=.ok u w/\bK.ws=[]/\fu w m (MX X m h) bK.r u:=by
 unfold ab8 at he;rcases hu:P.underlying t with _|d;rw[hu]at he;cases he;rw[hu]at he;cases d with
 |string=>simp only at he;rcases hs:abY x with _|n;rw[hs]at he;cases he;rw[hs]at he;cases he;obtain⟨s,rfl,rfl⟩:=aIH hx hs;refine⟨_,?_,rfl,.c (.val _)⟩;simp[Builtin.len_,run_underlying hu,goInt]
 |slice e=>simp only at he;cases x with
  |mW vs=>cases he
  |one a=>cases a with
   |agg cs=>cases he
   |s y=>simp only at he;cases hl:lenOf (vw (eD h) y)with
    |none=>rw[hl]at he;cases he
    |some n=>rw[hl]at he;cases he;obtain⟨a,c,rfl⟩:=aI8 (dP.vw H (λ_ _=>rfl) hx) hl;refine⟨_,?_,rfl,.c (.val _)⟩;simp[Builtin.len_,run_underlying hu,goInt]
 |array n e=>cases he;refine⟨_,?_,rfl,.c (.val _)⟩;simp[Builtin.len_,run_underlying hu,goInt]
 |_=>cases he
theorem aqK:∀(r:List Value) (acc:Value) (v:Value),r.foldl (λacc v=>match acc,v with
  |some (.int k x),.int _ y=>some (.int k (if y<x then y else x))
  |_,_=>none) (some acc)=some v->(r.foldlM Builtin.min2 acc:Sem Value).run P w=.ok v w
 | [],acc,v,hv=>by simp at hv;subst hv;simp
 |u::r,acc,v,hv=>by
  rw[PV]at hv
  have hnone:∀r:List Value,r.foldl (λacc v=>match acc,v with
    |some (.int k x),.int _ y=>some (.int k (if y<x then y else x))
    |_,_=>none) (none:Option Value)=none:=by
   intro r;induction r with|nil=>rfl|cons a r ih=>rw[PV];exact ih
  cases acc<;>try (simp only[hnone]at hv;cases hv;done)
  cases u<;>try (simp only[hnone]at hv;cases hv;done)
  simp only at hv;have ih:=aqK r _ v hv;simp only[List.foldlM_cons,Sem.run_bind,Builtin.min2,Sem.run_pure,Result.andThen_ok];exact ih
theorem aqJ:∀(r:List Value) (acc:Value) (v:Value),r.foldl (λacc v=>match acc,v with
  |some (.int k x),.int _ y=>some (.int k (if x<y then y else x))
  |_,_=>none) (some acc)=some v->(r.foldlM Builtin.max2 acc:Sem Value).run P w=.ok v w
 | [],acc,v,hv=>by simp at hv;subst hv;simp
 |u::r,acc,v,hv=>by
  rw[PV]at hv
  have hnone:∀r:List Value,r.foldl (λacc v=>match acc,v with
    |some (.int k x),.int _ y=>some (.int k (if x<y then y else x))
    |_,_=>none) (none:Option Value)=none:=by
   intro r;induction r with|nil=>rfl|cons a r ih=>rw[PV];exact ih
  cases acc<;>try (simp only[hnone]at hv;cases hv;done)
  cases u<;>try (simp only[hnone]at hv;cases hv;done)
  simp only at hv;have ih:=aqJ r _ v hv;simp only[List.foldlM_cons,Sem.run_bind,Builtin.max2,Sem.run_pure,Result.andThen_ok];exact ih
theorem aLg{vs:List Value}{v:Value}(hv:acL vs=some v)(ts:Array TypeId)(ty:TypeId):(Builtin.min_ ts ty vs.toArray).run P w=.ok v w:=by
 rcases vs with _|⟨x,r⟩;cases hv;cases x<;>try (cases hv;done)
 simp only[acL]at hv;simp only[Builtin.min_];exact aqK r _ v hv
theorem aLf{vs:List Value}{v:Value}(hv:acK vs=some v)(ts:Array TypeId)(ty:TypeId):(Builtin.max_ ts ty vs.toArray).run P w=.ok v w:=by
 rcases vs with _|⟨x,r⟩;cases hv;cases x<;>try (cases hv;done)
 simp only[acK]at hv;simp only[Builtin.max_];exact aqJ r _ v hv
theorem agP{ρ:Operand->Option SV}{ev:Operand->Value}(hρ:∀x s,ρ x=some s->fu w m M s (ev x)):∀{xs:List Operand} {vs:List Value},BU ρ xs=some vs->xs.map ev=vs
 | [],vs,hv=>by simp[BU]at hv;subst hv;rfl
 |x::xs,vs,hv=>by
  simp only[BU]at hv;split at hv
  .rename_i v l h1 h2;cases hv;have:=hρ x _ h1;cases this with|c hc=>cases hc;rw[mH,agP hρ h2]
  .cases hv
theorem ZN{ρ:Operand->Option SV}{ev:Operand->Value}(hρ:∀x s,ρ x=some s->fu w m M s (ev x)):∀{ps:List (Nat×Operand)} {l:List (Nat×AV)},partsOf ρ ps=some l→
  j4 (λ(a:Nat×AV) (b:Nat×Value)=>a.1=b.1/\jo w m M a.2 b.2) l (ps.map λ(i,x)=>(i,ev x))
 | [],l,hv=>by simp[partsOf]at hv;subst hv;exact .nil
 | (i,x)::ps,l,hv=>by
  simp only[partsOf]at hv;split at hv
  .rename_i v l' h1 h2;cases hv;exact .cons ⟨rfl,hρ x _ h1⟩ (ZN hρ h2)
  .cases hv
theorem aoJ{ρ:Operand->Option SV}{ev:Operand->Value}(hρ:∀x s,ρ x=some s->fu w m M s (ev x)):∀{xs:List Operand} {ks:List Nat},Jc ρ xs=some ks→
  xs.length=ks.length∧∀(i:Nat) k,ks[i]? =some k→∃l b,m k=some l/\l.blk=some b/\(xs.map ev)[i]? =some (.pointer (some ⟨b,0,none⟩))
 | [],ks,hv=>by simp[Jc]at hv;subst hv;exact⟨rfl,λi k hi=>by simp at hi⟩
 |x::xs,ks,hv=>by
  simp only[Jc]at hv;split at hv
  .rename_i k l h1 h2;cases hv;obtain⟨q1,q2⟩:=aoJ hρ h2;refine⟨by simp[q1],λi k' hi=> ?_⟩;cases i with
   |zero=>simp at hi;subst hi;have:=hρ x _ h1;generalize hev:ev x=v at this;cases this with|pb _ _ b l hk hb=>exact⟨l,b,hk,hb,by simp[hev]⟩
   |succ i=>simpa using q2 i k' (aD hi)
  .cases hv
theorem aha{ρ:Operand->Option SV}{ev:Operand->Value}(hρ:∀x s,ρ x=some s->fu w m M s (ev x)){o:Option Operand}{r:Option Int}(hr:AU ρ o=some r):
  (r=none/\o.map ev=none)∨∃k n,r=some n/\o.map ev=some (.int k n):=by
 rcases o with _|x;simp[AU]at hr;subst hr;exact .inl ⟨rfl,rfl⟩;simp only[AU]at hr;split at hr
 .rename_i k n h1;cases hr;have:=hρ x _ h1;generalize hev:ev x=v at this;cases this with|c hc=>cases hc;exact .inr ⟨k,n,rfl,by simp[hev]⟩
 .cases hr
end
section
variable {P:Program} {X:Mu} {w:World} {m:gU} {h:List aV}
theorem aHl{t ty:TypeId}{e:TypeId}{ts:List TypeId}(hu:P.underlying t=some (.slice e)):(Builtin.cap_ (t::ts).toArray ty #[.slice none 0 0]).run P w=.ok (.int .i64 0) w:=by simp[Builtin.cap_,run_underlying hu,goInt]
theorem aJr{t u e ty:TypeId}{i:TypeInfo}{zv:Value}{q k:IntKind}{n:Int}(hu:P.underlying t=some (.slice e))(hu':P.underlying u=some (.int q))(hi:P.info? e=some i)(hz:i.zero=some zv)
  (hb:0<i.bytes) (hp:0<i.size) (hn:0<n/\n*i.bytes<=140737488355328):
  (Builtin.append_ #[t,u] ty #[.slice none 0 0,.int k n]).run P w=
   .ok (.slice (some ⟨w.heap.size,0,none⟩) n.toNat (grownCap w n.toNat 0 e))
    (w.drew.alloc (.cells (Builtin.zeroCells zv.cells n.toNat++Builtin.zeroCells zv.cells (grownCap w n.toNat 0 e-n.toNat)) e)):=by
 obtain⟨N,rfl⟩:∃N:Nat,n=(N:Int):=⟨n.toNat,ah⟩;obtain⟨hn1,hn2⟩:=hn;have hN:(N:Int)<=N*i.bytes:=by
  have:N*1<=N*i.bytes:=ajj _ hb;rw[Gp]at this
  exact_mod_cast this
 have wl:IntKind.i64.wrap (N:Int)=(N:Int):=IntWalk.i64_in _ ah;have h9:((N*i.bytes:Nat):Int)<=140737488355328:=by rw[Int.natCast_mul];exact hn2
 have hN2:N*i.bytes<=140737488355328:=ah
 have c1:¬((N:Int)<0):=ah
 have c2:¬(281474976710656<(N:Int)*i.bytes):=ah
 have c3:¬N=0:=ah
 have c4:¬(9223372036854775807<(N:Int)):=ah
 have c5:Builtin.nextslicecap N 0=N:=by unfold Builtin.nextslicecap;rw[bU ah]
 have c6:¬(281474976710656<N*i.bytes):=ah
 have c7:¬(N*i.size=0):=by have:=Nat.mul_pos (Nat.pos_of_ne_zero c3) hp;omega
 simp[Builtin.append_,run_underlying hu,run_underlying hu',sizeOf,typeInfo,zeroValue,hi,hz,asInt,asIntOf,wl,c1,c2,c3,c4,c5,c6,c7,Question.forced,Builtin.firstCells,newRow,grownCap]
theorem aIl(H:fK X w m h){id:Nat}(hid:h[id]? =some .dead)(hm:m id=none){t u ty:TypeId}{q k:IntKind}{n:Int}(hu':P.underlying u=some (.int q)){bK:Eff}
  (he:abL P t id n=some bK) (hc:∀q∈bK.bs,q=true):
  ∃v w' m',(Builtin.append_ #[t,u] ty #[.slice none 0 0,.int k n]).run P w=.ok v w'/\Stp X w m h w' m' (eY h bK.ws)/\fu w' m' (MX X m' (eY h bK.ws)) bK.r v:=by
 unfold abL at he;rcases jB:qO P t with _|qq;rw[jB]at he;cases he;obtain⟨e,i,z⟩:=qq;rw[jB]at he;simp only at he;cases he;obtain⟨hu,hi,⟨zv,hz,hzc⟩,hzs,hz1,hpos,Bc⟩:=DK jB;have hn:0<n/\n*i.bytes<=140737488355328:=iZ (hc _ aj);have hrun:=aJr (P:=P) (w:=w) (ty:=ty) (k:=k) hu hu' hi hz Bc hpos hn;have hge:=grownCap_ge w n.toNat 0 e;generalize grownCap w n.toNat 0 e=nc at hrun hge;rw[hzc]at hrun;have hsz:(Builtin.zeroCells z n.toNat++Builtin.zeroCells z (nc-n.toNat)).size=nc*i.size:=by simp only[ajO,size_zeroCells,hzs,<-nS];congr 1;omega
 have hz0:0<z.size:=ah
 have hat:∀j,j<nc*i.size->(Builtin.zeroCells z n.toNat++Builtin.zeroCells z (nc-n.toNat)).getD j undef=z[j%z.size]'(uD _ hz0):=by
  intro j hj;have e0:n.toNat*z.size+(nc-n.toNat)*z.size=nc*z.size:=by rw[<-nS];congr 1;omega
  rw[<-hzs]at hj;rcases mI j (n.toNat*z.size)with h1|h1
  .have hm:j%z.size<z.size:=uD _ hz0;simp[Array.getD,Builtin.zeroCells,asO,h1,hm];omega
  .have hm:(j-n.toNat*z.size)%z.size=j%z.size:=by
    conv=>rhs;rw[show j=(j-n.toNat*z.size)+z.size*n.toNat by rw[Eh z.size];omega]
    rw[Nat.add_mul_mod_self_left]
   have hm1:j%z.size<z.size:=uD _ hz0;simp[Array.getD,Builtin.zeroCells,asO,Nat.not_lt.2 h1,hm,hm1];omega
 obtain⟨m',hSt,iP⟩:=Stp.abR H hid hm (w1:=w.drew) rfl rfl rfl ⟨rfl,λ_=>abA _⟩ none (z:=i.size) (n:=n.toNat) (cap:=nc) (f:=λ_=>z.toList.map .val)
  (vs:=Builtin.zeroCells z n.toNat++Builtin.zeroCells z (nc-n.toNat)) e hge hsz
  (λj hj=>by
   rw[hsz]at hj;rw[hat j hj]
   exact(LV.1 hz1) _ (uD _ hz0))
  (λj hj=>by
   refine⟨by simp[hzs],λq x hx=> ?_⟩;rw[mG]at hx;rcases hzj:z.toList[q]? with _|v;rw[hzj]at hx;cases hx;rw[hzj]at hx;cases hx;have hq:q<z.size:=(by have:=iI hzj;simpa using this);have hlt:j*i.size+q<nc*i.size:=(by have h1:j*i.size+i.size<=nc*i.size:=(by rw[<-pF];exact jU _ ah);omega);rw[hat _ hlt];have hm:(j*i.size+q)%z.size=q:=(by rw[<-hzs,PX,Nat.add_mul_mod_self_right,PZ hq]);have:z[(j*i.size+q)%z.size]'(uD _ hz0)=v:=(by simp only[hm];simp[hq]at hzj;exact hzj);rw[this]
   exact .val v)
 exact⟨_,_,m',hrun,hSt,iP⟩
end
section
variable {P:Program} {X:Mu} {w:World} {m:gU} {h:List aV}
theorem agD:∀(a b:List (Nat×aV)) (h:List aV),eY h (a++b)=eY (eY h a) b
 | [],b,h=>rfl
 |(k,o)::a,b,h=>agD a b (h.set k o)
theorem aaM:∀(ks:List Nat) (h:List aV) (j:Nat),(eY h (Bf ks))[j]? =h[j]? /\j ∉ ks\/(eY h (Bf ks))[j]? =some .dead\/((eY h (Bf ks))[j]? =none)
 | [],h,j=> .inl ⟨rfl,aj⟩
 |k::ks,h,j=>by
  have e:eY h (Bf (k::ks))=eY (h.set k .dead) (Bf ks):=rfl;rw[e];rcases aaM ks (h.set k .dead) j with⟨h1,h2⟩|h1|h1
  .by_cases q:k=j
   .subst q;rw[h1];by_cases hk:k<h.length
    .exact .inr (.inl (by rw[uz hk]))
    .exact .inr (.inr (by rw[wK ay]))
   .refine .inl ⟨by rw[h1,sI q],?_⟩;simp only[BZ,not_or];exact⟨λh=>q h.symm,h2⟩
  .exact .inr (.inl h1)
  .exact .inr (.inr h1)
theorem Stp.trans'{w' w'':World}{m' m'':gU}{h' h'':List aV}(a:Stp X w m h w' m' h')(b:Stp X w' m' h' w'' m'' h'')(hnw:∀k,h[k]? =some .dead->h''[k]? =some .dead->m k=none->m'' k=none):Stp X w m h w'' m'' h'':=by
 refine⟨b.rel,a.later.trans b.later,b.os.trans a.os,b.tape.trans a.tape,a.output.trans b.output,λk hk hM=> ?_,λk hk=> ?_,hnw⟩
 .have hs:=a.later.size;rw[b.keep k ah (λhM'=>by rcases a.mt k hM' with h1|h1;exact hM h1;omega),a.keep k hk hM]
 .rcases b.mt k hk with h1|h1
  .exact a.mt k h1
  .exact .inr (Cb a.later.size h1)
theorem Stp.kill(H:fK X w m h)(k:Nat):Stp X w m h w m (h.set k .dead):=by
 have hd:∀j o,j=k->(h.set k .dead)[j]? =some o->o=.dead:=by
  intro j o e ho;subst e;by_cases hj:j<h.length
  .rw[uz hj]at ho;cases ho;rfl
  .rw[wK ay]at ho;cases ho
 refine H.change (λj=>j=k) aj (λj hj=>sI (λe=>hj e.symm)) (λ_ _ h=>h) (λ_ _=>rfl) H.used rfl rfl (oF.same _) (gI _) ?_ (λ_ _=> .inl rfl) ?_ (λ_ _ _ h=>h) ?_
 .intro j o l b hj ho hl _ _;have:=hd j o hj ho;subst this;exact hl.elim
 .intro j j' o o' l l' b hj ho _ hl _ _ _ _ _;have:=hd j o hj ho;subst this;exact hl.elim
 .intro _ j o hj ho;have:=hd j o hj ho;subst this;trivial
theorem Stp.kills:∀(ks:List Nat) {h:List aV},fK X w m h->Stp X w m h w m (eY h (Bf ks))
 | [],h,H=>Stp.refl H
 |k::ks,h,H=>(Stp.kill H k).trans' (Stp.kills ks (Stp.kill H k).rel) (λ_ _ _ h=>h)
theorem aKL(H:fK X w m h){ks:List Nat}{k z n:Nat}{f:Nat->List CV}{v:Value}(hk:k∈ks)(hg:eD h k= .arr z n f)(hs:dP w m (MX X m h) (.own k) v):
  lu w (MX X m (eY h (Bf ks))) (.rd z n f) v:=by
 have S:=Stp.kills ks H;cases hs with
 |own _ l hm=>have hget:=oP hg trivial;obtain⟨l',e1,e2,⟨e3,e3'⟩,e4,e5⟩:=H.obj k _ hget;rw[hm]at e1;cases e1;subst e3;cases hbl:l.blk with
 |none=>
  have:=e4 hbl;have hn:l.n=0:=ah
  rw[hn];exact .qh z f _ _
 |some b=>
  obtain⟨e6,T,vs,e7,e8,e9,e10⟩:=e5 b hbl;rw[e6];have hle:l.n*z<=vs.size:=by rw[e8];exact jU _ e3'
  refine .rd z l.n f b 0 l.cap (λj=>vs.getD j undef) ?_ (lt_of_block e7) e3' (λi hi=>(e10 i hi).1) (λj hj=> ?_) (λj hj=>e9 j ah) (λi j x hi hx=>((e10 i hi).2 j x hx).later S.later)
  .rintro(hX|⟨j,o,lj,h1,h2,h3,h4⟩)
   .exact H.uO b ⟨k,_,l,hget,trivial,hm,hbl⟩ hX
   .rcases aaM ks h j with⟨q1,q2⟩|q1|q1
    .rw[q1]at h1;have:=H.inj j k o _ lj l b h1 hget h2 trivial h3 hm h4 hbl;subst this;exact q2 hk
    .rw[q1]at h1;cases h1;exact h2.elim
    .rw[q1]at h1;cases h1
  .rw[nL,cell_of_row w b j vs T (0,0) e7,Ji (show j<vs.size by omega)];simp[Array.getD,show j<vs.size by omega]
def QF:Nat->List CV->List (Nat×AV)
 |_,[]=> []
 |j,v::r=>(j,.s (.c v))::QF (j+1) r
theorem aqx(H:fK X w m h){KS:List Nat}:∀{l:List (Nat×AV)} {j:Nat} {ks:List Nat} {qs:List (Nat×Value)},Jf j l=some ks->(∀k∈ks,k∈KS)->(∀k∈ks,Je (eD h k)=true)→
  j4 (λ(a:Nat×AV) (b:Nat×Value)=>a.1=b.1/\jo w m (MX X m h) a.2 b.2) l qs→
  j4 (λ(a:Nat×AV) (b:Nat×Value)=>a.1=b.1/\jo w m (MX X m (eY h (Bf KS))) a.2 b.2) (QF j (ks.map λk=>E9 (eD h k))) qs
 | [],j,ks,qs,ho,_,_,hq=>by simp only[Jf,kZ]at ho;subst ho;cases hq;exact .nil
 | (i, a)::l,j,ks,qs,ho,hK,hA,hq=>by cases a with
  |agg cs=>simp[Jf]at ho
  | s x => cases x with
   |own k=>
    simp only[Jf]at ho;rcases hb:Nat.beq i j with _|_;rw[hb]at ho;cases ho;rw[hb]at ho;simp only[aY]at ho;have hb:=eG hb;subst hb;split at ho
    .rename_i r hr;cases ho;cases hq with
     |cons hh ht=>obtain⟨h1,h2⟩:=hh;have ha:=hA k pE;cases hg:eD h k with
      |arr z n f=>refine .cons ⟨h1,?_⟩ (aqx H hr (λq hq=>hK q (nR _ hq)) (λq hq=>hA q (nR _ hq)) ht);simp only[hg,E9];exact .c (aKL H (hK k pE) hg h2)
      |box cs=>rw[hg]at ha;cases ha
      |ra z1 n1 cs1=>rw[hg]at ha;cases ha
      |ms es1=>rw[hg]at ha;cases ha
      |dead=>rw[hg]at ha;cases ha
    .cases ho
   |_=>simp[Jf]at ho
theorem aqk{sz:Nat}(hs:sz=1){zs:List SC}(hz:zs.length=1):∀(vs:List CV) (done:List SC) (r:Nat),vs.length=r->(∀v∈vs,(SC.c v).scalar=true)→
  vK (λk=>some (k*sz,sz)) (done++rep zs r) (QF done.length vs)=some (done++vs.map .c)
 | [],done,r,hr,_=>by subst hr;simp[QF,vK,rep]
 |v::vs,done,r,hr,hv=>by
  subst hr;subst hs;have hlen:(rep zs vs.length).length=vs.length:=by rw[O5];simp[hz]
  obtain⟨z0,rfl⟩:∃z0,zs=[z0]:=by rcases zs with _|⟨a,b⟩;simp at hz;rcases b with _|⟨_,_⟩;exact⟨a,rfl⟩;simp at hz
  simp only[QF,vK,kT,zi,xR,Gp];have c1:Nat.beq (0+1) 1=true:=rfl;have c2:Nat.ble (done.length+1) (done++rep [z0] (vs.length+1)).length=true:=by apply VH;simp[rep]
  have c3: [SC.c v].all SC.scalar=true:=by simp[hv v pE]
  rw[c1,c2,c3];simp only[Ba,aY];have e:splice (done++rep [z0] (vs.length+1)) done.length [SC.c v]=(done++ [SC.c v])++rep [z0] vs.length:=by unfold splice;rw[ajf];simp[rep,List.drop_append]
  have e2:done.length+1=(done++ [SC.c v]).length:=aj
  rw[e,e2];have:=aqk (sz:=1) rfl (zs:=[z0]) rfl vs (done++ [SC.c v]) vs.length rfl (λq hq=>hv q (nR _ hq));simp only[Gp]at this;rw[this];simp
theorem aIO(vs:List CV):tK (vs.map .c)=some vs:=by induction vs with|nil=>rfl|cons v vs ih=>simp[tK,ih]
theorem aIo(H:fK X w m h){id:Nat}(hid:h[id]? =some .dead)(hm:m id=none){t:TypeId}{n:Nat}{ps:List (Nat×AV)}{qs:Array (Nat×Value)}{bK:Eff}
  (hq:j4 (λ(a:Nat×AV) (b:Nat×Value)=>a.1=b.1/\jo w m (MX X m h) a.2 b.2) ps qs.toList) (he:P7 P t id (eD h) n ps=some bK):
  ∃v w' m',(Instr.buildSlice t n qs).run P w=.ok v w'/\Stp X w m h w' m' (eY h bK.ws)/\fu w' m' (MX X m' (eY h bK.ws)) bK.r v:=by
 unfold P7 at he;split at he
 .rename_i ks hks;unfold Wo at he;rcases jB:qO P t with _|q;rw[jB]at he;cases he;obtain⟨e,i,z⟩:=q;rw[jB]at he;simp only at he;cases hb:(Nat.beq i.size 1&&Nat.beq ks.length n&&Nat.ble (n*i.size) 16777216&&ks.all (λk=>Je (eD h k)))with
  |false=>rw[hb]at he;cases he
  |true=>
   rw[hb]at he;cases he;simp only[dD]at hb;obtain⟨⟨⟨b1,b2⟩,b3⟩,b4⟩:=hb;have b1:=eG b1;have b2:=eG b2;have hall:=kG.1 b4;have S:=Stp.kills ks H;obtain⟨hu,hi,⟨zv,hz,hzc⟩,hzs,hz1,hpos,Bc⟩:=DK jB;have hq':=aqx H (KS:=ks) hks (λ_ h=>h) (λk hk=>hall k hk) hq;have aNl:(eY h (Bf ks))[id]? =some .dead:=by
    rcases aaM ks h id with⟨q1,_⟩|q1|q1
    .rw[q1];exact hid
    .exact q1
    .have hlen:∀(a:List (Nat×aV)) (h:List aV),(eY h a).length=h.length:=(by intro a;induction a with|nil=>intro h;rfl|cons x a ih=>intro h;obtain⟨k,o⟩:=x;show(eY (h.set k o) a).length=_;rw[ih];simp);have h1:=iI hid;rw[arQ,hlen]at q1;omega
   have as4:=aqk (sz:=i.size) b1 (zs:=vals z.toList) (by simp[vals];omega) (ks.map λk=>E9 (eD h k)) [] n (by simp[b2]) (λv hv=>by
    obtain⟨k,hk,rfl⟩:=xS.1 hv;have:=hall k hk;revert this
    cases eD h k<;>intro h<;>first|rfl|cases h)
   simp only[Gn,xR]at as4;have hbs:OG P t id n (QF 0 (ks.map λk=>E9 (eD h k)))=some {r:=.one (.s (.own id)),ws:=[(id,.arr i.size n (λj=>((ks.map λk=>E9 (eD h k)).drop (j*i.size)).take i.size))]}:=(by unfold OG;rw[jB];simp only;rw[b3];simp only[aY];rw[as4];simp only;rw[aIO]);obtain⟨v,w',m',hr,hS,hs⟩:=anE (P:=P) S.rel aNl hm hq' hbs;refine⟨v,w',m',hr,?_,?_⟩
   .rw[agD];refine S.trans' hS (λk h1 h2 h3=>hS.nw k ?_ h2 h3);rcases aaM ks h k with⟨q1,_⟩|q1|q1
    .rw[q1];exact h1
    .exact q1
    .have hlen:∀(a:List (Nat×aV)) (h:List aV),(eY h a).length=h.length:=(by intro a;induction a with|nil=>intro h;rfl|cons x a ih=>intro h;obtain⟨k,o⟩:=x;show(eY (h.set k o) a).length=_;rw[ih];simp);have h1:=iI h1;rw[arQ,hlen]at q1;omega
   .rw[agD];exact hs
 .exact anE (P:=P) H hid hm hq he
end
section
variable {o:Oper}{a:Act}{bK:Eff}{v:Value}
def Yields(P:Program)(X:Mu)(w:World)(m:gU)(h:List aV)(o:Oper)(a:Act)(ws:List (Nat×aV))(r:SV):Prop:=
 ∃nx w' m' v,(execOp a.eval o).run P w=.ok nx w'/\(nx=.value v\/(nx=.skip/\v=undef))/\Stp X w m h w' m' (eY h ws)/\fu w' m' (MX X m' (eY h ws)) r v
section
variable {P:Program} {X:Mu} {w:World} {m:gU} {h:List aV}
theorem Yields.pure(H:fK X w m h)(hr:(execOp a.eval o).run P w=.ok (.value v) w)(hw:bK.ws=[])(hs:fu w m (MX X m h) bK.r v):
  Yields P X w m h o a bK.ws bK.r:=
 ⟨_,w,m,v,hr,.inl rfl,by rw[hw];exact Stp.refl H,by rw[hw];exact hs⟩
theorem aJm(H:fK X w m h){src dst e:TypeId}{k z n:Nat}{f:Nat->List CV}
  (hs:P.underlying src=some (.slice e)) (hd:P.underlying dst=some .string) (he:P.underlying e=some (.int .u8))
  (ho:eD h k=.arr z n f) (hz:z=1) (hall:∀i,i<n->acI (f i)=true) (hv:fu w m (MX X m h) (.one (.s (.own k))) v):
  (convert src dst v).run P w=.ok (.string (VQ n f)) w:=by
 subst hz;cases hv with
 |own _ l hk=>
 obtain⟨l',e1,e2,⟨e3,e3'⟩,e4,e5⟩:=H.obj k _ (oP ho trivial);rw[hk]at e1;cases e1;subst e3;have aMQ:(convert src dst (.slice l.base l.n l.cap)).run P w=(Conv.bytesToString (.slice l.base l.n l.cap)).run P w:=by simp[convert,run_underlying hs,run_underlying hd,run_underlying he]
 rw[aMQ]
 have hb0:∀ns:List Int,(∀i,i<l.n->u8v (f i)=UInt8.ofNat (ns.getD i 0).toNat)->ns.length=l.n→
   ns.foldl (λr n=>r.push (UInt8.ofNat n.toNat)) ByteArray.empty=VQ l.n f:=by
  intro ns h1 h2;have:ns=(List.range l.n).map λi=>ns.getD i 0:=by apply abm (by simp[h2]);intro i h3 h4;simp[fC,jN h3]
  rw[this,List.foldl_map];unfold VQ;have:∀(xs:List Nat) (r:ByteArray),(∀i∈xs,i<l.n)->xs.foldl (λr i=>r.push (UInt8.ofNat (ns.getD i 0).toNat)) r=xs.foldl (λr i=>r.push (u8v (f i))) r:=by intro xs;induction xs with|nil=>intro r _;rfl|cons x xs ih=>intro r hx;simp only[PV];rw[h1 x (hx x pE)];exact ih _ λi hi=>hx i (nR _ hi)
  exact this _ _ λi hi=>zT.1 hi
 cases hbl:l.blk with
 |none=>
  have hc0:=e4 hbl;have hn0:l.n=0:=ah
  have:=hb0 [] (λi hi=>ah) (by simp[hn0]);rw[<-this,hn0];rcases l.base with _|a;rfl;simpa using run_bytesToString (P:=P) w a 0 l.cap [] (by simp[loadCells,loadCellsFrom])
 |some b=>
  obtain⟨e6,T,vs,e7,e8,e9,e10⟩:=e5 b hbl;rw[e6];have hint:∀i,i<l.n→∃q:Int,f i=[.val (.int .u8 q)]/\vs.getD i undef=.int .u8 q:=by
   intro i hi;have h1:=hall i hi;obtain⟨h2,h3⟩:=e10 i hi;unfold acI at h1;split at h1
   .rename_i q hq;rw[hq]at h3;have:=h3 0 _ rfl;simp only[Gp,wN]at this;generalize hg:vs.getD i undef=g at this;cases this;exact⟨q,hq,rfl⟩
   .cases h1
  have hns:∃ns:List Int,ns.length=l.n∧∀i,i<l.n->f i=[.val (.int .u8 (ns.getD i 0))]/\vs.getD i undef=.int .u8 (ns.getD i 0):=by refine⟨(List.range l.n).map λi=>match f i with| [.val (.int .u8 q)]=>q|_=>0,aj,λi hi=> ?_⟩;obtain⟨q,h1,h2⟩:=hint i hi;have:((List.range l.n).map λi=>match f i with| [.val (.int .u8 q)]=>q|_=>(0:Int)).getD i 0=q:=(by simp[fC,hi,h1]);rw[this];exact⟨h1,h2⟩
  obtain⟨ns,hl,hns⟩:=hns;rw[run_bytesToString (P:=P) w ⟨b,0,none⟩ l.n l.cap ns,hb0 ns (λi hi=>by rw[(hns i hi).1];rfl) hl];have hcell:∀j,j<l.n->w.cell? ((⟨b,0,none⟩:Addr).add j)=some (.int .u8 (ns.getD j 0)):=by intro j hj;rw[addr_add,nL,<-(hns j hj).2];rw[cell_of_row w b j vs T (0,0) e7,Ji (show j<vs.size by rw[e8];omega)];simp[Array.getD,show j<vs.size by rw[e8];omega]
  rw[run_loadCells w _ l.n _ hcell];congr 2;rw[ajb (g:=λi=>Value.int .u8 (ns.getD i 0)) (λ_ _=>rfl)];apply abm (by simp[hl]);intro i h3 h4;simp only[nQ,List.length_range]at h3;simp[fC,jN (show i<ns.length by omega)]
theorem agH(H:fK X w m h){id:Nat}(hid:h[id]? =some .dead)(hm:m id=none){ρ:Operand->Option SV}
  (hρ:∀x s,ρ x=some s->fu w m (MX X m h) s (a.eval x))  (he:evalOp P id ρ (eD h) o.op=some bK) (hc:∀q∈bK.bs,q=true):
  Yields P X w m h o a bK.ws bK.r:=by
 obtain⟨dst,op,type,pos,after,guard⟩:=o;cases op with
 |move x=>simp only[evalOp]at he;rcases hx:ρ x with _|s;rw[hx]at he;cases he;rw[hx]at he;cases he;exact Yields.pure H (bK:={r:=s}) (by simp[execOp]) rfl (hρ x s hx)
 |assign x=>simp only[evalOp]at he;rcases hx:ρ x with _|s;rw[hx]at he;cases he;rw[hx]at he;cases he;exact Yields.pure H (bK:={r:=s}) (by simp[execOp]) rfl (hρ x s hx)
 |pick c x y=>
  simp only[evalOp]at he;split at he
  .rename_i hcv;have hb:=hρ c _ hcv;generalize hec:a.eval c=vc at hb;cases hb with|c hb=>cases hb;rcases hx:ρ x with _|s;rw[hx]at he;cases he;rw[hx]at he;cases he;exact Yields.pure H (bK:={r:=s}) (by simp[execOp,hec,asBool]) rfl (hρ x s hx)
  .rename_i hcv;have hb:=hρ c _ hcv;generalize hec:a.eval c=vc at hb;cases hb with|c hb=>cases hb;rcases hx:ρ y with _|s;rw[hx]at he;cases he;rw[hx]at he;cases he;exact Yields.pure H (bK:={r:=s}) (by simp[execOp,hec,asBool]) rfl (hρ y s hx)
  .cases he
 |alloc T=>simp only[evalOp]at he;rcases hi:P.info? T with _|i;rw[hi]at he;cases he;rw[hi]at he;simp only at he;rcases hz:i.zero with _|z;rw[hz]at he;cases he;rw[hz]at he;simp only at he;rcases hb:z.cells.all Value.oneCell' with _|_;rw[hb]at he;cases he;rw[hb]at he;simp only[aY]at he;cases he;obtain⟨m',hS,hs⟩:=Stp.aso H hid hm T (U8 z.cells.toList) (ail hb);refine⟨.value _,_,m',_,?_,.inl rfl,hS,hs⟩;simp[execOp,Instr.alloc,FR hi hz,newVar,newRow]
 |box T x=>
  simp only[evalOp]at he;split at he
  .rename_i v hx;rcases hb:(kT v).all SC.scalar with _|_;rw[hb]at he;cases he;rw[hb]at he;simp only[aY]at he;cases he;obtain⟨hL,h1⟩:=jo.cells (hρ x _ hx) hb
   obtain⟨m',hS,hs⟩:=Stp.aso H hid hm T hL (λi hi=>by
    have:=h1 ((a.eval x).cells[i]) aj
    simpa[Array.getD,hi]using this)
   refine⟨.value _,_,m',_,?_,.inl rfl,hS,hs⟩;simp[execOp,Instr.box,newVar,newRow]
  .cases he
 |build t ps=>simp only[evalOp]at he;rcases hp:partsOf ρ ps.toList with _|l;rw[hp]at he;cases he;rw[hp]at he;simp only at he;have hq:=ZN hρ hp;obtain⟨v,hr,hw,_,hs⟩:=aHm (P:=P) (qs:=ps.map λ(i,x)=>(i,a.eval x)) (aD hq) he;exact Yields.pure H (by simp[execOp,hr]) hw hs
 |buildSlice t n ps=>simp only[evalOp]at he;rcases hp:partsOf ρ ps.toList with _|l;rw[hp]at he;cases he;rw[hp]at he;simp only at he;have hq:=ZN hρ hp;obtain⟨v,w',m',hr,hS,hs⟩:=aIo (P:=P) H hid hm (qs:=ps.map λ(i,x)=>(i,a.eval x)) (aD hq) he;exact⟨.value v,w',m',v,by simp[execOp,hr],.inl rfl,hS,hs⟩
 |load T x=>
  simp only[evalOp]at he;split at he
  .rename_i p hx;obtain⟨u,hr,hw,hs⟩:=aIp H (hρ x _ hx) he;exact Yields.pure H (by simp[execOp,hr]) hw hs
  .cases he
 |store T x y=>
  simp only[evalOp]at he;split at he
  .rename_i p v hx hy;obtain⟨w',hr,hw,hS⟩:=aHt H (hρ x _ hx) (hρ y _ hy) he;refine⟨.skip,w',m,undef,by simp[execOp,hr],.inr ⟨rfl,rfl⟩,hS,?_⟩;rw[hw];exact .c (.val _)
  .cases he
 |nilCheck x=>
  simp only[evalOp]at he;split at he
  .rename_i p hx;rcases hb:as8 p with _|_;rw[hb]at he;cases he;rw[hb]at he;simp only[aY]at he;cases he;have hp:=hρ x _ hx;have hv:∃q,a.eval x=.pointer (some q):=by generalize a.eval x=v at hp;cases p with
    |pb k off=>cases hp with|pb=>exact⟨_,rfl⟩
    |pe k i off=>cases hp with|pe=>exact⟨_,rfl⟩
    |rp cs=>cases hp with|rp=>exact⟨_,rfl⟩
    |_=>cases hb
   obtain⟨q,hq⟩:=hv;exact Yields.pure H (bK:={r:=.one (.s p)}) (by simp only[execOp,hq,Sem.run_pure];rfl) rfl (by rw[<-hq];exact hp)
  .cases he
 |binOp op t x y t'=>
  simp only[evalOp]at he;split at he
  .rename_i sx sy hx hy;obtain⟨v,hr,hw,hs⟩:=aJo (xo:=x) (yo:=y) (hρ x _ hx) (hρ y _ hy) he hc;exact Yields.pure H (by simp only[execOp,Sem.run_bind]at hr⊢;rw[hr];rfl) hw hs
  .cases he
 |unOp op t x=>
  simp only[evalOp]at he;split at he
  .rename_i v hx;have hv:=hρ x _ hx;generalize hev:a.eval x=v' at hv;cases hv with
   |c hv=>
    cases hv;rcases hu:akl op v with _|u;rw[hu]at he;cases he;rw[hu]at he;cases he;refine Yields.pure H (v:=u) ?_ rfl (.c (.val u));cases op<;>cases v<;>first|(cases hu;done)|skip
    all_goals (simp only[akl,kZ]at hu;subst hu;simp[execOp,hev,Op.unary,Op.intArith])
  .cases he
 |convert s d x=>
  simp only[evalOp]at he;split at he
  .rename_i k1 k k2 n hs' hd hx;cases he;have hv:=hρ x _ hx;generalize hev:a.eval x=v' at hv;cases hv with|c hv=>cases hv;exact Yields.pure H (v:=.int k (k.wrap n)) (by simp[execOp,hev,convert,run_underlying hs',run_underlying hd,Conv.intToInt]) rfl (.c (.val _))
  .rename_i b hs' hd hx;cases he;have hv:=hρ x _ hx;generalize hev:a.eval x=v' at hv;cases hv with|c hv=>cases hv;exact Yields.pure H (v:=.string b) (by simp[execOp,hev,convert,run_underlying hs',run_underlying hd]) rfl (.c (.val _))
  .rename_i e k hs' hd hx;have hv:=hρ x _ hx;cases ho:eD h k with
   |box=>rw[ho]at he;cases he
   |ra z1 n1 cs1=>rw[ho]at he;cases he
   |ms es1=>rw[ho]at he;cases he
   |dead=>rw[ho]at he;cases he
   |arr z n f=>
    rw[ho]at he;unfold ara at he;simp only at he;split at he
    .rename_i hu;rcases hz:Nat.beq z 1 with _|_;rw[hz]at he;cases he;rw[hz]at he;simp only[aY]at he;cases he;have hall:∀i,i<n->acI (f i)=true:=λi hi=>kG.1 (hc _ (qw.2 rfl)) i (zT.2 hi);exact Yields.pure H (v:=.string (VQ n f)) (by simp only[execOp];rw[Sem.run_bind,aJm H hs' hd hu ho (eG hz) hall hv];rfl) rfl (.c (.val _))
    .cases he
  .cases he
 |makeFunc f first caps=>
  simp only[evalOp]at he;split at he
  .rename_i f' ks hk;rcases hb:Nat.beq first.size 0 with _|_;rw[hb]at he;cases he;rw[hb]at he;cases he;have hf0:first= #[]:=acr (eG hb)
   subst hf0;obtain⟨q1,q2⟩:=aoJ hρ hk;refine Yields.pure H (v:=.func (.func f') #[] (caps.map a.eval)) (by simp[execOp,Instr.makeFunc]) rfl ?_;refine .fn f' ks _ (aD q1) (λi k hi=> ?_);obtain⟨l,b,e1,e2,e3⟩:=q2 i k hi;exact⟨l,b,e1,e2,aD e3⟩
  .cases he
 |makeSlice t l c=>
  simp only[evalOp]at he;split at he
  .rename_i k1 n1 k2 n2 h1 h2;have hv1:=hρ l _ h1;have hv2:=hρ c _ h2;generalize akF:a.eval l=v1 at hv1;generalize WS:a.eval c=v2 at hv2;cases hv1 with|c hv1=>cases hv1;cases hv2 with|c hv2=>cases hv2;obtain⟨v,w',m',hr,hS,hs⟩:=aIq (P:=P) (k1:=k1) (k2:=k2) H hid hm he hc;exact⟨.value v,w',m',v,by simp[execOp,akF,WS,hr],.inl rfl,hS,hs⟩
  .cases he
 |slice t x lo hi mx=>
  simp only[evalOp]at he;split at he
  .rename_i p lo' hi' mx' hx h1 h2 h3;obtain⟨u,hr,hw,hs⟩:=aHs H (hρ x _ hx) (aha hρ h1) (aha hρ h2) (aha hρ h3) he hc;exact Yields.pure H (by simp[execOp,hr]) hw hs
  .cases he
 |fieldAddr s x f=>
  simp only[evalOp]at he;split at he
  .rename_i p hx;obtain⟨u,hr,hw,hs⟩:=aEk (P:=P) (hρ x _ hx) he;exact Yields.pure H (by simp[execOp,hr]) hw hs
  .cases he
 |field s x f=>
  simp only[evalOp]at he;split at he
  .rename_i cs o' t' hx hf;rcases hl:yh P t' cs o' with _|v;rw[hl]at he;cases he;rw[hl]at he;cases he;obtain⟨vs,hev,hL⟩:=hρ x _ hx;obtain⟨fs,fl,i,hu,hfl,hi,h0,rfl,rfl⟩:=aou hf;obtain⟨u,hr,hs⟩:=aqM (P:=P) hL hl;exact Yields.pure H (v:=u) (by simp[execOp,Instr.field,run_underlying hu,hfl,hev,asAgg,hr]) rfl hs
  .cases he
 |indexAddr t x i=>
  simp only[evalOp]at he;split at he
  .rename_i p k n hx hi;have hv:=hρ i _ hi;generalize hev:a.eval i=v' at hv;cases hv with|c hv=>cases hv;obtain⟨u,hr,hw,hs⟩:=aEl (k:=k) H (hρ x _ hx) he hc;exact Yields.pure H (by simp[execOp,hev,hr]) hw hs
  .cases he
 |index t x i=>
  simp only[evalOp]at he;split at he
  .rename_i s k n hu hx hi;cases he;have hn:0<=n/\n<s.size:=iZ (hc _ aj);have hsx:=hρ x _ hx;have hsi:=hρ i _ hi;generalize hex:a.eval x=vx at hsx;generalize jB:a.eval i=vi at hsi;cases hsx with|c hsx=>cases hsi with|c hsi=>cases hsx;cases hsi;have hlt:n.toNat<s.size:=ah;refine Yields.pure H (bK:={r:=fQ (.int .u8 (((s.data.toList.getD n.toNat 0).toNat:Nat):Int))}) (v:=.int .u8 (((s.data.toList.getD n.toNat 0).toNat:Nat):Int)) ?_ rfl (.c (.val _));have hg:s[n.toNat]? =some s[n.toNat]:=(by simp[hlt]);have hd:s.data.toList.getD n.toNat 0=s[n.toNat]:=(by have:n.toNat<s.data.size:=hlt;rw[fC,Array.getElem?_toList,Ji this];rfl);rw[hd];simp[execOp,hex,jB,Instr.index,asIntOf,run_underlying hu,hn.1,hg]
  .cases he
 |extract x i=>
  simp only[evalOp]at he;split at he
  .rename_i vs hx;rcases hv:vs[i]? with _|v;rw[hv]at he;cases he;rw[hv]at he;cases he;obtain⟨us,hev,hz,hs⟩:=hρ x _ hx;have hi:i<us.size:=(by rw[hz];exact iI hv);refine Yields.pure H (v:=us[i]) (by simp[execOp,hev,Instr.extract,hi]) rfl ?_;have:=hs i v hv;have e:us.getD i undef=us[i]:=(by simp[Array.getD,hi]);rw[e]at this;exact this
  .cases he
 |call c=>obtain⟨callee,args,argTypes⟩:=c;simp only[evalOp]at he;cases callee with
  |value f=>cases he
  |invoke r n=>cases he
  |builtin b=>
   simp only at he;unfold I4 at he;have hrun:∀{r:Result Value} {u:Value} {w':World},r=.ok u w'->True:=λ_=>trivial;split at he
   .rename_i _ _ _ x t ts ha ht;rcases hx:ρ x with _|v;rw[hx]at he;cases he;rw[hx]at he;simp only at he;obtain⟨u,hr,hw,hs⟩:=aJp (P:=P) H (ty:=type) (ts:=ts) (hρ x _ hx) he;have e1:args= #[x]:=(by cases args;simp_all);have e2:argTypes=(t::ts).toArray:=(by cases argTypes;simp_all);subst e1;subst e2;exact Yields.pure H (by simp only[execOp,resolve,Sem.run_bind,Sem.run_pure,Result.andThen_ok,invoke,builtin];simp only[Jb,mH,yO];rw[hr];rfl) hw hs
   .rename_i _ _ _ s x t u' ha ht;split at he
    .rename_i sv xv e' hsv hxv hu';obtain⟨u,w',m',hr,hS,hs⟩:=aGs (P:=P) (ty:=type) H hid hm hu' (hρ s _ hsv) (hρ x _ hxv) he hc;have e1:args= #[s,x]:=(by cases args;simp_all);have e2:argTypes= #[t,u']:=(by cases argTypes;simp_all);subst e1;subst e2;exact⟨.value u,w',m',u,by simp only[execOp,resolve,Sem.run_bind,Sem.run_pure,Result.andThen_ok,invoke,builtin];simp only[Jb,mH,yO];rw[hr];rfl,.inl rfl,hS,hs⟩
    .rename_i kx n q hsv hxv hu';have h1:=hρ s _ hsv;have h2:=hρ x _ hxv;generalize hes:a.eval s=vs at h1;generalize hex:a.eval x=vx at h2;cases h1 with|c h1=>cases h1;cases h2 with|c h2=>cases h2;obtain⟨u,w',m',hr,hS,hs⟩:=aIl (P:=P) (ty:=type) (k:=kx) H hid hm hu' he hc;have e1:args= #[s,x]:=(by cases args;simp_all);have e2:argTypes= #[t,u']:=(by cases argTypes;simp_all);subst e1;subst e2;exact⟨.value u,w',m',u,by simp only[execOp,resolve,Sem.run_bind,Sem.run_pure,Result.andThen_ok,invoke,builtin];simp only[Jb,mH,yO,hes,hex];rw[hr];rfl,.inl rfl,hS,hs⟩
    .cases he
   .rename_i _ _ _ s x t ts ha ht;split at he
    .rename_i sv xv hsv hxv;have e1:args= #[s,x]:=(by cases args;simp_all);have e2:argTypes=(t::ts).toArray:=(by cases argTypes;simp_all);subst e1;subst e2;obtain⟨u,w',hr,hS,hs⟩:=aIk (P:=P) (ty:=type) (u:=t) H (hρ s _ hsv) (hρ x _ hxv) he hc;have hr':(Builtin.copy_ (t::ts).toArray type #[a.eval s,a.eval x]).run P w=.ok u w':=(by rw[<-hr];simp[Builtin.copy_]);exact⟨.value u,w',m,u,by simp only[execOp,resolve,Sem.run_bind,Sem.run_pure,Result.andThen_ok,invoke,builtin];simp only[Jb,mH,yO];rw[hr'];rfl,.inl rfl,hS,hs⟩
    .cases he
   .rename_i _ _ _ s t ts ha ht;split at he
    .rename_i sv hsv;have e1:args= #[s]:=(by cases args;simp_all);have e2:argTypes=(t::ts).toArray:=(by cases argTypes;simp_all);subst e1;subst e2;obtain⟨u,w',hr,hS,hs⟩:=aHn (P:=P) (ty:=type) (ts:=ts) H (hρ s _ hsv) he hc;exact⟨.value u,w',m,u,by simp only[execOp,resolve,Sem.run_bind,Sem.run_pure,Result.andThen_ok,invoke,builtin];simp only[Jb,mH,yO];rw[hr];rfl,.inl rfl,hS,hs⟩
    .cases he
   .rename_i _ _ _ x t ts ha ht;split at he
    .rename_i e' hxv hu';have h1:=hρ x _ hxv;generalize hex:a.eval x=vx at h1;cases h1 with|c h1=>cases h1;have e1:args= #[x]:=(by cases args;simp_all);have e2:argTypes=(t::ts).toArray:=(by cases argTypes;simp_all);subst e1;subst e2;cases he;exact Yields.pure H (bK:={r:=fQ (.int .i64 0)}) (by simp only[execOp,resolve,Sem.run_bind,Sem.run_pure,Result.andThen_ok,invoke,builtin];simp only[Jb,mH,yO,hex];rw[aHl hu'];rfl) rfl (.c (.val _))
    .cases he
   .rcases hv:BU ρ args.toList with _|vs;rw[hv]at he;cases he;rw[hv]at he;simp only at he;rcases hmn:acL vs with _|v;rw[hmn]at he;cases he;rw[hmn]at he;cases he;have hr:=aLg (P:=P) (w:=w) hmn argTypes type;have e1:args.map a.eval=vs.toArray:=(by apply LW;rw[Array.toList_map];exact agP hρ hv);exact Yields.pure H (by simp only[execOp,resolve,Sem.run_bind,Sem.run_pure,Result.andThen_ok,invoke,builtin,e1,hr]) rfl (.c (.val v))
   .rcases hv:BU ρ args.toList with _|vs;rw[hv]at he;cases he;rw[hv]at he;simp only at he;rcases hmn:acK vs with _|v;rw[hmn]at he;cases he;rw[hmn]at he;cases he;have hr:=aLf (P:=P) (w:=w) hmn argTypes type;have e1:args.map a.eval=vs.toArray:=(by apply LW;rw[Array.toList_map];exact agP hρ hv);exact Yields.pure H (by simp only[execOp,resolve,Sem.run_bind,Sem.run_pure,Result.andThen_ok,invoke,builtin,e1,hr]) rfl (.c (.val v))
   .cases he
 |_=>cases he
end
end
def AX:TypeDesc->Value->Bool
 | .int k,.int k' _=>k'==k
 | .string,.string _=>true
 |_,_=>false
def aj9:AV->Option Value
 | .s (.c (.val v))=>some v
 | .agg cs=>match tK cs with
  |some xs=>match xs.mapM (λx=>match x with| .val v=>some v|_=>none)with
   |some vs=>some (.agg vs.toArray)
   |none=>none
  |none=>none
 |_=>none
def WW(P:Program)(t:TypeId):Option (TypeDesc×Value):=
 match P.underlying t with
 |some (.map k e)=>match P.underlying k,P.info? e with
  |some d,some i=>match i.zero with
   |some z=>some (d,z)
   |none=>none
  |_,_=>none
 |_=>none
def QY(e:MapEntry):Value×Value:=(e.key,e.val)
def lkS(d:TypeDesc)(z n:Value)(es:List (Value×Value))(ok:Bool):Option Eff:=
 match z,n,ok with
 | .bool false,.int .i64 i,false=>bif AX d n then some {r:=fQ (.bool (wV es i)),bs:=[tQ es]}else none
 |_,_,_=>bif AX d n then
   some {r:=bif ok then .mW [Jo z,.s (.c (.val (.bool false)))]else .one (Jo z),bs:=[es.isEmpty]}else none
def ptS(d:TypeDesc)(k:Nat)(n u:Value)(es:List (Value×Value)):Option Eff:=
 match n,u with
 | .int .i64 i,.bool b=>bif AX d n then some {r:=fQ undef,ws:=[(k,.ms (vQ es i b))],bs:=[tQ es]}else none
 |_,_=>bif AX d n then some {r:=fQ undef,ws:=[(k,.ms [(n,u)])],bs:=[es.isEmpty]}else none
def aa9(P:Program)(get:Nat->aV)(t:TypeId)(x i:SC)(ok:Bool):Option Eff:=
 match WW P t with
 |some (d,z)=>match x,i with
  | .mp k,.c (.val n)=>match get k with
   | .ms es=>lkS d z n es ok
   |_=>none
  |_,_=>none
 |none=>none
def abO(P:Program)(get:Nat->aV)(t:TypeId)(x i:SC)(v:AV):Option Eff:=
 match WW P t with
 |some (d,_)=>match x,i,aj9 v with
  | .mp k,.c (.val n),some u=>match get k with
   | .ms es=>ptS d k n u es
   |_=>none
  |_,_,_=>none
 |none=>none
def P6(P:Program)(get:Nat->aV)(t:TypeId)(x:SC):Option Eff:=
 match P.underlying t,x with
 |some (.map _ _),.mp k=>match get k with
  | .ms es=>some {r:=fQ (.int .i64 (es.length:Int))}
  |_=>none
 |_,_=>none
def aiz(P:Program)(t:TypeId)(id:Nat):Option Eff:=
 match WW P t with
 |some _=>some {r:=.one (.s (.mp id)),ws:=[(id,.ms [])]}
 |none=>none
section
variable {P:Program} {X:Mu} {w:World} {m:gU} {h:List aV}
theorem apG{t:TypeId}{d:TypeDesc}{z:Value}(ht:WW P t=some (d,z)):∃k e i,P.underlying t=some (.map k e)/\P.underlying k=some d/\P.info? e=some i/\i.zero=some z:=by
 unfold WW at ht;split at ht
 .rename_i k e h1;split at ht
  .rename_i d' i h2 h3;split at ht
   .rename_i z' h4;cases ht;exact⟨k,e,i,h1,h2,h3,h4⟩
   .cases ht
  .cases ht
 .cases ht
theorem ZL{d:TypeDesc}{n:Value}(h:AX d n=true):MapKept.IsKey d n:=by
 unfold AX at h;split at h
 .exact(by simpa using h:_=_)
 .trivial
 .cases h
theorem aqR{M:Mu}(v:Value):jo w m M (Jo v) v:=by
 unfold Jo;split
 .rename_i cs;exact⟨cs,rfl,by have:=U8 (w:=w) (m:=m) (M:=M) cs.toList;simpa[vals]using this⟩
 .exact .c (.val v)
theorem aJj{M:Mu}{a:AV}{u v:Value}(hu:aj9 a=some u)(hs:jo w m M a v):v=u:=by cases a with
 |s x=>cases x with
  |c y=>cases y with
   |val q=>cases hu;cases hs with|c hs=>cases hs;rfl
   |_=>cases hu
  |_=>cases hu
 | agg cs=>
  simp only[aj9]at hu;split at hu
  .rename_i xs hx;split at hu
   .rename_i vs hvs;cases hu;obtain⟨ws,rfl,hL⟩:=hs;have hcs:=Vb hx;subst hcs;have:∀(xs:List CV) (vs:List Value),xs.mapM (λx=>match x with| .val v=>some v|_=>none)=some vs->xs=vs.map .val:=by intro xs;induction xs with
     |nil=>intro vs h;simp at h;subst h;rfl
     |cons x xs ih=>intro vs h;simp only[abq,Option.bind_eq_bind,Option.bind_eq_some_iff]at h;obtain⟨v,h1,vs',h2,h3⟩:=h;cases x with|val q=>simp at h1;subst h1;simp at h3;subst h3;rw[ih _ h2];rfl|_=>simp at h1
    have hxs:=this xs vs hvs;subst hxs;obtain⟨h1,h2⟩:=hL;congr 1;apply LW;apply abm (aD h1);intro i h3 h4;have h5:i<vs.length:=(aD h4);have:=h2 i (.c (.val vs[i])) (by simp[h5]);generalize hg:ws.getD i undef=g at this;cases this with|c hc=>cases hc;have h6:i<ws.size:=(aD h3);have:ws.getD i undef=ws[i]:=(by simp[Array.getD,h6]);rw[this]at hg;simpa using hg
   .cases hu
  .cases hu
theorem aI4{p:Value×Value}(h:QE p=true):∃a b,p=(.int .i64 a,.bool b):=by
 obtain⟨x,y⟩:=p;unfold QE at h;split at h
 .rename_i a b e;exact⟨a,b,e⟩
 .cases h
theorem ag9{n:Int}:∀(rows:List MapEntry) (es:List (Value×Value)) (i:Nat),rows.map QY=es->tQ es=true→
  (Instr.findNow (.int .i64) (.int .i64 n) rows i=some none/\wV es n=false∧∀u,vQ es n u=es++ [(.int .i64 n,.bool u)])∨
  ∃j e v,Instr.findNow (.int .i64) (.int .i64 n) rows i=some (some (i+j,.bool v))/\rows[j]? =some e/\e.key=.int .i64 n/\wV es n=v∧
   ∀u,(rows.modify j λe=>{e with key:=.int .i64 n,val:=.bool u}).map QY=vQ es n u
 | [],[],i,_,_=> .inl ⟨rfl,rfl,λ_=>rfl⟩
 | [],_::_,i,h,_=>by simp at h
 |_::_,[],i,h,_=>by simp at h
 |e ::rows,p::es,i,h,hb=>by
  have hb0:QE p=true/\tQ es=true:=by simpa only[tQ,wT,dD]using hb
  obtain⟨a,b,rfl⟩:=aI4 hb0.1;simp only[mH,List.cons.injEq]at h;obtain⟨h1,h2⟩:=h;have hk:e.key=.int .i64 a:=(Prod.mk.inj h1).1;have hv:e.val=.bool b:=(Prod.mk.inj h1).2;have hb':tQ es=true:=hb0.2;by_cases ha:a=n
  .subst ha;refine .inr ⟨0,e,b,?_,rfl,hk,by simp[wV],λu=> ?_⟩
   .simp[Instr.findNow,Instr.sameNow,hk,hv]
   .simp[List.modify,vQ,QY,h2]
  .rcases ag9 (n:=n) rows es (i+1) h2 hb' with⟨q1,q2,q3⟩|⟨j,e',v,q1,q2,q3,q4,q5⟩
   .refine .inl ⟨?_,by simp[wV,ha,q2],λu=>by simp[vQ,ha,q3 u]⟩;have:(n==a)=false:=rQ.2 λh=>ha h.symm;simp[Instr.findNow,Instr.sameNow,hk,this,q1]
   .refine .inr ⟨j+1,e',v,?_,aD q2,q3,by simp[wV,ha,q4],λu=> ?_⟩
    .have:(n==a)=false:=rQ.2 λh=>ha h.symm;simp[Instr.findNow,Instr.sameNow,hk,this,q1,wM,PX 1 j]
    .have:=q5 u;simp only[vQ,ha,decide_false,aZ,mH,List.modify_succ_cons,h1,this]
theorem aHq(H:fK X w m h){t:TypeId}{ok:Bool}{sx si:SC}{x i:Value}{bK:Eff}(hx:dP w m (MX X m h) sx x)(hi:dP w m (MX X m h) si i)
  (he:aa9 P (eD h) t sx si ok=some bK) (hc:∀q∈bK.bs,q=true):∃v,(Instr.lookup t x i ok).run P w=.ok v w/\bK.ws=[]/\fu w m (MX X m h) bK.r v:=by
 unfold aa9 at he;split at he
 .rename_i d z ht;split at he
  .rename_i k n;split at he
   .rename_i es hg;cases hx with
    |mp _ b l hk hb=>cases hi with
    |c h2=>
    cases h2;obtain⟨kt,et,inf,u1,u2,u3,u4⟩:=apG ht;obtain⟨l',b',rows,clock,e1,e2,e3,e4⟩:=H.obj k _ (oP hg trivial);rw[hk]at e1;cases e1;rw[hb]at e2;cases e2;unfold lkS at he;split at he
    .rename_i i0;cases hk0:AX d (.int .i64 i0)with
     |false=>rw[hk0]at he;cases he
     |true=>
      rw[hk0]at he;cases he;have hib:tQ es=true:=hc _ aj;have e4':rows.toList.map QY=es:=e4;have u2':d=.int .i64:=(by cases d<;>simp[AX]at hk0;rw[hk0]);subst u2';rcases ag9 (n:=i0) rows.toList es 0 e4' hib with⟨q1,q2,_⟩|⟨j,e,v,q1,q2,q3,q4,_⟩
      .refine⟨.bool false,?_,rfl,?_⟩
       .simp[Instr.lookup,run_underlying u1,MapKept.run_getObj_map e3,MapKept.run_checkKey u2 (ZL hk0),MapKept.run_findKey u2 q1,FR u3 u4,Result.andThen]
       .rw[q2];exact .c (.val _)
      .refine⟨.bool v,?_,rfl,?_⟩
       .simp[Instr.lookup,run_underlying u1,MapKept.run_getObj_map e3,MapKept.run_checkKey u2 (ZL hk0),MapKept.run_findKey u2 q1,Result.andThen]
       .rw[q4];exact .c (.val _)
    .rcases hk0:AX d _ with _|_;rw[hk0]at he;cases he;rw[hk0]at he;cases he;have hes:es=[]:=(by have:=hc es.isEmpty aj;simpa using this);subst hes;have hr0:rows= #[]:=(aD e4);subst hr0;refine⟨if ok then .tuple #[z,.bool false]else z,?_,rfl,?_⟩
     .simp[Instr.lookup,run_underlying u1,MapKept.run_getObj_map e3,MapKept.run_checkKey u2 (ZL hk0),MapKept.run_findKey (l:=[]) (a:=none) u2 rfl,FR u3 u4,Result.andThen]
     .rcases ok with _|_;exact aqR z;refine⟨#[z,.bool false],rfl,rfl,λi a ha=> ?_⟩
      match i,ha with
      |0,ha=>cases ha;exact aqR z
      |1,ha=>cases ha;exact .c (.val _)
      |i+2,ha=>simp at ha
   .cases he
  .cases he
 .cases he
theorem aIr(H:fK X w m h){t:TypeId}{sx si:SC}{sv:AV}{x i v:Value}{bK:Eff}(hx:dP w m (MX X m h) sx x)(hi:dP w m (MX X m h) si i)(hv:jo w m (MX X m h) sv v)
  (he:abO P (eD h) t sx si sv=some bK) (hc:∀q∈bK.bs,q=true):
  ∃w',(Instr.mapUpdate t x i v).run P w=.ok () w'/\bK.r=fQ undef/\Stp X w m h w' m (eY h bK.ws):=by
 unfold abO at he;split at he
 .rename_i d z ht;split at he
  .rename_i k n u hu;split at he
   .rename_i es hg;cases hx with
    |mp _ b l hk hb=>cases hi with
    |c h2=>
    cases h2;have hvu:=aJj hu hv;subst hvu;obtain⟨kt,et,inf,u1,u2,u3,u4⟩:=apG ht;have hget:=oP hg trivial;obtain⟨l',b',rows,clock,e1,e2,e3,e4⟩:=H.obj k _ hget;rw[hk]at e1;cases e1;rw[hb]at e2;cases e2;unfold ptS at he;split at he
    .rename_i i0 b0;cases hk0:AX d (.int .i64 i0)with
     |false=>rw[hk0]at he;cases he
     |true=>
      rw[hk0]at he;cases he;have hib:tQ es=true:=hc _ aj;have e4':rows.toList.map QY=es:=e4;have u2':d=.int .i64:=(by cases d<;>simp[AX]at hk0;rw[hk0]);subst u2';have hkey:MapKept.IsKey (.int .i64) (.int .i64 i0):=rfl
      have write:∀(rows':Array MapEntry) (c':Nat),rows'.toList.map QY=vQ es i0 b0→
        Stp X w m h {w with heap:=w.heap.setIfInBounds b (.map rows' c')} m (eY h [(k,.ms (vQ es i0 b0))]):=by
       intro rows' c' hr;refine Stp.write H hget trivial hk hb rfl rfl ⟨rfl,λ_=>gI _⟩ aj (λc _ hc=>(MapKept.heap_set e3).2 c hc) (λkM=> ?_);exact⟨l,b,rows',c',hk,hb,(MapKept.heap_set e3).1,hr⟩
      rcases ag9 (n:=i0) rows.toList es 0 e4' hib with⟨q1,_,q2⟩|⟨j,e,v',q1,q2,q3,q4,q5⟩
      .refine⟨_,?_,rfl,write (rows.push {key:=.int .i64 i0,val:=.bool b0,born:=clock}) (clock+1) ?_⟩
       .simp[Instr.mapUpdate,run_underlying u1,MapKept.run_getObj_map e3,MapKept.run_checkKey u2 hkey,MapKept.run_findKey u2 q1,MapKept.run_setObj_map _ e3,Result.andThen]
       .rw[q2 b0,Array.toList_push,Lp,e4'];rfl
      .have hj:rows[j]? =some e:=(aD q2);refine⟨_,?_,rfl,write (rows.modify j λe=>{e with key:=.int .i64 i0,val:=.bool b0}) clock ?_⟩
       .simp[Instr.mapUpdate,run_underlying u1,MapKept.run_getObj_map e3,MapKept.run_checkKey u2 hkey,MapKept.run_findKey u2 q1,hj,q3,MapKept.run_keyThatStays hkey,MapKept.run_setObj_map _ e3,Result.andThen]
       .rw[Array.toList_modify];exact q5 b0
    .rcases hk0:AX d i with _|_;rw[hk0]at he;cases he;rw[hk0]at he;cases he;have hes:es=[]:=(by have:=hc es.isEmpty aj;simpa using this);subst hes;have hr0:rows= #[]:=(aD e4);subst hr0;refine⟨{w with heap:=w.heap.setIfInBounds b (.map #[{key:=i,val:=v,born:=clock}] (clock+1))},?_,rfl,?_⟩
     .simp[Instr.mapUpdate,run_underlying u1,MapKept.run_getObj_map e3,MapKept.run_checkKey u2 (ZL hk0),MapKept.run_findKey (l:=[]) (a:=none) u2 rfl,MapKept.run_setObj_map _ e3,Result.andThen]
     .refine Stp.write H hget trivial hk hb rfl rfl ⟨rfl,λ_=>gI _⟩ aj (λc _ hc=>(MapKept.heap_set e3).2 c hc) (λkM=> ?_);exact⟨l,b,_,_,hk,hb,(MapKept.heap_set e3).1,rfl⟩
   .cases he
  .cases he
 .cases he
theorem aIm(H:fK X w m h){t ty:TypeId}{ts:List TypeId}{x:SC}{v:Value}{bK:Eff}(hx:dP w m (MX X m h) x v)(he:P6 P (eD h) t x=some bK):
  ∃u,(Builtin.len_ (t::ts).toArray ty #[v]).run P w=.ok u w/\bK.ws=[]/\fu w m (MX X m h) bK.r u:=by
 unfold P6 at he;split at he
 .rename_i k0 e0 k hu;split at he
  .rename_i es hg;cases he;cases hx with|mp _ b l hk hb=>obtain⟨l',b',rows,clock,e1,e2,e3,e4⟩:=H.obj k _ (oP hg trivial);rw[hk]at e1;cases e1;rw[hb]at e2;cases e2;refine⟨_,?_,rfl,.c (.val _)⟩;have:es.length=rows.size:=(by rw[<-e4];simp);simp[Builtin.len_,run_underlying hu,goInt,MapKept.run_getObj_map e3,Result.andThen,this]
  .cases he
 .cases he
theorem aHr(H:fK X w m h){id:Nat}(hid:h[id]? =some .dead)(hm:m id=none){t:TypeId}{bK:Eff}(he:aiz P t id=some bK):
  ∃w' m' v,(Instr.makeMap t none).run P w=.ok v w'/\Stp X w m h w' m' (eY h bK.ws)/\fu w' m' (MX X m' (eY h bK.ws)) bK.r v:=by
 unfold aiz at he;split at he
 .cases he;let l:Loc:=⟨some ⟨w.heap.size,0,none⟩,0,0,some w.heap.size,0⟩
  refine⟨w.alloc (.map #[] 0),mU m id l,.map (some w.heap.size),by simp[Instr.makeMap,Result.andThen],?_,?_⟩
  .refine Stp.make H hid hm none l (.ms []) trivial rfl rfl ⟨rfl,λ_=>gI _⟩ aj (λb hb=> .inl (Ua w _ b hb)) (λb hb=> ?_) (λkM=> ?_)
   .cases hb;exact .inl (gI _)
   .exact⟨l,w.heap.size, #[],0,by simp[mU],rfl,U3 w _,rfl⟩
  .exact dP.mp id w.heap.size l (by simp[mU]) rfl
 .cases he
end
end Go.AM
