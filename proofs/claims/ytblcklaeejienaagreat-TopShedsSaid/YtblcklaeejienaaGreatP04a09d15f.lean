/- How often a loop may go round. Whether draws are counted. -/
import Derived.WalkKit
import Derived.KernelRfl
import Derived.Orders
import Derived.MapKept
import Derived.Laws.BytesString
set_option linter.defProp false
set_option linter.unusedSectionVars false
set_option linter.unusedSimpArgs false
set_option linter.unusedVariables false
namespace Go.CP
open Go
structure aLI where
 n:Nat
 eq:n=18446744073709551616
 dr:Prop
abbrev Fuel:Type:=Inhabited aLI
def fuel [F:Fuel]:Nat:=F.default.n
theorem iP [F:Fuel]:fuel=18446744073709551616:=F.default.eq
theorem aB[Fuel]{p:Prop}(h:p:=by rw[iP];omega):p:=h
def Dr [F:Fuel]:Prop:=F.default.dr
@[reducible] def GD [F:Fuel]:Fuel:=⟨⟨F.default.n,F.default.eq,True⟩⟩
end Go.CP
namespace Go
theorem ah{p:Prop}(h:p:=by omega):p:=h
theorem aj{p:Prop}(h:p:=by simp):p:=h
theorem ak{p:Prop}(h:p:=by decide):p:=h
theorem au{p:Prop}(h:p:=by kernel_rfl):p:=h
theorem ay{p:Prop}(h:p:=by simp;omega):p:=h
theorem aA{p:Prop}(h:p:=by intro v;kernel_rfl):p:=h
theorem aC{p:Prop}(h:p:=by intro vs w;rfl):p:=h
theorem aD{p q:Prop}(h:p)(i:p->q:=by intro h;simpa using h):q:=i h
theorem aF{α:Type}{a b:α}{o:Option α}(h:o=some a)(k:a=b:=by kernel_rfl):o=some b:=k▸h
def LJ:=@Array.all_eq_true
def asV:=@Array.all_eq_true_iff_forall_mem
def ab5:=@Array.eq_empty_of_size_eq_zero
def LK:=@Array.ext'
def asW:=@Array.ext_getElem?
def asX:=@Array.extract_size
def Qd:=@Array.getElem?_append_left
def Jo:=@Array.getElem?_eq_getElem
def VJ:=@Array.getElem?_eq_none
def ajj:=@Array.getElem?_eq_some_iff
def asi:=@Array.getElem?_extract
def PY:=@Array.getElem?_modify
def asj:=@Array.getElem?_setIfInBounds_ne
def asl:=@Array.getElem_append
def asn:=@Array.getElem_range
def aso:=@Array.getElem_toList
def ajk:=@Array.length_toList
def asq:=@Array.mapM_eq_mapM_toList
def ajl:=@Array.size_append
def ajm:=@BitVec.toNat_ofInt
def abM:=@Bool.and_eq_false_imp
def dQ:=@Bool.and_eq_true
def Em:=@Bool.and_false
def Ad:=@Bool.and_self
def Gx:=@Bool.and_true
def abN:=@Bool.eq_false_iff
def PZ:=@Bool.eq_iff_iff
def nu:=@Bool.false_and
def nH:=@Bool.false_eq_true
def kW:=@Bool.false_or
def Bf:=@Bool.not_eq_false'
def wQ:=@Bool.not_eq_true'
def jQ:=@Bool.not_false
def gI:=@Bool.not_true
def nW:=@Bool.or_eq_false_iff
def pO:=@Bool.or_eq_true
def qc:=@Bool.or_false
def nO:=@Bool.or_self
def VK:=@Bool.or_true
def l6:=@Bool.true_and
def En:=@Bool.true_or
def ajn:=@Classical.byContradiction
def asr:=@Classical.choose_spec
def Gy:=@Decidable.em
def asu:=@Int.fdiv_eq_ediv_of_nonneg
def ajo:=@Int.le_of_lt
def jh:=@Int.le_refl
def wR:=@Int.le_trans
def VL:=@Int.not_le
def VN:=@Int.not_lt
def abO:=@Int.pow_pos
def asv:=@Int.tmod_eq_emod_of_nonneg
def P5:=@Int.tmod_lt_of_pos
def abP:=@Int.tmod_nonneg
def gL:=@Int.toNat_natCast
def Cu:=@Int.toNat_of_nonneg
def ajp:=@List.Perm.refl
def VP:=@List.Sublist.refl
def wS:=@List.all_cons
def j6:=@List.all_eq_true
def ajq:=@List.any_cons
def ajr:=@List.any_eq_false
def Vl:=@List.any_eq_true
def aiA:=@List.any_nil
def rH:=@List.append_assoc
def nE:=@List.append_nil
def Je:=@List.cons_append
def D9:=@List.drop_eq_getElem_cons
def Pt:=@List.drop_eq_nil_of_le
def Pv:=@List.drop_length
def aiB:=@List.drop_zero
def Jf:=@List.eq_nil_of_length_eq_zero
def Li:=@List.eq_of_mem_replicate
def aa1:=@List.ext_getElem
def Ea:=@List.ext_getElem?
def Ci:=@List.filter_append
def Pw:=@List.filter_cons
def Px:=@List.filter_eq_nil_iff
def aa2:=@List.filter_eq_self
def aiC:=@List.filter_nil
def Py:=@List.foldl_cons
def arj:=@List.getD_cons_succ
def aiD:=@List.getD_cons_zero
def fD:=@List.getD_eq_getElem?_getD
def p9:=@List.getElem?_append_left
def uo:=@List.getElem?_append_right
def Lj:=@List.getElem?_cons_succ
def aa3:=@List.getElem?_cons_zero
def yP:=@List.getElem?_drop
def jR:=@List.getElem?_eq_getElem
def xS:=@List.getElem?_eq_none
def ark:=@List.getElem?_eq_none_iff
def aiE:=@List.getElem?_eq_some_iff
def mW:=@List.getElem?_map
def arl:=@List.getElem?_of_mem
def Eb:=@List.getElem?_replicate
def xU:=@List.getElem?_set
def su:=@List.getElem?_set_ne
def uq:=@List.getElem?_set_self
def tq:=@List.getElem?_take
def zo:=@List.getElem_mem
def xV:=@List.getElem_of_mem
def aiF:=@List.getElem_take
def aa4:=@List.isEmpty_cons
def aa5:=@List.isEmpty_nil
def qp:=@List.length_append
def yQ:=@List.length_cons
def zY:=@List.length_filter_le
def kQ:=@List.length_map
def aiG:=@List.length_mergeSort
def xW:=@List.length_nil
def aiH:=@List.length_pos_iff
def Vm:=@List.length_replicate
def oQ:=@List.length_set
def qM:=@List.length_singleton
def sD:=@List.length_take
def aa6:=@List.mapM_cons
def Pz:=@List.map_append
def aiI:=@List.map_congr_left
def mH:=@List.map_cons
def aiJ:=@List.map_mergeSort
def yR:=@List.map_nil
def aa7:=@List.map_set
def aa8:=@List.map_take
def Jg:=@List.map_toArray
def oU:=@List.mem_append
def Cj:=@List.mem_append_left
def Vn:=@List.mem_append_right
def Ck:=@List.mem_cons
def ou:=@List.mem_cons_of_mem
def qb:=@List.mem_cons_self
def Gq:=@List.mem_filter
def aa9:=@List.mem_filterMap
def aiK:=@List.mem_flatMap
def qw:=@List.mem_map
def rJ:=@List.mem_of_getElem?
def aiL:=@List.mem_of_mem_take
def Gs:=@List.mem_or_eq_of_mem_set
def zZ:=@List.mem_range
def oV:=@List.mem_singleton
def zq:=@List.nil_append
def arn:=@List.nil_eq_append_iff
def Jh:=@List.nodup_append
def aiM:=@List.nodup_nil
def nU:=@List.not_mem_nil
def aro:=@List.pairwise_iff_getElem
def arp:=@List.range'_append_1
def abb:=@List.range_eq_range'
def tu:=@List.set_set
def arq:=@List.singleton_append
def z8:=@List.size_toArray
def Vo:=@List.take_add_one
def abd:=@List.take_append
def Vp:=@List.take_append_drop
def Vq:=@List.take_append_of_le_length
def aiN:=@List.take_left
def sF:=@List.take_length
def Ll:=@List.take_of_length_le
def aiO:=@List.take_take
def abe:=@List.take_zero
def wN:=@Nat.add_assoc
def PD:=@Nat.add_comm
def nV:=@Nat.add_mul
def ars:=@Nat.add_sub_cancel_left
def vk:=@Nat.add_zero
def oW:=@Nat.beq_refl
def Vr:=@Nat.ble_eq_true_of_le
def eG:=@Nat.eq_of_beq_eq_true
def abf:=@Nat.le_add_right
def qN:=@Nat.le_of_ble_eq_true
def gy:=@Nat.le_refl
def abg:=@Nat.le_succ
def vv:=@Nat.le_trans
def xX:=@Nat.lt_of_lt_of_le
def mI:=@Nat.lt_or_ge
def Vs:=@Nat.lt_or_gt_of_ne
def aiP:=@Nat.lt_succ_self
def Cm:=@Nat.min_eq_left
def PE:=@Nat.min_eq_right
def aiQ:=@Nat.min_le_left
def Lm:=@Nat.min_self
def PG:=@Nat.mod_eq_of_lt
def uw:=@Nat.mod_lt
def abh:=@Nat.mul_add_mod
def Ec:=@Nat.mul_comm
def aiR:=@Nat.mul_le_mul_left
def jS:=@Nat.mul_le_mul_right
def Gt:=@Nat.mul_one
def kJ:=@Nat.not_lt_zero
def aiS:=@Nat.or_lt_two_pow
def aiT:=@Nat.pow_le_pow_right
def aru:=@Nat.pow_lt_pow_right
def Ed:=@Nat.sub_zero
def pK:=@Nat.succ_mul
def aiU:=@Nat.two_pow_pos
def nM:=@Nat.zero_add
def zu:=@Nat.zero_le
def abj:=@Nat.zero_mul
def bE:=@Option.bind_some
def Lp:=@Option.getD_some
def Vt:=@Option.isNone_some
def arv:=@Option.isSome_iff_exists
def Vu:=@Option.map_some
def rM:=@Option.some.inj
def lu:=@Option.some.injEq
def zw:=@Prod.mk.injEq
def sG:=@beq_eq_false_iff_ne
def Cn:=@beq_iff_eq
def PK:=@beq_self_eq_true
def Gu:=@bne_eq_false_iff_eq
def AX:=@bne_iff_ne
def jT:=@bne_self_eq_false
def aX:=@cond_false
def aY:=@cond_true
def fV:=@decide_eq_false
def zx:=@decide_eq_false_iff_not
def eY:=@decide_eq_true
def ow:=@decide_eq_true_eq
def abk:=@decide_true
def uz:=@false_and
def uD:=@false_or
def AY:=@getElem!_pos
def mJ:=@if_false
def dn:=@if_neg
def bW:=@if_pos
def l5:=@if_true
def wO:=@of_decide_eq_false
def iX:=@of_decide_eq_true
def sH:=@or_false
def uE:=@or_self
def uF:=@or_true
def sI:=@true_and
def uG:=@true_or
abbrev aG.{u}{α:Sort u} [Inhabited α]:α:=default
section
variable {A B C D E F G H I J K L M N:Type}
abbrev bD(v:A×B×C×D×E):=v.2.2.2.2
abbrev dH(v:A×B×C×D×E×F):=v.2.2.2.2.2
abbrev dR(v:A×B×C×D×E×F×G):=v.2.2.2.2.2.2
abbrev dz(v:A×B×C×D×E×F×G×H):=v.2.2.2.2.2.2.2
abbrev fF(v:A×B×C×D×E×F×G×H×I):=v.2.2.2.2.2.2.2.2
abbrev l7(v:A×B×C×D×E×F×G×H×I×J):=v.2.2.2.2.2.2.2.2.2
abbrev nI(v:A×B×C×D×E×F×G×H×I×J×K):=v.2.2.2.2.2.2.2.2.2.2
abbrev jc(v:A×B×C×D×E×F×G×H×I×J×K×L):=v.2.2.2.2.2.2.2.2.2.2.2
abbrev lT(v:A×B×C×D×E×F×G×H×I×J×K×L×M):=v.2.2.2.2.2.2.2.2.2.2.2.2
abbrev bZ(v:A×B×C×D×E×F×G×H×I×J×K×L×M×N):=v.2.2.2.2.2.2.2.2.2.2.2.2.2
end
def Qt:Value×Value->Bool
 |(.int .i64 _,.bool _)=>true
 |_=>false
def tN(es:List (Value×Value)):Bool:=es.all Qt
def wU:List (Value×Value)->Int->Bool
 | [],_=>false
 |(.int .i64 a,.bool b)::r,n=>bif decide (a=n)then b else wU r n
 |_::r,n=>wU r n
def vW:List (Value×Value)->Int->Bool->List (Value×Value)
 | [],n,u=> [(.int .i64 n,.bool u)]
 |(.int .i64 a,.bool b)::r,n,u=>bif decide (a=n)then(.int .i64 n,.bool u)::r else(.int .i64 a,.bool b)::vW r n u
 |p::r,n,u=>p::vW r n u
end Go
namespace Go.CP
open Go
def bq{α:Type}(b:Bool)(k:Option α):Option α:=bif b then k else none
def idx{α:Type} [Inhabited α](xs:List α)(i:Int):Option α:=bif decide (0<=i/\i<(xs.length:Int))then some (xs.getD i.toNat aG)else none
def bC{α β:Type} [Inhabited α](xs:List α)(i:Int)(k:α->Option β):Option β:=bq (decide (0<=i/\i<(xs.length:Int))) (k (xs.getD i.toNat aG))
def nR{α β:Type} [Inhabited α](g:Bool)(xs:List α)(i:Int)(k:α->Option β):Option β:=bq (!g||decide (0<=i/\i<(xs.length:Int))) (k (xs.getD i.toNat aG))
def bG{α β:Type}(a:α)(k:α->β):β:=k a
theorem fQ{α β:Type}(b:Bool)(k:Option α)(g:α->Option β):(bq b k).bind g=bq b (k.bind g):=by cases b<;>rfl
theorem gq{α β:Type}(b:Bool)(x y:Option α)(g:α->Option β):(bif b then x else y).bind g=(bif b then x.bind g else y.bind g):=by cases b<;>rfl
theorem gD{γ α β:Type} [Inhabited γ](xs:List γ)(i:Int)(k:γ->Option α)(g:α->Option β):(bC xs i k).bind g=bC xs i λx=>(k x).bind g:=fQ _ _ _
theorem gB{γ α β:Type} [Inhabited γ](b:Bool)(xs:List γ)(i:Int)(k:γ->Option α)(g:α->Option β):(nR b xs i k).bind g=nR b xs i λx=>(k x).bind g:=fQ _ _ _
theorem gF{γ α β:Type}(a:γ)(k:γ->Option α)(g:α->Option β):(bG a k).bind g=bG a λx=>(k x).bind g:=rfl
theorem fU{γ α β:Type}(x:Option γ)(k:γ->Option α)(g:α->Option β):(x.bind k).bind g=x.bind λy=>(k y).bind g:=by cases x<;>rfl
theorem bF{α β:Type}(x:α)(g:α->Option β):(some x).bind g=g x:=rfl
theorem gu{α β:Type}(g:α->Option β):(none:Option α).bind g=none:=rfl
abbrev aQ(x:Int):Int:=IntKind.i64.wrap x
def iL(k:IntKind)(a b:Int):Int:=k.wrap (a*2^(min b.toNat k.bits))
def iJ(k:IntKind)(a b:Int):Int:=a.fdiv (2^(min b.toNat k.bits))
def je(k:IntKind)(a b:Int):Int:=k.wrap ((BitVec.ofInt k.bits a&&&BitVec.ofInt k.bits b).toNat)
def ug(k:IntKind)(a b:Int):Int:=k.wrap ((BitVec.ofInt k.bits a|||BitVec.ofInt k.bits b).toNat)
def wm(k:IntKind)(a b:Int):Int:=k.wrap ((BitVec.ofInt k.bits a^^^BitVec.ofInt k.bits b).toNat)
def Lh(k:IntKind)(a b:Int):Int:=k.wrap ((BitVec.ofInt k.bits a&&& ~~~ BitVec.ofInt k.bits b).toNat)
def jD(a b:Int):Int:=if a<b then b else a
def ji(a b:Int):Int:=if b<a then b else a
def Vw(s:ByteArray)(n:Int):Int:=(((s.data.toList.getD n.toNat 0).toNat:Nat):Int)
abbrev room:Nat:=140737488355328
def jM{α:Type}(lo len:Nat)(xs ys:List α):List α:=xs.take lo++(ys.take len++xs.drop (lo+min ys.length len))
theorem OY{α:Type}{b:Bool}{k:Option α}{r:α}(h:bq b k=some r):b=true/\k=some r:=by cases b with|true=>exact⟨rfl,h⟩|false=>cases h
theorem LV{α:Type}{q:Prop} [Decidable q]{k:Option α}{r:α}(h:bq (decide q) k=some r):q/\k=some r:=
 let⟨a,b⟩:=OY h;⟨iX a,b⟩
theorem DT{α β:Type}{x:Option α}{k:α->Option β}{r:β}(h:x.bind k=some r):∃a,x=some a/\k a=some r:=by rcases x with _|a;cases h;exact⟨a,rfl,h⟩
def ab1{α:Type} [BEq α](lt:α->α->Bool)(xs:List α):Bool:=
 xs.all λx=> !lt x x&&xs.all λy=>((lt x y||lt y x)||x==y)&&xs.all λz=>(!(lt x y&&lt y z)||lt x z)&&((lt x y||lt y z)|| !lt x z)
structure Wh{α:Type}(lt:α->α->Bool)(xs:List α):Prop where
 QX:∀x∈xs,lt x x=false
 tr:∀x∈xs,∀y∈xs,∀z∈xs,lt x y=true->lt y z=true->lt x z=true
 nt:∀x∈xs,∀y∈xs,∀z∈xs,lt x y=false->lt y z=false->lt x z=false
 tot:∀x∈xs,∀y∈xs,lt x y=false->lt y x=false->x=y
def qZ{α:Type}(cmp:α->α->Option Int)(x y:α):Bool:=decide ((cmp x y).getD 0<0)
def EC{α:Type} [BEq α](cmp:α->α->Option Int)(xs:List α):Option (List α):=
 bq (decide (xs.length<4611686018427387904)) (bq (xs.all λx=>xs.all λy=>(cmp x y).isSome) (bq (ab1 (qZ cmp) xs) (some (xs.mergeSort λx y=> !qZ cmp y x))))
theorem aJB{α:Type} [BEq α] [LawfulBEq α]{lt:α->α->Bool}{xs:List α}(h:ab1 lt xs=true):Wh lt xs:=by
 unfold ab1 at h;rw[j6]at h;have h1:∀x∈xs,lt x x=false:=λx hx=>by have:=h x hx;rw[dQ]at this;simpa using this.1
 have h2:∀x∈xs,∀y∈xs,((lt x y||lt y x)||x==y)=true∧∀z∈xs,((!(lt x y&&lt y z)||lt x z)&&((lt x y||lt y z)|| !lt x z))=true:=λx hx y hy=>by have:=h x hx;rw[dQ,j6]at this;have:=this.2 y hy;rw[dQ,j6]at this;exact this
 refine⟨h1,λx hx y hy z hz a b=> ?_,λx hx y hy z hz a b=> ?_,λx hx y hy a b=> ?_⟩
 .have:=(h2 x hx y hy).2 z hz;rw[a,b]at this;simpa using this
 .have:=(h2 x hx y hy).2 z hz;rw[a,b]at this;simpa using this
 .have:=(h2 x hx y hy).1;rw[a,b]at this;simpa using this
theorem aoC{α:Type} [BEq α] [LawfulBEq α]{cmp:α->α->Option Int}{xs l:List α}(h:EC cmp xs=some l):
  xs.length<4611686018427387904/\(∀x∈xs,∀y∈xs,∃q,cmp x y=some q)/\Wh (qZ cmp) xs/\l=xs.mergeSort λx y=> !qZ cmp y x:=by
 unfold EC at h;obtain⟨a1,h⟩:=LV h;obtain⟨a2,h⟩:=OY h;obtain⟨a3,h⟩:=OY h;rw[j6]at a2;refine⟨a1,λx hx y hy=> ?_,aJB a3,(rM h).symm⟩;have:=a2 x hx;rw[j6]at this;exact arv.1 (this y hy)
def pwB{α:Type}(lt:α->α->Bool):List α->Bool
 | []=>true
 |x::r=>r.all (λy=>lt x y||lt y x)&&pwB lt r
def ar8{α:Type}(lt:α->α->Bool)(xs:List α):Bool:=
 pwB lt xs&&xs.all λx=> !lt x x&&xs.all λy=>xs.all λz=>(!(lt x y&&lt y z)||lt x z)&&((lt x y||lt y z)|| !lt x z)
def V8{α:Type}(cmp:α->α->Option Int)(xs:List α):Option (List α):=
 bq (decide (xs.length<4611686018427387904)) (bq (xs.all λx=>xs.all λy=>(cmp x y).isSome) (bq (ar8 (qZ cmp) xs) (some (xs.mergeSort λx y=> !qZ cmp y x))))
theorem aq0{α:Type}{lt:α->α->Bool}:∀{xs:List α},pwB lt xs=true→∀x∈xs,∀y∈xs,lt x y=false->lt y x=false->x=y
 | [],_,x,hx,_,_,_,_=>absurd hx nU
 |a::r,h,x,hx,y,hy,h1,h2=>by
  rw[pwB,dQ,j6]at h;rcases Ck.1 hx with ex|hx
  .rcases Ck.1 hy with ey|hy
   .rw[ex,ey]
   .have:=h.1 y hy;rw[<-ex,h1,h2]at this;cases this
  .rcases Ck.1 hy with ey|hy
   .have:=h.1 x hx;rw[<-ey,h1,h2]at this;cases this
   .exact aq0 h.2 x hx y hy h1 h2
theorem aHS{α:Type}{cmp:α->α->Option Int}{xs l:List α}(h:V8 cmp xs=some l):
  xs.length<4611686018427387904/\(∀x∈xs,∀y∈xs,∃q,cmp x y=some q)/\Wh (qZ cmp) xs/\l=xs.mergeSort λx y=> !qZ cmp y x:=by
 unfold V8 at h;obtain⟨a1,h⟩:=LV h;obtain⟨a2,h⟩:=OY h;obtain⟨a3,h⟩:=OY h;rw[j6]at a2;unfold ar8 at a3;rw[dQ,j6]at a3;obtain⟨b1,b2⟩:=a3;have h1:∀x∈xs,qZ cmp x x=false:=λx hx=>by have:=b2 x hx;rw[dQ]at this;simpa using this.1
 have h2:∀x∈xs,∀y∈xs,∀z∈xs,((!(qZ cmp x y&&qZ cmp y z)||qZ cmp x z)&&((qZ cmp x y||qZ cmp y z)|| !qZ cmp x z))=true:=λx hx y hy z hz=>by have:=b2 x hx;rw[dQ,j6]at this;have:=this.2 y hy;rw[j6]at this;exact this z hz
 refine⟨a1,λx hx y hy=> ?_,⟨h1,λx hx y hy z hz a b=> ?_,λx hx y hy z hz a b=> ?_,aq0 b1⟩,(rM h).symm⟩
 .have:=a2 x hx;rw[j6]at this;exact arv.1 (this y hy)
 .have:=h2 x hx y hy z hz;rw[a,b]at this;simpa using this
 .have:=h2 x hx y hy z hz;rw[a,b]at this;simpa using this
def GA(xs:List Int):Nat->List Int
 |0=> []
 |m+1=>GA xs m++(bif Nat.beq m 0||(xs.getD m aG !=xs.getD (m-1) aG)then [xs.getD m aG]else [])
def jU(xs:List Int):List Int:=GA xs xs.length
theorem ag2(xs:List Int):∀m,(GA xs m).length<=m
 |0=>gy 0
 |m+1=>by have:=ag2 xs m;rw[GA];cases (Nat.beq m 0||(xs.getD m aG !=xs.getD (m-1) aG))<;>simp<;>omega
end Go.CP
namespace Go.CP
open Go
structure jA where
 Region:Int
 deriving Inhabited
structure jy where
 uJ:Int
 mg:Int
 deriving Inhabited
structure iG where
 eD:Int
 kK:Int
 gM:Int
 WT:Int
 Ce:Int
 VQ:Int
 asw:Bool
 deriving Inhabited
structure jg where
 gP:Int
 dP:Int
 deriving Inhabited
structure aM where
 gK:Int
 iM:(List jA)
 aK:(List jy)
 aH:(List iG)
 fG:(List jg)
 cZ:(List Int)
 jW:(List Int)
 oz:Int
 iQ:Int
 o7:Int
 deriving Inhabited
structure bQ where
 data:(List Int)
 qL:Int
 deriving Inhabited
structure aP where
 aL:Int
 aZ:Int
 aI:Int
 aJ:Int
 dh:Int
 bP:Int
 From:Int
 bY:Int
 N:Int
 deriving Inhabited
structure cO where
 iA:Int
 kL:aP
 deriving Inhabited
structure fT where
 bX:bQ
 gJ:Int
 iR:Int
 bT:(List cO)
 deriving Inhabited
structure uX where
 e0:Int
 e1:Int
 e2:Int
 e3:Int
 e4:Int
 deriving Inhabited
structure bn where
 aR:fT
 id:Int
 n:Int
 fO:Int
 fK:Int
 nK:Int
 next:uX
 gH:uX
 deriving Inhabited
structure bJ where
 aL:Int
 From:Int
 To:Int
 iA:Int
 gQ:Int
 lZ:Int
 qO:Int
 OK:Bool
 nk:(List cO)
 deriving Inhabited
structure bR where
 aT:(List bn)
 bg:(List bJ)
 lY:(List aP)
 deriving Inhabited
structure iC where
 aJ:Int
 bP:Int
 sW:Int
 From:Int
 bY:Int
 deriving Inhabited
structure bM where
 dZ:Bool
 fC:Bool
 bL:Int
 bB:Int
 Next:Int
 dN:Int
 bP:Int
 dV:iC
 deriving Inhabited
structure gG where
 ig:Int
 fZ:Int
 iY:Int
 qd:Int
 deriving Inhabited
structure aN where
 aZ:Int
 eP:Int
 aH:(List bM)
 aK:(List gG)
 jP:Int
 eH:Int
 gP:Int
 dP:Int
 deriving Inhabited
structure bO where
 dY:aM
 bg:bR
 up:Int
 state:aN
 deriving Inhabited
structure iD where
 bP:Int
 mE:Int
 aL:Int
 uH:Int
 lS:Int
 jd:Int
 tY:ByteArray
 Value:ByteArray
 deriving Inhabited
structure pJ where
 values:(List (Value×Value))
 deriving Inhabited
structure iV where
 lS:Int
 Value:ByteArray
 deriving Inhabited
structure jr where
 jd:Int
 uH:Int
 bP:Int
 bY:Int
 deriving Inhabited
structure iw where
 yj:(List iV)
 yS:(List jr)
 zV:Int
 deriving Inhabited
structure kZ where
 uR:Int
 mE:Int
 jd:Int
 Value:ByteArray
 deriving Inhabited
structure pW where
 number:Int
 iy:kZ
 deriving Inhabited
structure Au where
 e0:pW
 e1:pW
 e2:pW
 e3:pW
 e4:pW
 e5:pW
 e6:pW
 e7:pW
 deriving Inhabited
structure jq where
 iT:Au
 deriving Inhabited
structure AO where
 tH:pJ
 qz:iw
 wT:jq
 deriving Inhabited
structure iH where
 cell:Int
 closed:Int
 mq:(List iC)
 deriving Inhabited
structure lQ where
 cell:Int
 vH:Int
 sj:(List iD)
 now:AO
 qj:iH
 deriving Inhabited
structure iK where
 aI:Int
 gQ:Int
 dV:iC
 deriving Inhabited
structure wI where
 aI:Int
 aZ:Int
 aJ:Int
 bP:Int
 sW:Int
 deriving Inhabited
structure wP where
 c:aM
 p:bO
 copies:(List (List lQ))
 Gp:(List iK)
 aLy:(List wI)
 bS:Int
 deriving Inhabited
structure qI where
 wM:Int
 cells:Int
 regions:Int
 zW:Int
 deriving Inhabited
structure nD where
 low:Int
 Jy:Int
 deriving Inhabited
structure oo where
 vH:nD
 cell:nD
 other:nD
 ajz:nD
 ab4:nD
 n:nD
 deriving Inhabited
structure lN where
 aL:Int
 nZ:Int
 N:Int
 kL:aP
 deriving Inhabited
structure uY where
 e0:Int
 e1:Int
 e2:Int
 e3:Int
 e4:Int
 e5:Int
 e6:Int
 e7:Int
 e8:Int
 deriving Inhabited
structure lM where
 aI:Int
 uH:Int
 lS:Int
 Op:Int
 jd:Int
 tY:ByteArray
 Value:ByteArray
 deriving Inhabited
structure eU where
 L:(List Int)
 At:Int
 deriving Inhabited
structure eu where
 aL:Int
 aI:Int
 aJ:Int
 deriving Inhabited
structure fH where
 Region:Int
 bH:(List eu)
 jv:(List Int)
 deriving Inhabited
structure mG where
 nG:Bool
 lU:Int
 jB:Int
 next:Int
 xY:Int
 deriving Inhabited
structure j4 where
 dY:aM
 state:aN
 dL:(List mG)
 dM:(List Int)
 deriving Inhabited
structure mF where
 nG:Bool
 lU:Int
 jB:Int
 next:Int
 xY:Int
 deriving Inhabited
structure jm where
 dY:aM
 state:aN
 dL:(List mF)
 dM:(List Int)
 deriving Inhabited
abbrev iI(q:bR):bR:={q with aT:=[q.aT.getD 0 aG]}
abbrev gT(q:bR):bR:={q with aT:=[q.aT.getD 0 aG,q.aT.getD 1 aG,q.aT.getD 2 aG]}
abbrev iU(q:bO):bO:={q with bg:=iI q.bg}
abbrev kX(q:bO):bO:={q with bg:=gT q.bg}
inductive N where
 |jA
 |jy
 |iG
 |jg
 |aM
 |bQ
 |aP
 |cO
 |uX
 |bJ
 |iC
 |bM
 |gG
 |aN
 |iD
 |iV
 |jr
 |iw
 |kZ
 |pW
 |Au
 |jq
 |iH
 |iK
 |wI
 |qI
 |nD
 |oo
 |lN
 |uY
 |lM
 |eU
 |eu
 |fH
 |mG
 |j4
 |mF
 |jm
 deriving DecidableEq
def T:N->Type
 | .jA=>jA
 | .jy=>jy
 | .iG=>iG
 | .jg=>jg
 | .aM=>aM
 | .bQ=>bQ
 | .aP=>aP
 | .cO=>cO
 | .uX=>uX
 | .bJ=>bJ
 | .iC=>iC
 | .bM=>bM
 | .gG=>gG
 | .aN=>aN
 | .iD=>iD
 | .iV=>iV
 | .jr=>jr
 | .iw=>iw
 | .kZ=>kZ
 | .pW=>pW
 | .Au=>Au
 | .jq=>jq
 | .iH=>iH
 | .iK=>iK
 | .wI=>wI
 | .qI=>qI
 | .nD=>nD
 | .oo=>oo
 | .lN=>lN
 | .uY=>uY
 | .lM=>lM
 | .eU=>eU
 | .eu=>eu
 | .fH=>fH
 | .mG=>mG
 | .j4=>j4
 | .mF=>mF
 | .jm=>jm
instance aMO:(k:N)->Inhabited (T k)
 | .jA=>(inferInstance:Inhabited jA)
 | .jy=>(inferInstance:Inhabited jy)
 | .iG=>(inferInstance:Inhabited iG)
 | .jg=>(inferInstance:Inhabited jg)
 | .aM=>(inferInstance:Inhabited aM)
 | .bQ=>(inferInstance:Inhabited bQ)
 | .aP=>(inferInstance:Inhabited aP)
 | .cO=>(inferInstance:Inhabited cO)
 | .uX=>(inferInstance:Inhabited uX)
 | .bJ=>(inferInstance:Inhabited bJ)
 | .iC=>(inferInstance:Inhabited iC)
 | .bM=>(inferInstance:Inhabited bM)
 | .gG=>(inferInstance:Inhabited gG)
 | .aN=>(inferInstance:Inhabited aN)
 | .iD=>(inferInstance:Inhabited iD)
 | .iV=>(inferInstance:Inhabited iV)
 | .jr=>(inferInstance:Inhabited jr)
 | .iw=>(inferInstance:Inhabited iw)
 | .kZ=>(inferInstance:Inhabited kZ)
 | .pW=>(inferInstance:Inhabited pW)
 | .Au=>(inferInstance:Inhabited Au)
 | .jq=>(inferInstance:Inhabited jq)
 | .iH=>(inferInstance:Inhabited iH)
 | .iK=>(inferInstance:Inhabited iK)
 | .wI=>(inferInstance:Inhabited wI)
 | .qI=>(inferInstance:Inhabited qI)
 | .nD=>(inferInstance:Inhabited nD)
 | .oo=>(inferInstance:Inhabited oo)
 | .lN=>(inferInstance:Inhabited lN)
 | .uY=>(inferInstance:Inhabited uY)
 | .lM=>(inferInstance:Inhabited lM)
 | .eU=>(inferInstance:Inhabited eU)
 | .eu=>(inferInstance:Inhabited eu)
 | .fH=>(inferInstance:Inhabited fH)
 | .mG=>(inferInstance:Inhabited mG)
 | .j4=>(inferInstance:Inhabited j4)
 | .mF=>(inferInstance:Inhabited mF)
 | .jm=>(inferInstance:Inhabited jm)
inductive Ty where
 |i (k:IntKind)
 |b
 |s
 |n (k:N)
 |l (t:Ty)
 deriving DecidableEq
def den:Ty->Type
 | .i _=>Int
 | .b=>Bool
 | .s=>ByteArray
 | .n k=>T k
 | .l t=>List (den t)
instance aP7:(t:Ty)->Inhabited (den t)
 | .i _=>(inferInstance:Inhabited Int)
 | .b=>(inferInstance:Inhabited Bool)
 | .s=>(inferInstance:Inhabited ByteArray)
 | .n k=>aMO k
 | .l t=>⟨([]:List (den t))⟩
end Go.CP
namespace Go.AM
open Go Go.RowKit Go.CP
inductive CV where
 |val (v:Value)
 |e0
 |rd (z n:Nat) (f:Nat->List CV)
 |ls (t:Ty) (xs:List (den t))
 |lW (t:Ty) (xs:List (den t))
def abS(k:IntKind)(x:Int):List CV:=[.val (.int k x)]
def aKU(x:Bool):List CV:=[.val (.bool x)]
def aLV(x:ByteArray):List CV:=[.val (.string x)]
def Ew:(t:Ty)->den t->CV
 | .i k,x=> .val (.int k x)
 | .b,x=> .val (.bool x)
 | .s,x=> .val (.string x)
 | .n _,_=> .e0
 | .l t,xs=> .ls t xs
def Ag:List Ty->Type
 | []=>Unit
 |t::r=>den t×Ag r
def tL:(ts:List Ty)->Ag ts->List CV
 | [],_=> []
 |t::r,v=>Ew t v.1::tL r v.2
end Go.AM
namespace Go.CP
open Go Go.AM
abbrev vI(x:Int):CV:=.val (.int .i64 x)
abbrev tI:Ty:=.i .i64
section
variable {a b c d e g h i j k l m z:Type}
abbrev uM1(f:a->z)(v:a×Unit):z:=f v.1
abbrev MG(f:a->b->z)(v:a×b×Unit):z:=uM1 (f v.1) v.2
abbrev Xm(f:a->b->c->z)(v:a×b×c×Unit):z:=MG (f v.1) v.2
abbrev Xn(f:a->b->c->d->z)(v:a×b×c×d×Unit):z:=Xm (f v.1) v.2
abbrev MH(f:a->b->c->d->e->z)(v:a×b×c×d×e×Unit):z:=Xn (f v.1) v.2
abbrev uM6(f:a->b->c->d->e->g->z)(v:a×b×c×d×e×g×Unit):z:=MH (f v.1) v.2
abbrev uM7(f:a->b->c->d->e->g->h->z)(v:a×b×c×d×e×g×h×Unit):z:=uM6 (f v.1) v.2
abbrev uM8(f:a->b->c->d->e->g->h->i->z)(v:a×b×c×d×e×g×h×i×Unit):z:=uM7 (f v.1) v.2
abbrev uM9(f:a->b->c->d->e->g->h->i->j->z)(v:a×b×c×d×e×g×h×i×j×Unit):z:=uM8 (f v.1) v.2
abbrev akE(f:a->b->c->d->e->g->h->i->j->k->z)(v:a×b×c×d×e×g×h×i×j×k×Unit):z:=uM9 (f v.1) v.2
abbrev aMU(f:a->b->c->d->e->g->h->i->j->k->l->z)(v:a×b×c×d×e×g×h×i×j×k×l×Unit):z:=akE (f v.1) v.2
abbrev akF(f:a->b->c->d->e->g->h->i->j->k->l->m->z)(v:a×b×c×d×e×g×h×i×j×k×l×m×Unit):z:=aMU (f v.1) v.2
end
def E8:N->List Ty
 | .jA=> [tI]
 | .jy=> [tI,tI]
 | .iG=> [tI,tI,tI,tI,tI,tI,.b]
 | .jg=> [tI,tI]
 | .aM=> [tI,.l (.n .jA),.l (.n .jy),.l (.n .iG),.l (.n .jg),.l (.i .i64),.l (.i .i64),tI,tI,tI]
 | .bQ=> [.l (.i .u8),tI]
 | .aP=> [tI,tI,tI,tI,tI,tI,tI,tI,tI]
 | .cO=> [tI,tI,tI,tI,tI,tI,tI,tI,tI,tI]
 | .uX=> [tI,tI,tI,tI,tI]
 | .bJ=> [tI,tI,tI,tI,tI,tI,tI,.b,.l (.n .cO)]
 | .iC=> [tI,tI,tI,tI,tI]
 | .bM=> [.b,.b,tI,tI,tI,tI,tI,tI,tI,tI,tI,tI]
 | .gG=> [tI,tI,tI,tI]
 | .aN=> [tI,tI,.l (.n .bM),.l (.n .gG),tI,tI,tI,tI]
 | .iD=> [tI,tI,tI,tI,tI,tI,.s,.s]
 | .iV=> [tI,.s]
 | .jr=> [tI,tI,tI,tI]
 | .iw=> [.l (.n .iV),.l (.n .jr),tI]
 | .kZ=> [tI,tI,tI,.s]
 | .pW=> [tI,tI,tI,tI,.s]
 | .Au=> [tI,tI,tI,tI,.s,tI,tI,tI,tI,.s,tI,tI,tI,tI,.s,tI,tI,tI,tI,.s,tI,tI,tI,tI,.s,tI,tI,tI,tI,.s,tI,tI,tI,tI,.s,tI,tI,tI,tI,.s]
 | .jq=> [tI,tI,tI,tI,.s,tI,tI,tI,tI,.s,tI,tI,tI,tI,.s,tI,tI,tI,tI,.s,tI,tI,tI,tI,.s,tI,tI,tI,tI,.s,tI,tI,tI,tI,.s,tI,tI,tI,tI,.s]
 | .iH=> [tI,tI,.l (.n .iC)]
 | .iK=> [tI,tI,tI,tI,tI,tI,tI]
 | .wI=> [tI,tI,tI,tI,tI]
 | .qI=> [tI,tI,tI,tI]
 | .nD=> [tI,tI]
 | .oo=> [tI,tI,tI,tI,tI,tI,tI,tI,tI,tI,tI,tI]
 | .lN=> [tI,tI,tI,tI,tI,tI,tI,tI,tI,tI,tI,tI]
 | .uY=> [tI,tI,tI,tI,tI,tI,tI,tI,tI]
 | .lM=> [tI,tI,tI,tI,tI,.s,.s]
 | .eU=> [.l (.i .i64),tI]
 | .eu=> [tI,tI,tI]
 | .fH=> [tI,.l (.n .eu),.l (.i .i64)]
 | .mG=> [.b,tI,tI,tI,tI]
 | .j4=> [tI,.l (.n .jA),.l (.n .jy),.l (.n .iG),.l (.n .jg),.l (.i .i64),.l (.i .i64),tI,tI,tI,tI,tI,.l (.n .bM),.l (.n .gG),tI,tI,tI,tI,.l (.n .mG),.l (.i .i64)]
 | .mF=> [.b,tI,tI,tI,tI]
 | .jm=> [tI,.l (.n .jA),.l (.n .jy),.l (.n .iG),.l (.n .jg),.l (.i .i64),.l (.i .i64),tI,tI,tI,tI,tI,.l (.n .bM),.l (.n .gG),tI,tI,tI,tI,.l (.n .mF),.l (.i .i64)]
def gW:N->Nat
 | .jA=>1
 | .jy=>2
 | .iG=>7
 | .jg=>2
 | .aM=>10
 | .bQ=>2
 | .aP=>9
 | .cO=>10
 | .uX=>5
 | .bJ=>9
 | .iC=>5
 | .bM=>12
 | .gG=>4
 | .aN=>8
 | .iD=>8
 | .iV=>2
 | .jr=>4
 | .iw=>3
 | .kZ=>4
 | .pW=>5
 | .Au=>40
 | .jq=>40
 | .iH=>3
 | .iK=>7
 | .wI=>5
 | .qI=>4
 | .nD=>2
 | .oo=>12
 | .lN=>12
 | .uY=>9
 | .lM=>7
 | .eU=>2
 | .eu=>3
 | .fH=>3
 | .mG=>5
 | .j4=>20
 | .mF=>5
 | .jm=>20
def QZ:(k:N)->Ag (E8 k)->T k
 | .jA=>uM1 jA.mk
 | .jy=>MG jy.mk
 | .iG=>uM7 iG.mk
 | .jg=>MG jg.mk
 | .aM=>akE aM.mk
 | .bQ=>MG bQ.mk
 | .aP=>uM9 aP.mk
 | .cO=>akE λa b c d e g h i j k=>⟨a,⟨b,c,d,e,g,h,i,j,k⟩⟩
 | .uX=>MH uX.mk
 | .bJ=>uM9 bJ.mk
 | .iC=>MH iC.mk
 | .bM=>akF λa b c d e g h i j k l m=>⟨a,b,c,d,e,g,h,⟨i,j,k,l,m⟩⟩
 | .gG=>Xn gG.mk
 | .aN=>uM8 aN.mk
 | .iD=>uM8 iD.mk
 | .iV=>MG iV.mk
 | .jr=>Xn jr.mk
 | .iw=>Xm iw.mk
 | .kZ=>Xn kZ.mk
 | .pW=>MH λa b c d e=>⟨a,⟨b,c,d,e⟩⟩
 | .Au=>λv=>(⟨⟨v.1,⟨v.2.1,v.2.2.1,v.2.2.2.1,(bD v).1⟩⟩,⟨(dH v).1,⟨(dR v).1,(dz v).1,(fF v).1,(l7 v).1⟩⟩,⟨(nI v).1,⟨(jc v).1,(lT v).1,(bZ v).1,(dz (dz v)).1⟩⟩,⟨(fF (dz v)).1,⟨(fF (fF v)).1,(bD (bZ v)).1,(dH (bZ v)).1,(dR (bZ v)).1⟩⟩,⟨(dz (bZ v)).1,⟨(fF (bZ v)).1,(l7 (bZ v)).1,(nI (bZ v)).1,(jc (bZ v)).1⟩⟩,⟨(lT (bZ v)).1,⟨(bZ (bZ v)).1,(dz (dz (bZ v))).1,(fF (dz (bZ v))).1,(fF (fF (bZ v))).1⟩⟩,⟨(bD (bZ (bZ v))).1,⟨(dH (bZ (bZ v))).1,(dR (bZ (bZ v))).1,(dz (bZ (bZ v))).1,(fF (bZ (bZ v))).1⟩⟩,⟨(l7 (bZ (bZ v))).1,⟨(nI (bZ (bZ v))).1,(jc (bZ (bZ v))).1,(lT (bZ (bZ v))).1,(bZ (bZ (bZ v))).1⟩⟩⟩:Au)
 | .jq=>λv=>(⟨⟨⟨v.1,⟨v.2.1,v.2.2.1,v.2.2.2.1,(bD v).1⟩⟩,⟨(dH v).1,⟨(dR v).1,(dz v).1,(fF v).1,(l7 v).1⟩⟩,⟨(nI v).1,⟨(jc v).1,(lT v).1,(bZ v).1,(dz (dz v)).1⟩⟩,⟨(fF (dz v)).1,⟨(fF (fF v)).1,(bD (bZ v)).1,(dH (bZ v)).1,(dR (bZ v)).1⟩⟩,⟨(dz (bZ v)).1,⟨(fF (bZ v)).1,(l7 (bZ v)).1,(nI (bZ v)).1,(jc (bZ v)).1⟩⟩,⟨(lT (bZ v)).1,⟨(bZ (bZ v)).1,(dz (dz (bZ v))).1,(fF (dz (bZ v))).1,(fF (fF (bZ v))).1⟩⟩,⟨(bD (bZ (bZ v))).1,⟨(dH (bZ (bZ v))).1,(dR (bZ (bZ v))).1,(dz (bZ (bZ v))).1,(fF (bZ (bZ v))).1⟩⟩,⟨(l7 (bZ (bZ v))).1,⟨(nI (bZ (bZ v))).1,(jc (bZ (bZ v))).1,(lT (bZ (bZ v))).1,(bZ (bZ (bZ v))).1⟩⟩⟩⟩:jq)
 | .iH=>Xm iH.mk
 | .iK=>uM7 λa b c d e g h=>⟨a,b,⟨c,d,e,g,h⟩⟩
 | .wI=>MH wI.mk
 | .qI=>Xn qI.mk
 | .nD=>MG nD.mk
 | .oo=>akF λa b c d e g h i j k l m=>⟨⟨a,b⟩,⟨c,d⟩,⟨e,g⟩,⟨h,i⟩,⟨j,k⟩,⟨l,m⟩⟩
 | .lN=>akF λa b c d e g h i j k l m=>⟨a,b,c,⟨d,e,g,h,i,j,k,l,m⟩⟩
 | .uY=>uM9 uY.mk
 | .lM=>uM7 lM.mk
 | .eU=>MG eU.mk
 | .eu=>Xm eu.mk
 | .fH=>Xm fH.mk
 | .mG=>MH mG.mk
 | .j4=>λv=>(⟨⟨v.1,v.2.1,v.2.2.1,v.2.2.2.1,(bD v).1,(dH v).1,(dR v).1,(dz v).1,(fF v).1,(l7 v).1⟩,⟨(nI v).1,(jc v).1,(lT v).1,(bZ v).1,(dz (dz v)).1,(fF (dz v)).1,(fF (fF v)).1,(bD (bZ v)).1⟩,(dH (bZ v)).1,(dR (bZ v)).1⟩:j4)
 | .mF=>MH mF.mk
 | .jm=>λv=>(⟨⟨v.1,v.2.1,v.2.2.1,v.2.2.2.1,(bD v).1,(dH v).1,(dR v).1,(dz v).1,(fF v).1,(l7 v).1⟩,⟨(nI v).1,(jc v).1,(lT v).1,(bZ v).1,(dz (dz v)).1,(fF (dz v)).1,(fF (fF v)).1,(bD (bZ v)).1⟩,(dH (bZ v)).1,(dR (bZ v)).1⟩:jm)
def ofN:(k:N)->T k->Ag (E8 k)
 | .jA=>λ(s:jA)=>(s.Region,())
 | .jy=>λ(s:jy)=>(s.uJ,s.mg,())
 | .iG=>λ(s:iG)=>(s.eD,s.kK,s.gM,s.WT,s.Ce,s.VQ,s.asw,())
 | .jg=>λ(s:jg)=>(s.gP,s.dP,())
 | .aM=>λ(s:aM)=>(s.gK,s.iM,s.aK,s.aH,s.fG,s.cZ,s.jW,s.oz,s.iQ,s.o7,())
 | .bQ=>λ(s:bQ)=>(s.data,s.qL,())
 | .aP=>λ(s:aP)=>(s.aL,s.aZ,s.aI,s.aJ,s.dh,s.bP,s.From,s.bY,s.N,())
 | .cO=>λ(s:cO)=>(s.iA,s.kL.aL,s.kL.aZ,s.kL.aI,s.kL.aJ,s.kL.dh,s.kL.bP,s.kL.From,s.kL.bY,s.kL.N,())
 | .uX=>λ(s:uX)=>(s.e0,s.e1,s.e2,s.e3,s.e4,())
 | .bJ=>λ(s:bJ)=>(s.aL,s.From,s.To,s.iA,s.gQ,s.lZ,s.qO,s.OK,s.nk,())
 | .iC=>λ(s:iC)=>(s.aJ,s.bP,s.sW,s.From,s.bY,())
 | .bM=>λ(s:bM)=>(s.dZ,s.fC,s.bL,s.bB,s.Next,s.dN,s.bP,s.dV.aJ,s.dV.bP,s.dV.sW,s.dV.From,s.dV.bY,())
 | .gG=>λ(s:gG)=>(s.ig,s.fZ,s.iY,s.qd,())
 | .aN=>λ(s:aN)=>(s.aZ,s.eP,s.aH,s.aK,s.jP,s.eH,s.gP,s.dP,())
 | .iD=>λ(s:iD)=>(s.bP,s.mE,s.aL,s.uH,s.lS,s.jd,s.tY,s.Value,())
 | .iV=>λ(s:iV)=>(s.lS,s.Value,())
 | .jr=>λ(s:jr)=>(s.jd,s.uH,s.bP,s.bY,())
 | .iw=>λ(s:iw)=>(s.yj,s.yS,s.zV,())
 | .kZ=>λ(s:kZ)=>(s.uR,s.mE,s.jd,s.Value,())
 | .pW=>λ(s:pW)=>(s.number,s.iy.uR,s.iy.mE,s.iy.jd,s.iy.Value,())
 | .Au=>λ(s:Au)=>(s.e0.number,s.e0.iy.uR,s.e0.iy.mE,s.e0.iy.jd,s.e0.iy.Value,s.e1.number,s.e1.iy.uR,s.e1.iy.mE,s.e1.iy.jd,s.e1.iy.Value,s.e2.number,s.e2.iy.uR,s.e2.iy.mE,s.e2.iy.jd,s.e2.iy.Value,s.e3.number,s.e3.iy.uR,s.e3.iy.mE,s.e3.iy.jd,s.e3.iy.Value,s.e4.number,s.e4.iy.uR,s.e4.iy.mE,s.e4.iy.jd,s.e4.iy.Value,s.e5.number,s.e5.iy.uR,s.e5.iy.mE,s.e5.iy.jd,s.e5.iy.Value,s.e6.number,s.e6.iy.uR,s.e6.iy.mE,s.e6.iy.jd,s.e6.iy.Value,s.e7.number,s.e7.iy.uR,s.e7.iy.mE,s.e7.iy.jd,s.e7.iy.Value,())
 | .jq=>λ(s:jq)=>(s.iT.e0.number,s.iT.e0.iy.uR,s.iT.e0.iy.mE,s.iT.e0.iy.jd,s.iT.e0.iy.Value,s.iT.e1.number,s.iT.e1.iy.uR,s.iT.e1.iy.mE,s.iT.e1.iy.jd,s.iT.e1.iy.Value,s.iT.e2.number,s.iT.e2.iy.uR,s.iT.e2.iy.mE,s.iT.e2.iy.jd,s.iT.e2.iy.Value,s.iT.e3.number,s.iT.e3.iy.uR,s.iT.e3.iy.mE,s.iT.e3.iy.jd,s.iT.e3.iy.Value,s.iT.e4.number,s.iT.e4.iy.uR,s.iT.e4.iy.mE,s.iT.e4.iy.jd,s.iT.e4.iy.Value,s.iT.e5.number,s.iT.e5.iy.uR,s.iT.e5.iy.mE,s.iT.e5.iy.jd,s.iT.e5.iy.Value,s.iT.e6.number,s.iT.e6.iy.uR,s.iT.e6.iy.mE,s.iT.e6.iy.jd,s.iT.e6.iy.Value,s.iT.e7.number,s.iT.e7.iy.uR,s.iT.e7.iy.mE,s.iT.e7.iy.jd,s.iT.e7.iy.Value,())
 | .iH=>λ(s:iH)=>(s.cell,s.closed,s.mq,())
 | .iK=>λ(s:iK)=>(s.aI,s.gQ,s.dV.aJ,s.dV.bP,s.dV.sW,s.dV.From,s.dV.bY,())
 | .wI=>λ(s:wI)=>(s.aI,s.aZ,s.aJ,s.bP,s.sW,())
 | .qI=>λ(s:qI)=>(s.wM,s.cells,s.regions,s.zW,())
 | .nD=>λ(s:nD)=>(s.low,s.Jy,())
 | .oo=>λ(s:oo)=>(s.vH.low,s.vH.Jy,s.cell.low,s.cell.Jy,s.other.low,s.other.Jy,s.ajz.low,s.ajz.Jy,s.ab4.low,s.ab4.Jy,s.n.low,s.n.Jy,())
 | .lN=>λ(s:lN)=>(s.aL,s.nZ,s.N,s.kL.aL,s.kL.aZ,s.kL.aI,s.kL.aJ,s.kL.dh,s.kL.bP,s.kL.From,s.kL.bY,s.kL.N,())
 | .uY=>λ(s:uY)=>(s.e0,s.e1,s.e2,s.e3,s.e4,s.e5,s.e6,s.e7,s.e8,())
 | .lM=>λ(s:lM)=>(s.aI,s.uH,s.lS,s.Op,s.jd,s.tY,s.Value,())
 | .eU=>λ(s:eU)=>(s.L,s.At,())
 | .eu=>λ(s:eu)=>(s.aL,s.aI,s.aJ,())
 | .fH=>λ(s:fH)=>(s.Region,s.bH,s.jv,())
 | .mG=>λ(s:mG)=>(s.nG,s.lU,s.jB,s.next,s.xY,())
 | .j4=>λ(s:j4)=>(s.dY.gK,s.dY.iM,s.dY.aK,s.dY.aH,s.dY.fG,s.dY.cZ,s.dY.jW,s.dY.oz,s.dY.iQ,s.dY.o7,s.state.aZ,s.state.eP,s.state.aH,s.state.aK,s.state.jP,s.state.eH,s.state.gP,s.state.dP,s.dL,s.dM,())
 | .mF=>λ(s:mF)=>(s.nG,s.lU,s.jB,s.next,s.xY,())
 | .jm=>λ(s:jm)=>(s.dY.gK,s.dY.iM,s.dY.aK,s.dY.aH,s.dY.fG,s.dY.cZ,s.dY.jW,s.dY.oz,s.dY.iQ,s.dY.o7,s.state.aZ,s.state.eP,s.state.aH,s.state.aK,s.state.jP,s.state.eH,s.state.gP,s.state.dP,s.dL,s.dM,())
def jI:(k:N)->T k->List CV
 | .j4,s=> [vI s.dY.gK,.ls (.n .jA) s.dY.iM,.ls (.n .jy) s.dY.aK,.ls (.n .iG) s.dY.aH,.ls (.n .jg) s.dY.fG,.ls (.i .i64) s.dY.cZ,.ls (.i .i64) s.dY.jW,vI s.dY.oz,vI s.dY.iQ,vI s.dY.o7,vI s.state.aZ,vI s.state.eP,.ls (.n .bM) s.state.aH,.ls (.n .gG) s.state.aK,vI s.state.jP,vI s.state.eH,vI s.state.gP,vI s.state.dP,.ls (.n .mG) s.dL,.ls (.i .i64) s.dM]
 | .jm,s=> [vI s.dY.gK,.ls (.n .jA) s.dY.iM,.ls (.n .jy) s.dY.aK,.ls (.n .iG) s.dY.aH,.ls (.n .jg) s.dY.fG,.ls (.i .i64) s.dY.cZ,.ls (.i .i64) s.dY.jW,vI s.dY.oz,vI s.dY.iQ,vI s.dY.o7,vI s.state.aZ,vI s.state.eP,.ls (.n .bM) s.state.aH,.ls (.n .gG) s.state.aK,vI s.state.jP,vI s.state.eH,vI s.state.gP,vI s.state.dP,.ls (.n .mF) s.dL,.ls (.i .i64) s.dM]
 |k,x=>tL (E8 k) (ofN k x)
theorem aao(k:N)(x:T k):(jI k x).length=gW k:=by cases k<;>rfl
theorem Ph(k:N)(v:Ag (E8 k)):jI k (QZ k v)=tL (E8 k) v:=by cases k<;>rfl
theorem arU(k:N)(x:T k):QZ k (ofN k x)=x:=by cases k<;>rfl
end Go.CP
namespace Go.AM
open Go Go.RowKit Go.CP
variable [Fuel]
def wd:Ty->Nat
  | .n k=>gW k
  |_=>1
def w9:(t:Ty)->den t->List CV
  | .i k,x=>abS k x
  | .b,x=>aKU x
  | .s,x=>aLV x
  | .n k,x=>jI k x
  | .l t,xs=> [.ls t xs]
theorem aI3:(t:Ty)->(x:den t)->(w9 t x).length=wd t
  | .i _,_=>rfl
  | .b,_=>rfl
  | .s,_=>rfl
  | .n k,x=>aao k x
  | .l _,_=>rfl
def fE(t:Ty)(xs:List (den t)):Nat->List CV:=λi=>w9 t (xs.getD i aG)
inductive SC where
  |c (x:CV)
  |rp (cs:List CV)
  |own (k:Nat)
  |sl (k lo len:Nat)
  |pb (k off:Nat)
  |pe (k i off:Nat)
  |fn (f:FuncId) (caps:List Nat)
  |mp (k:Nat)
  |fb (f:FuncId) (k off:Nat)
  |bot
inductive AV where
  |s (x:SC)
  |agg (cs:List SC)
inductive SV where
  |one (v:AV)
  |mY (vs:List AV)
inductive aU where
  |box (cs:List SC)
  |arr (z n:Nat) (f:Nat->List CV)
  |ra (z n:Nat) (cs:List SC)
  |ms (es:List (Value×Value))
  |dead
def aU.live:aU->Prop
  | .dead=>False
  |_=>True
structure Loc where
  base:Option Addr
  cap:Nat
  z:Nat
  blk:Option Nat
  n:Nat
abbrev Mu:=Nat->Prop
abbrev gV:=Nat->Option Loc
inductive lC(w:World)(M:Mu):CV->Value->Prop
  |val (v:Value):lC w M (.val v) v
  |e0 (a:Option Addr):lC w M .e0 (.slice a 0 0)
  |qm (z:Nat) (f:Nat->List CV) (a:Option Addr) (cap:Nat):lC w M (.rd z 0 f) (.slice a 0 cap)
  |rd (z n:Nat) (f:Nat->List CV) (b off cap:Nat) (c:Nat->Value) (hb:¬M b) (hs:b<w.heap.size) (hn:n<=cap)
      (hl:∀i,i<n->(f i).length=z) (hc:∀j,j<n*z->w.cell? ⟨b,off+j,none⟩=some (c j)) (h1:∀j,j<n*z->(c j).oneCell'=true)
      (h:∀i j x,i<n->(f i)[j]? =some x->lC w M x (c (i*z+j))):lC w M (.rd z n f) (.slice (some ⟨b,off,none⟩) n cap)
  |ls (t:Ty) (xs:List (den t)) (v:Value) (h:lC w M (.rd (wd t) xs.length (fE t xs)) v):lC w M (.ls t xs) v
  |lW (t:Ty) (xs:List (den t)) (v:Value) (h:lC w M (.rd (wd t) xs.length (fE t xs)) v) (hn:xs=[]->v=.slice none 0 0):lC w M (.lW t xs) v
inductive dU(w:World)(m:gV)(M:Mu):SC->Value->Prop
  |c {x:CV} {v:Value} (h:lC w M x v):dU w m M (.c x) v
  |rp (cs:List CV) (b off:Nat) (c:Nat->Value) (hb:¬M b) (hs:b<w.heap.size) (hc:∀j,j<cs.length->w.cell? ⟨b,off+j,none⟩=some (c j))
      (h:∀(j:Nat) x,cs[j]? =some x->lC w M x (c j)):dU w m M (.rp cs) (.pointer (some ⟨b,off,none⟩))
  |own (k:Nat) (l:Loc) (hk:m k=some l):dU w m M (.own k) (.slice l.base l.n l.cap)
  |sl (k lo len:Nat) (l:Loc) (a:Option Addr) (c:Nat) (hk:m k=some l) (h0:lo=0->a=l.base/\c=l.cap)
      (h1:len≠0→∃b,l.blk=some b/\a=some ⟨b,lo*l.z,none⟩) (h2:len<=c) (h3:c+lo=l.cap):dU w m M (.sl k lo len) (.slice a len c)
  |pb (k off b:Nat) (l:Loc) (hk:m k=some l) (hb:l.blk=some b):dU w m M (.pb k off) (.pointer (some ⟨b,off,none⟩))
  |pe (k i off b:Nat) (l:Loc) (hk:m k=some l) (hb:l.blk=some b) (hi:i<l.n):dU w m M (.pe k i off) (.pointer (some ⟨b,i*l.z+off,none⟩))
  |fn (f:FuncId) (caps:List Nat) (vs:Array Value) (hs:vs.size=caps.length)
      (h:∀(i:Nat) k,caps[i]? =some k→∃l b,m k=some l/\l.blk=some b/\vs[i]? =some (.pointer (some ⟨b,0,none⟩))):dU w m M (.fn f caps) (.func (.func f) #[] vs)
  |mp (k b:Nat) (l:Loc) (hk:m k=some l) (hb:l.blk=some b):dU w m M (.mp k) (.map (some b))
  |fb (f:FuncId) (k off b:Nat) (l:Loc) (hk:m k=some l) (hb:l.blk=some b):dU w m M (.fb f k off) (.func (.func f) #[.pointer (some ⟨b,off,none⟩)] #[])
  |bot (v:Value):dU w m M .bot v
def nY(w:World)(m:gV)(M:Mu)(cs:List SC)(vs:Array Value):Prop:=
  vs.size=cs.length∧∀(i:Nat) x,cs[i]? =some x->dU w m M x (vs.getD i undef)
def jo(w:World)(m:gV)(M:Mu):AV->Value->Prop
  | .s x,v=>dU w m M x v
  | .agg cs,v=>∃vs,v=.agg vs/\nY w m M cs vs
def eZ(w:World)(m:gV)(M:Mu):SV->Value->Prop
  | .one a,v=>jo w m M a v
  | .mY as',v=>∃vs:Array Value,v=.tuple vs/\vs.size=as'.length∧∀(i:Nat) a,as'[i]? =some a->jo w m M a (vs.getD i undef)
def iO(m:gV)(h:List aU):Mu:=λb=>∃k o l,h[k]? =some o/\o.live/\m k=some l/\l.blk=some b
def MX(X:Mu)(m:gV)(h:List aU):Mu:=λb=>X b\/iO m h b
def yc(w:World)(m:gV)(M:Mu)(k:Nat):aU->Prop
  | .dead=>True
  | .box cs=>∃l b T vs,m k=some l/\l.blk=some b/\w.heap[b]? =some (.cells vs T (0,0))/\nY w m M cs vs∧∀i,i<vs.size->(vs.getD i undef).oneCell'=true
  | .arr z n f=>∃l,m k=some l/\l.z=z/\(l.n=n/\n<=l.cap)/\(l.blk=none->l.cap=0)∧∀b,l.blk=some b->l.base=some ⟨b,0,none⟩∧
      ∃ T vs,w.heap[b]? =some (.cells vs T (0,0))/\vs.size=l.cap*z/\(∀i,i<vs.size->(vs.getD i undef).oneCell'=true)∧
        ∀i,i<n->(f i).length=z∧∀(j:Nat) x,(f i)[j]? =some x->lC w M x (vs.getD (i*z+j) undef)
  | .ms es=>∃l b rows clock,m k=some l/\l.blk=some b/\w.heap[b]? =some (.map rows clock)/\rows.toList.map (λe=>(e.key,e.val))=es
  | .ra z n cs=>∃l b T vs,m k=some l/\l.z=z/\(l.n=n/\n<=l.cap)/\l.blk=some b/\l.base=some ⟨b,0,none⟩/\w.heap[b]? =some (.cells vs T (0,0))/\vs.size=l.cap*z/\(∀i,i<vs.size->(vs.getD i undef).oneCell'=true)/\cs.length=n*z∧∀(i:Nat) x,cs[i]? =some x->dU w m M x (vs.getD i undef)
structure fJ(X:Mu)(w:World)(m:gV)(h:List aU):Prop where
  obj:∀k o,h[k]? =some o->yc w m (MX X m h) k o
  inj:∀k k' o o' l l' b,h[k]? =some o->h[k']? =some o'->o.live->o'.live->m k=some l->m k'=some l'->l.blk=some b->l'.blk=some b->k=k'
  used:∀k,h.length<=k->m k=none
  uL:∀b,iO m h b→¬X b
  xlt:∀b,X b->b<w.heap.size
structure Later(w:World)(m:gV)(M:Mu)(w':World)(m':gV)(M':Mu):Prop where
  ext:∀k l,m k=some l->m' k=some l
  mu:∀b,b<w.heap.size→¬M b→¬M' b
  keep:∀b,b<w.heap.size→¬M b->w'.heap[b]? =w.heap[b]?
  size:w.heap.size<=w'.heap.size
section
variable {w w' w'':World} {m m' m'':gV} {M M' M'':Mu}
theorem Later.refl:Later w m M w m M:=⟨λ_ _ h=>h,λ_ _ h=>h,λ_ _ _=>rfl,gy _⟩
theorem Later.trans(h:Later w m M w' m' M')(k:Later w' m' M' w'' m'' M''):Later w m M w'' m'' M'':=
  ⟨λx l e=>k.ext x l (h.ext x l e),λb hb hM=>k.mu b (xX hb h.size) (h.mu b hb hM),
   λb hb hM=>(k.keep b (xX hb h.size) (h.mu b hb hM)).trans (h.keep b hb hM),vv h.size k.size⟩
theorem aoN{b off:Nat}(hk:w'.heap[b]? =w.heap[b]?):w'.cell? ⟨b,off,none⟩=w.cell? ⟨b,off,none⟩:=
  World.cell?_of_block hk
theorem lC.later(L:Later w m M w' m' M'){x:CV}{v:Value}(h:lC w M x v):lC w' M' x v:=by induction h with
  |val v=>exact .val v
  |e0 a=>exact .e0 a
  |qm z f a cap=>exact .qm z f a cap
  | rd z n f b off cap c hb hs hn hl hc h1 _ ih=>
    exact .rd z n f b off cap c (L.mu b hs hb) (xX hs L.size) hn hl
      (λj hj=>(aoN (L.keep b hs hb)).trans (hc j hj)) h1 (λi j x hi hx=>ih i j x hi hx)
  |ls t xs v _ ih=>exact .ls t xs v ih
  |lW t xs v _ hn ih=>exact .lW t xs v ih hn
theorem dU.later(L:Later w m M w' m' M'){x:SC}{v:Value}(h:dU w m M x v):dU w' m' M' x v:=by cases h with
  |c h=>exact .c (h.later L)
  |rp cs b off c hb hs hc h=>exact .rp cs b off c (L.mu b hs hb) (xX hs L.size) (λj hj=>(aoN (L.keep b hs hb)).trans (hc j hj)) (λj x hx=>(h j x hx).later L)
  |own k l hk=>exact .own k l (L.ext _ _ hk)
  |sl k lo len l a c hk h0 h1 h2 h3=>exact .sl k lo len l a c (L.ext _ _ hk) h0 h1 h2 h3
  |pb k off b l hk hb=>exact .pb k off b l (L.ext _ _ hk) hb
  |pe k i off b l hk hb hi=>exact .pe k i off b l (L.ext _ _ hk) hb hi
  |fn f caps vs hs h=>exact .fn f caps vs hs (λi k hi=>let⟨l,b,e,r⟩:=h i k hi;⟨l,b,L.ext _ _ e,r⟩)
  |mp k b l hk hb=>exact .mp k b l (L.ext _ _ hk) hb
  |fb f k off b l hk hb=>exact .fb f k off b l (L.ext _ _ hk) hb
  |bot v=>exact .bot v
theorem nY.later(L:Later w m M w' m' M'){cs:List SC}{vs:Array Value}(h:nY w m M cs vs):nY w' m' M' cs vs:=
  ⟨h.1,λi x hx=>(h.2 i x hx).later L⟩
theorem jo.later(L:Later w m M w' m' M'){a:AV}{v:Value}(h:jo w m M a v):jo w' m' M' a v:=by cases a with|s x=>exact dU.later L h|agg cs=>obtain⟨vs,e,hl⟩:=h;exact⟨vs,e,hl.later L⟩
theorem eZ.later(L:Later w m M w' m' M'){s:SV}{v:Value}(h:eZ w m M s v):eZ w' m' M' s v:=by cases s with|one a=>exact jo.later L h|mY as'=>obtain⟨vs,e,hz,hl⟩:=h;exact⟨vs,e,hz,λi a ha=>(hl i a ha).later L⟩
end
def oG(w w':World):Prop:=w'.output=w.output/\(Dr->w.drawn<=w'.drawn)
theorem oG.same(w:World):oG w w:=⟨rfl,λ_=>gy _⟩
theorem oG.trans{a b c:World}(h:oG a b)(k:oG b c):oG a c:=⟨k.1.trans h.1,λd=>vv (h.2 d) (k.2 d)⟩
structure Stp(X:Mu)(w:World)(m:gV)(h:List aU)(w':World)(m':gV)(h':List aU):Prop where
  rel:fJ X w' m' h'
  later:Later w m (MX X m h) w' m' (MX X m' h')
  os:w'.os=w.os
  tape:w'.tape=w.tape
  output:oG w w'
  keep:∀b,b<w.heap.size→¬iO m h b->w'.heap[b]? =w.heap[b]?
  mt:∀b,iO m' h' b->iO m h b\/w.heap.size<=b
  nw:∀k,h[k]? =some .dead->h'[k]? =some .dead->m k=none->m' k=none
theorem Stp.refl{X:Mu}{w:World}{m:gV}{h:List aU}(H:fJ X w m h):Stp X w m h w m h:=
  ⟨H,Later.refl,rfl,rfl,oG.same _,λ_ _ _=>rfl,λ_ hb=> .inl hb,λ_ _ _ h=>h⟩
theorem lt_of_block{w:World}{b:Nat}{o:Obj}(h:w.heap[b]? =some o):b<w.heap.size:=by
  rcases mI b w.heap.size with h'|h'
  · exact h'
  · rw[VJ h']at h;cases h
theorem fJ.change{X:Mu}{w w':World}{m m':gV}{h h':List aU}(H:fJ X w m h)(ch:Nat->Prop)
    (hlen:h'.length=h.length) (hsame:∀k,¬ch k->h'[k]? =h[k]?)
    (hext:∀k l,m k=some l->m' k=some l) (hm:∀k,¬ch k->m' k=m k)
    (hnew:∀k,h.length<=k->m' k=none)
    (hos:w'.os=w.os) (V3:w'.tape=w.tape) (hout:oG w w')
    (hsize:w.heap.size<=w'.heap.size)
    (ku:∀k o l b,ch k->h'[k]? =some o->o.live->m' k=some l->l.blk=some b->iO m h b\/w.heap.size<=b)
    (hkeep:∀b,b<w.heap.size->(w'.heap[b]? =w.heap[b]?)\/(iO m h b∧∀k o l,¬ch k->h[k]? =some o->o.live->m k=some l->l.blk=some b->False))
    (hinj:∀k k' o o' l l' b,ch k->h'[k]? =some o->h'[k']? =some o'->o.live->o'.live->m' k=some l->m' k'=some l'->l.blk=some b->l'.blk=some b->k=k')
    (hnw:∀k,ch k->h'[k]? =some .dead->m k=none->m' k=none)
    (CW:Later w m (MX X m h) w' m' (MX X m' h')→∀k o,ch k->h'[k]? =some o->yc w' m' (MX X m' h') k o):
    Stp X w m h w' m' h':=by
  have Qp:∀b,iO m' h' b->iO m h b\/w.heap.size<=b:=by
    rintro b ⟨k,o,l,hk,hl,hmk,hb⟩;by_cases hc:ch k
    · exact ku k o l b hc hk hl hmk hb
    · rw[hsame k hc]at hk;rw[hm k hc]at hmk;exact .inl ⟨k,o,l,hk,hl,hmk,hb⟩
  have hK:∀b,b<w.heap.size→¬iO m h b->w'.heap[b]? =w.heap[b]? :=by
    intro b hb hM;rcases hkeep b hb with h1|⟨h1,_⟩
    · exact h1
    · exact absurd h1 hM
  have hL:Later w m (MX X m h) w' m' (MX X m' h'):=by
    refine⟨hext,λb hb hM hM'=> ?_,λb hb hM=>hK b hb (λh1=>hM (.inr h1)),hsize⟩;rcases hM' with h0|h0
    · exact hM (.inl h0)
    · rcases Qp b h0 with h1|h1
      · exact hM (.inr h1)
      · omega
  refine⟨⟨λk o hk=> ?_,λk k' o o' l l' b h1 h2 h3 h4 h5 h6 h7 h8=> ?_,λk hk=>hnew k ah,λb hb hX=> ?_,λb hX=>xX (H.xlt b hX) hsize⟩,hL,hos,V3,hout,hK,Qp,λk _ h2 h3=>by by_cases hc:ch k;exact hnw k hc h2 h3;rw[hm k hc];exact h3⟩
  · by_cases hc:ch k
    · exact CW hL k o hc hk
    · have hk0:=hk;rw[hsame k hc]at hk;have ho:=H.obj k o hk;cases o with
      |dead=>trivial
      |box cs=>
        obtain⟨l,b,T,vs,e1,e2,e3,e4,e5⟩:=ho;refine⟨l,b,T,vs,hext _ _ e1,e2,?_,e4.later hL,e5⟩;rcases hkeep b (lt_of_block e3)with h1|⟨_,h1⟩
        · rw[h1];exact e3
        · exact(h1 k _ l hc hk trivial e1 e2).elim
      |arr z n f=>
        obtain⟨l,e1,e2,e3,e4,e5⟩:=ho;refine⟨l,hext _ _ e1,e2,e3,e4,λb hb=> ?_⟩;obtain⟨e6,T,vs,e7,e8,e9,e10⟩:=e5 b hb;refine⟨e6,T,vs,?_,e8,e9,λi hi=>⟨(e10 i hi).1,λj x hx=>((e10 i hi).2 j x hx).later hL⟩⟩;rcases hkeep b (lt_of_block e7)with h1|⟨_,h1⟩
        · rw[h1];exact e7
        · exact(h1 k _ l hc hk trivial e1 hb).elim
      |ms es=>
        obtain⟨l,b,rows,clock,e1,e2,e3,e4⟩:=ho;refine⟨l,b,rows,clock,hext _ _ e1,e2,?_,e4⟩;rcases hkeep b (lt_of_block e3)with h1|⟨_,h1⟩
        · rw[h1];exact e3
        · exact(h1 k _ l hc hk trivial e1 e2).elim
      |ra z n cs=>
        obtain⟨l,b,T,vs,e1,e2,e3,e4,e5,e6,e7,e8,e9,e10⟩:=ho;refine⟨l,b,T,vs,hext _ _ e1,e2,e3,e4,e5,?_,e7,e8,e9,λi x hx=>(e10 i x hx).later hL⟩;rcases hkeep b (lt_of_block e6)with h1|⟨_,h1⟩
        · rw[h1];exact e6
        · exact(h1 k _ l hc hk trivial e1 e4).elim
  · by_cases hc:ch k
    · exact hinj k k' o o' l l' b hc h1 h2 h3 h4 h5 h6 h7 h8
    · by_cases hc':ch k'
      · exact(hinj k' k o' o l' l b hc' h2 h1 h4 h3 h6 h5 h8 h7).symm
      · rw[hsame k hc]at h1;rw[hsame k' hc']at h2;rw[hm k hc]at h5;rw[hm k' hc']at h6;exact H.inj k k' o o' l l' b h1 h2 h3 h4 h5 h6 h7 h8
  · rcases Qp b hb with h1|h1
    · exact H.uL b h1 hX
    · have:=H.xlt b hX;omega
end Go.AM
namespace Go.AM
open Go Go.CP Go.RowKit
variable [Fuel]
def fP(v:Value):SV:=.one (.s (.c (.val v)))
def Jt:Value->AV
  | .agg cs=> .agg (cs.toList.map λv=> .c (.val v))
  |v=> .s (.c (.val v))
structure St where
  σ:List (Nat×SV)
  h:List aU
def look:List (Nat×SV)->Nat->Option SV
  | [],_=>none
  |(i,s)::r,t=>bif Nat.beq i t then some s else look r t
def del:List (Nat×SV)->Nat->List (Nat×SV)
  | [],_=> []
  |(i,s)::r,t=>bif Nat.beq i t then del r t else(i,s)::del r t
def mQ(σ:List (Nat×SV))(d:Option Nat)(s:SV):List (Nat×SV):=
  match d with
  |some t=>(t,s)::del σ t
  |none=>σ
def j3(σ:List (Nat×SV)):Operand->Option SV
  | .tmp t=>look σ t
  | .const v=>some (.one (Jt v))
  | .func f=>some (.one (.s (.fn f [])))
  | .global _=>none
def eB(h:List aU)(k:Nat):aU:=(h[k]?).getD .dead
def kP:AV->List SC
  | .s x=> [x]
  | .agg cs=>cs
def SC.scalar:SC->Bool
  | .c (.val v)=>v.oneCell'
  | .bot=>false
  |_=>true
def tJ:List SC->Option (List CV)
  | []=>some []
  | .c x::r=>match tJ r with
    |some xs=>some (x::xs)
    |none=>none
  |_::_=>none
def splice{α:Type}(cs:List α)(off:Nat)(xs:List α):List α:=cs.take off++(xs++cs.drop (off+xs.length))
def upd(f:Nat->List CV)(i:Nat)(c:List CV):Nat->List CV:=λj=>if j=i then c else f j
def app(n:Nat)(f g:Nat->List CV):Nat->List CV:=λi=>if i<n then f i else g (i-n)
def wz(lo n:Nat)(f g:Nat->List CV):Nat->List CV:=λi=>if lo<=i/\i<lo+n then g (i-lo)else f i
structure Eff where
  r:SV
  ws:List (Nat×aU):=[]
  bs:List Bool:=[]
  cs:List Prop:=[]
def Ac(P:Program)(t:TypeId):Bool:=
  match P.underlying t with
  |some (.struct _)=>true
  |some (.array _ _)=>true
  |_=>false
def yu(P:Program)(T:TypeId)(cs:List SC)(off:Nat):Option AV:=
  match P.underlying T with
  |none=>none
  | some _=>
    bif Ac P T then
      match P.info? T with
      |some i=>if off+i.size<=cs.length then some (.agg ((cs.drop off).take i.size))else none
      |none=>none
    else
      match cs[off]? with
      |some x=>some (.s x)
      |none=>none
def abv(P:Program)(T:TypeId)(get:Nat->aU)(p:SC):Option Eff:=
  match p with
  | .pb k off=>match get k with
    | .box cs=>match yu P T cs off with
      |some v=>some {r:=.one v}
      |none=>none
    |_=>none
  | .pe k i off=>match get k with
    | .arr _ _ f=>match yu P T ((f i).map .c) off with
      |some v=>some {r:=.one v}
      |none=>none
    |_=>none
  | .rp cs=>match yu P T (cs.map .c) 0 with
    |some v=>some {r:=.one v}
    |none=>none
  |_=>none
def Vb(P:Program)(T:TypeId)(get:Nat->aU)(p:SC)(v:AV):Option Eff:=
  match P.info? T with
  |none=>none
  | some i=>
    bif Nat.beq (kP v).length i.size&&(kP v).all SC.scalar then
      match p with
      | .pb k off=>match get k with
        | .box cs=>bif Nat.ble (off+i.size) cs.length then some {r:=fP undef,ws:=[(k,.box (splice cs off (kP v)))]}else none
        |_=>none
      | .pe k j off=>match get k,tJ (kP v)with
        | .arr z n f,some xs=>bif Nat.ble (off+i.size) z then some {r:=fP undef,ws:=[(k,.arr z n (upd f j (splice (f j) off xs)))]}else none
        |_,_=>none
      |_=>none
    else none
def vw(get:Nat->aU):SC->SC
  | .own k=>match get k with
    | .arr _ n _=> .sl k 0 n
    |_=> .own k
  | .c (.ls t xs)=> .c (.rd (wd t) xs.length (fE t xs))
  |x=>x
def Ml(z:Nat):CV->Option (Nat×(Nat->List CV)×List Bool)
  | .rd z' n f=>bif Nat.beq z z' then some (n,f,[])else none
  | .e0=>some (0,λ_=> [],[])
  | .val (.slice none 0 _)=>some (0,λ_=> [],[])
  |_=>none
def acd:CV->Option (Nat×(Nat->List CV)×List Bool×List (Nat×aU))
  | .e0=>some (0,λ_=> [],[],[])
  | .val (.slice none 0 0)=>some (0,λ_=> [],[],[])
  |_=>none
def Ct(z:Nat)(get:Nat->aU):SC->Option (Nat×(Nat->List CV)×List Bool)
  | .sl k lo len=>match get k with
    | .arr z' n f=>bif Nat.beq z z' then some (len,λi=>f (lo+i),[decide (lo+len<=n)])else none
    |_=>none
  | .c x=>Ml z x
  |_=>none
def qB(z:Nat)(get:Nat->aU):SC->Option (Nat×(Nat->List CV)×List Bool)
  | .own k=>match get k with
    | .arr z' n f=>bif Nat.beq z z' then some (n,f,[])else none
    |_=>none
  | .c (.ls t xs)=>bif Nat.beq z (wd t)then some (xs.length,fE t xs,[])else none
  |x=>Ct z get x
def Bh(z:Nat)(get:Nat->aU):SC->Option (Nat×(Nat->List CV)×List Bool×List (Nat×aU))
  | .own k=>match get k with
    | .arr z' n f=>bif Nat.beq z z' then some (n,f,[],[(k,.dead)])else none
    |_=>none
  | .c x=>acd x
  |_=>none
def qJ(P:Program)(t:TypeId):Option (TypeId×TypeInfo×Array Value):=
  match P.underlying t with
  | some (.slice e)=>match P.info? e with
    |some i=>match i.zero with
      |some z=>bif Nat.beq z.cells.size i.size&&(z.cells.all Value.oneCell')&&Nat.blt 0 i.size&&Nat.blt 0 i.bytes then some (e,i,z.cells)else none
      |none=>none
    |none=>none
  |_=>none
def OO(P:Program)(t:TypeId)(id:Nat)(get:Nat->aU)(s x:SC):Option Eff:=
  match qJ P t with
  |none=>none
  | some (_,i,_)=>
    match Bh i.size get s,qB i.size get x with
    |some (n,f,c1,w1),some (k,g,c2)=>
      some {r:=.one (.s (.own id)),ws:=w1++ [(id,.arr i.size (n+k) (app n f g))],bs:=c1++(c2++ [decide ((n+k)*i.bytes<=140737488355328)])}
    |_,_=>none
def PL(P:Program)(t:TypeId)(get:Nat->aU)(k lo n1:Nat)(x:SC):Option Eff:=
  match qJ P t with
  |none=>none
  | some (_,i,_)=>match qB i.size get x with
    |some (m,g,c2)=>match get k with
      | .arr z n f=>bif Nat.beq z i.size&&Nat.beq lo 0 then some {r:=.one (.s (.sl k 0 (n1+m))),ws:=[(k,.arr z n (wz n1 m f g))],bs:=c2++ [decide (n1+m<=n)]}else none
      |_=>none
    |none=>none
def OZ(P:Program)(t:TypeId)(id:Nat)(get:Nat->aU)(s x:SC):Option Eff:=
  match s with
  | .sl k lo n1=>PL P t get k lo n1 x
  |s=>OO P t id get s x
def abu(P:Program)(t:TypeId)(id:Nat)(n:Int):Option Eff:=
  match qJ P t with
  |none=>none
  |some (_,i,z)=>
      some {r:=.one (.s (.own id)),ws:=[(id,.arr i.size n.toNat (λ_=>z.toList.map .val))],bs:=[decide (0<n/\n*i.bytes<=140737488355328)]}
def Pj(P:Program)(t:TypeId)(get:Nat->aU)(s x:SC):Option Eff:=
  match qJ P t with
  |none=>none
  | some (_,i,_)=>
    match s,qB i.size get x with
    | .sl k lo len,some (m,g,c2)=>match get k with
      | .arr z n f=>bif Nat.beq z i.size then some {r:=fP (.int .i64 ((min m len:Nat):Int)),ws:=[(k,.arr z n (wz lo (min m len) f g))],bs:=c2++ [decide (lo+len<=n)]}else none
      |_=>none
    |_,_=>none
def abt(P:Program)(t:TypeId)(get:Nat->aU)(s x:SC):Option Eff:=Pj P t get (vw get s) x
def O0(P:Program)(t:TypeId)(get:Nat->aU)(s:SC):Option Eff:=
  match qJ P t with
  |none=>none
  | some (_,i,z)=>
    match s with
    | .sl k lo len=>match get k with
      | .arr z' n f=>bif Nat.beq z' i.size then some {r:=.mY [],ws:=[(k,.arr z' n (wz lo len f (λ_=>z.toList.map .val)))],bs:=[decide (lo+len<=n)]}else none
      |_=>none
    |_=>none
def aaQ(P:Program)(t:TypeId)(get:Nat->aU)(s:SC):Option Eff:=O0 P t get (vw get s)
def lenOf(x:SC):Option Nat:=
  match x with
  | .sl _ _ len=>some len
  | .c (.rd _ n _)=>some n
  | .c .e0=>some 0
  | .c (.val (.slice _ n _))=>some n
  |_=>none
def ajN(l n len:Nat):Nat:=match l with
  |0=>n
  |_=>len
def arS:SC->Option Nat
  | .sl _ _ len=>some len
  | .c (.rd _ n _)=>some n
  |_=>none
def ai6(op:BinOp)(k:IntKind)(a b:Int):Option (Value×List Bool):=
  match op with
  | .add=>some (.int k (k.wrap (a+b)),[])
  | .sub=>some (.int k (k.wrap (a-b)),[])
  | .mul=>some (.int k (k.wrap (a*b)),[])
  | .quo=>some (.int k (k.wrap (a.tdiv b)),[decide (b≠0)])
  | .rem=>some (.int k (a.tmod b),[decide (b≠0)])
  | .and=>some (.int k (k.wrap ((BitVec.ofInt k.bits a&&&BitVec.ofInt k.bits b).toNat)),[])
  | .or=>some (.int k (k.wrap ((BitVec.ofInt k.bits a|||BitVec.ofInt k.bits b).toNat)),[])
  | .xor=>some (.int k (k.wrap ((BitVec.ofInt k.bits a^^^BitVec.ofInt k.bits b).toNat)),[])
  | .andNot=>some (.int k (k.wrap ((BitVec.ofInt k.bits a&&& ~~~ BitVec.ofInt k.bits b).toNat)),[])
  | .eql=>some (.bool (a==b),[])
  | .neq=>some (.bool (a !=b),[])
  | .lss=>some (.bool (decide (a<b)),[])
  | .leq=>some (.bool (decide (a<=b)),[])
  | .gtr=>some (.bool (decide (b<a)),[])
  | .geq=>some (.bool (decide (b<=a)),[])
  |_=>none
def aaA(op:BinOp)(k:IntKind)(a b:Int):Option (Value×List Bool):=
  match op with
  | .shl=>some (.int k (k.wrap (a*2^(min b.toNat k.bits))),[decide (0<=b)])
  | .shr=>some (.int k (a.fdiv (2^(min b.toNat k.bits))),[decide (0<=b)])
  |_=>none
def ajf(op:BinOp)(x y:ByteArray):Option (Value×List Bool):=
  match op with
  | .add=>some (.string (x++y),[decide (x.size+y.size<=9223372036854775807)])
  | .eql=>some (.bool (x.toList==y.toList),[])
  | .neq=>some (.bool (!(x.toList==y.toList)),[])
  | .lss=>some (.bool (Op.bytesLess x.toList y.toList),[])
  | .leq=>some (.bool (Op.bytesLess x.toList y.toList||x.toList==y.toList),[])
  | .gtr=>some (.bool (!(Op.bytesLess x.toList y.toList||x.toList==y.toList)),[])
  | .geq=>some (.bool (!(Op.bytesLess x.toList y.toList)),[])
  |_=>none
def abK(P:Program)(op:BinOp)(t:TypeId)(x y:Value):Option (Value×List Bool):=
  match x,y with
  | .int k a,.int k' b=>
    match op with
    | .shl=>aaA .shl k a b
    | .shr=>aaA .shr k a b
    |_=>if k=k' then ai6 op k a b else none
  | .string a,.string b=>ajf op a b
  | .bool a,.bool b=>
    match P.underlying t,op with
    |some .bool,.eql=>some (.bool (a==b),[])
    |some .bool,.neq=>some (.bool (!(a==b)),[])
    |_,_=>none
  | .slice none 0 0,.slice none 0 0=>
    match P.underlying t,op with
    |some (.slice _),.eql=>some (.bool true,[])
    |some (.slice _),.neq=>some (.bool false,[])
    |_,_=>none
  |_,_=>none
def VY(P:Program)(t:TypeId)(x y:Value):Option Bool:=
  match P.underlying t,x,y with
  |some .bool,.bool a,.bool b=>some (a==b)
  |some (.int _),.int k a,.int k' b=>if k=k' then some (a==b)else none
  |some .string,.string a,.string b=>some (a.toList==b.toList)
  |_,_,_=>none
def cellV(xs:List SC)(i:Nat):Option Value:=
  match xs[i]? with
  |some (.c (.val v))=>some v
  |_=>none
def within(P:Program)(n off:Nat)(t:TypeId):Bool:=
  match P.info? t with
  |some i=>Nat.ble (off+i.size) n&&Nat.blt 0 i.size
  |none=>false
def leaves(P:Program):Nat->TypeId->Nat->Option (List (Nat×TypeId))
  |0,_,_=>none
  | d + 1,t,off=>
    match P.underlying t with
    | some (.struct fs)=>bif P.stoodInHeld t then none else
      fs.toList.foldr (λf acc=>match leaves P d f.type (off+f.offset),acc with
        |some l,some r=>bif f.name== "_" then none else bif within P (P.cellsOf t) f.offset f.type then some (l++r)else none
        |_,_=>none) (some [])
    |some (.array _ _)=>none
    |some _=>some [(off,t)]
    |none=>none
def yw(P:Program)(xs ys:List SC):List (Nat×TypeId)->Option Bool
  | []=>some true
  | (off,t)::r=>
    match cellV xs off,cellV ys off with
    |some x,some y=>match VY P t x y,yw P xs ys r with
      |some a,some b=>some (a&&b)
      |_,_=>none
    |_,_=>none
def asE:SC->Bool
  | .pb _ _=>true
  | .pe _ _ _=>true
  | .rp _=>true
  |_=>false
def ajA(P:Program)(op:BinOp)(t:TypeId)(x y:SV):Option Eff:=
  match x,y with
  | .one (.s (.c (.val a))),.one (.s (.c (.val b)))=>match abK P op t a b with
    |some (v,c)=>some {r:=fP v,bs:=c}
    |none=>none
  | .one (.s (.c (.ls _ (_::_)))),.one (.s (.c (.val (.slice none 0 0))))=>match P.underlying t,op with
    |some (.slice _),.eql=>some {r:=fP (.bool false)}
    |some (.slice _),.neq=>some {r:=fP (.bool true)}
    |_,_=>none
  | .one (.agg xs),.one (.agg ys)=>
    bif P.eqGuardType P.depth t|| !(Ac P t&&(P.info? t).isSome&&Nat.beq xs.length (P.cellsOf t)&&Nat.beq ys.length (P.cellsOf t))then none else
    match leaves P 100 t 0 with
    |none=>none
    |some ls=>match yw P xs ys ls,op with
      |some b,.eql=>some {r:=fP (.bool b)}
      |some b,.neq=>some {r:=fP (.bool (!b))}
      |_,_=>none
  |_,_=>none
def ajU(op:UnOp)(x:Value):Option Value:=
  match op,x with
  | .not,.bool b=>some (.bool (!b))
  | .neg,.int k n=>some (.int k (k.wrap (0-n)))
  |_,_=>none
def placeOf(P:Program)(fs:Array Field)(i:Nat):Option (Nat×Nat):=
  match fs[i]? with
  |some f=>match P.info? f.type with
    |some j=>some (f.offset,j.size)
    |none=>none
  |none=>none
def vN(place:Nat->Option (Nat×Nat))(cells:List SC):List (Nat×AV)->Option (List SC)
  | []=>some cells
  | (i,v)::r=>match place i with
    |none=>none
    |some (off,size)=>
      bif Nat.beq (kP v).length size&&Nat.ble (off+size) cells.length&&(kP v).all SC.scalar then vN place (splice cells off (kP v)) r else none
def partsOf(ρ:Operand->Option SV):List (Nat×Operand)->Option (List (Nat×AV))
  | []=>some []
  | (i,x)::r=>match ρ x,partsOf ρ r with
    |some (.one v),some l=>some ((i,v)::l)
    |_,_=>none
def vals(cs:List Value):List SC:=cs.map λv=> .c (.val v)
def ah4(P:Program)(t:TypeId)(parts:List (Nat×AV)):Option Eff:=
  match P.info? t,P.underlying t with
  | some i,some (.struct fs)=>
    match i.zero with
    | some (.agg z)=>
      bif z.all Value.oneCell'&&fs.all (λf=>(P.info? f.type).isSome)then
        match vN (placeOf P fs) (vals z.toList) parts with
        |some cs=>some {r:=.one (.agg cs)}
        |none=>none
      else none
    |_=>none
  | some i,some (.array _ e)=>
    match i.zero,P.info? e with
    | some (.agg z),some j=>
      bif z.all Value.oneCell' then
        match vN (λk=>some (k*j.size,j.size)) (vals z.toList) parts with
        |some cs=>some {r:=.one (.agg cs)}
        |none=>none
      else none
    |_,_=>none
  |_,_=>none
def rep(z:List SC):Nat->List SC
  |0=> []
  |n+1=>z++rep z n
def Ou(P:Program)(t:TypeId)(id len:Nat)(parts:List (Nat×AV)):Option Eff:=
  match qJ P t with
  |none=>none
  | some (_,i,z)=>
    bif Nat.ble (len*i.size) 16777216 then
      match vN (λk=>some (k*i.size,i.size)) (rep (vals z.toList) len) parts with
      |some cs=>match tJ cs with
        |some xs=>some {r:=.one (.s (.own id)),ws:=[(id,.arr i.size len (λj=>(xs.drop (j*i.size)).take i.size))]}
        |none=>none
      |none=>none
    else none
def Jl:Nat->List (Nat×AV)->Option (List Nat)
  |_,[]=>some []
  |j,(i,.s (.own k))::r=>bif Nat.beq i j then(match Jl (j+1) r with
    |some l=>some (k::l)
    |none=>none)else none
  |_,_=>none
def Fb:aU->CV
  | .arr z n f=> .rd z n f
  |_=> .e0
def Jk:aU->Bool
  | .arr _ _ _=>true
  |_=>false
def Bl(ks:List Nat):List (Nat×aU):=ks.map λk=>(k,.dead)
def VZ(P:Program)(t:TypeId)(id:Nat)(get:Nat->aU)(len:Nat)(ks:List Nat):Option Eff:=
  match qJ P t with
  |none=>none
  | some (_,i,_)=>
    bif Nat.beq i.size 1&&Nat.beq ks.length len&&Nat.ble (len*i.size) 16777216&&ks.all (λk=>Jk (get k))then
      some {r:=.one (.s (.own id)),ws:=Bl ks++ [(id,.arr i.size len (λj=>((ks.map λk=>Fb (get k)).drop (j*i.size)).take i.size))]}
    else none
def PO(P:Program)(t:TypeId)(id:Nat)(get:Nat->aU)(len:Nat)(l:List (Nat×AV)):Option Eff:=
  match l,Jl 0 l with
  |_::_,some ks=>VZ P t id get len ks
  |_,_=>Ou P t id len l
def abw(P :Program)(t:TypeId)(id:Nat)(l c:Int):Option Eff:=
  match qJ P t with
  |none=>none
  | some (_,i,z)=>
    some { r:= .one (.s (.own id)),ws:= [(id,.arr i.size l.toNat (λ_=>z.toList.map .val))],
           bs:=[decide (0<=l/\l<=c/\c<=9223372036854775807/\c*i.bytes<=140737488355328)]}
def A8(ρ:Operand->Option SV):Option Operand->Option (Option Int)
  |none=>some none
  |some x=>match ρ x with
    |some (.one (.s (.c (.val (.int _ n)))))=>some (some n)
    |_=>none
def O5(P : Program)(t:TypeId)(get:Nat->aU)(x:SC)(lo hi mx:Option Int):Option Eff:=
  match P.underlying t with
  | some (.slice e)=>
    match P.info? e with
    |none=>none
    |some ie=>
    match mx with
    | some m=>match lo,hi,lenOf x with
      |none,some h,some _=>bif(h==0)&&(m==0)then some {r:=.one (.s (.c .e0))}else none
      |some a,some b,some _=>match arS x with
        |some n=>some {r:=.one (.s .bot),bs:=[decide (0<=a/\a<=b/\b<=m/\m<=n)]}
        |none=>none
      |_,_,_=>none
    | none=>
      match x with
      | .sl k l len=>match get k with
        | .arr z n _=>bif Nat.beq z ie.size then
            let b:Int:=match hi with|some h=>h|none=>(len:Int)
            match lo with
            |none=>some {r:=.one (.s (.sl k l b.toNat)),bs:=[decide (0<=b/\b<=len)]}
            |some a=>some {r:=.one (.s (.sl k (l+a.toNat) (b.toNat-a.toNat))),bs:=[decide (0<=a/\a<=b/\b<=((ajN l n len:Nat):Int))]}
          else none
        |_=>none
      | .c (.rd z n f)=>
        bif Nat.beq z ie.size then
        let b:Int:=match hi with|some h=>h|none=>(n:Int)
        match lo with
        |none=>some {r:=.one (.s (.c (.rd z b.toNat f))),bs:=[decide (0<=b/\b<=n)]}
        |some a=>some {r:=.one (.s (.c (.rd z (b.toNat-a.toNat) (λi=>f (a.toNat+i))))),bs:=[decide (0<=a/\a<=b/\b<=n)]}
        else none
      | .c (.val v)=>match v,lo,hi with
        | .slice none 0 0,none,some b=>bif decide (b=0)then some {r:=fP (.slice none 0 0)}else none
        |_,_,_=>none
      |_=>none
  | some .string=>
    match x,mx with
    | .c (.val (.string s)),none=>
      let b:Int:=match hi with|some h=>h|none=>(s.size:Int)
      let a:Int:=match lo with|some h=>h|none=>0
      some {r:=fP (.string (s.extract a.toNat b.toNat)),bs:=[decide (0<=a/\a<=b/\b<=s.size)]}
    |_,_=>none
  |_=>none
def aaT(P:Program)(t:TypeId)(get:Nat->aU)(x:SC)(lo hi mx:Option Int):Option Eff:=O5 P t get (vw get x) lo hi mx
def Pk(P:Program)(s:TypeId)(f:Nat):Option (Nat×TypeId):=
  match P.underlying s with
  | some (.struct fs)=>match fs[f]? with
    |some fl=>match P.info? fl.type with
      |some i=>bif Nat.beq i.size 0 then none else some (fl.offset,fl.type)
      |none=>none
    |none=>none
  |_=>none
def agr(P:Program)(s:TypeId)(x:SC)(f:Nat):Option Eff:=
  match Pk P s f with
  |none=>none
  |some (o,_)=>match x with
    | .pb k off=>some {r:=.one (.s (.pb k (off+o)))}
    | .pe k i off=>some {r:=.one (.s (.pe k i (off+o)))}
    | .rp cs=>some {r:=.one (.s (.rp (cs.drop o)))}
    |_=>none
def Ov(P:Program)(t:TypeId)(get:Nat->aU)(x:SC)(i:Int):Option Eff:=
  match P.underlying t with
  | some (.slice e)=>match P.info? e with
    |none=>none
    | some ie=>match x with
      | .sl k lo len=>match get k with
        | .arr z n _=>bif Nat.beq z ie.size then some {r:=.one (.s (.pe k (lo+i.toNat) 0)),bs:=[decide (0<=i/\i<len),decide (lo+len<=n)]}else none
        |_=>none
      | .c (.rd z n f)=>bif Nat.beq z ie.size then some {r:=.one (.s (.rp (f i.toNat))),bs:=[decide (0<=i/\i<n)]}else none
      |_=>none
  | some (.array len e)=>match P.info? e with
    |none=>none
    |some ie=>match x with
      | .pb k off=>some {r:=.one (.s (.pb k (off+i.toNat*ie.size))),bs:=[decide (0<=i/\i<len)]}
      | .pe k j off=>some {r:=.one (.s (.pe k j (off+i.toNat*ie.size))),bs:=[decide (0<=i/\i<len)]}
      | .rp cs=>some {r:=.one (.s (.rp (cs.drop (i.toNat*ie.size)))),bs:=[decide (0<=i/\i<len)]}
      |_=>none
  |_=>none
def Un(P:Program)(t0:TypeId)(get:Nat->aU)(x:SC)(i:Int):Option Eff:=
  match x with
  | .own k=>match P.underlying t0 with
    |some (.slice e)=>match P.info? e,get k with
      |some ie,.arr z n _=>bif Nat.beq z ie.size then some {r:=.one (.s (.pe k i.toNat 0)),bs:=[decide (0<=i/\i<n)]}else none
      |_,_=>none
    |_=>none
  | .c (.ls t xs)=>Ov P t0 get (.c (.rd (wd t) xs.length (fE t xs))) i
  |x=>Ov P t0 get x i
def acw:List Value->Option Value
  | []=>none
  | .int k x::r=>r.foldl (λacc v=>match acc,v with
    |some (.int k x),.int _ y=>some (.int k (if y<x then y else x))
    |_,_=>none) (some (.int k x))
  |_=>none
def acv:List Value->Option Value
  | []=>none
  | .int k x::r=>r.foldl (λacc v=>match acc,v with
    |some (.int k x),.int _ y=>some (.int k (if x<y then y else x))
    |_,_=>none) (some (.int k x))
  |_=>none
def Cg(ρ:Operand->Option SV):List Operand->Option (List Value)
  | []=>some []
  |x::r=>match ρ x,Cg ρ r with
    |some (.one (.s (.c (.val v)))),some l=>some (v::l)
    |_,_=>none
def abI:SV->Option Nat
  | .one (.s (.c (.val (.string s))))=>some s.size
  |_=>none
def abT(P:Program)(get:Nat->aU)(t:TypeId)(x:SV):Option Eff:=
  match P.underlying t with
  |some .string=>match abI x with
    |some n=>some {r:=fP (.int .i64 (n:Int))}
    |none=>none
  | some (.slice _)=>match x with
    | .one (.s y)=>match lenOf (vw get y)with
      |some n=>some {r:=fP (.int .i64 (n:Int))}
      |none=>none
    |_=>none
  |some (.array n _)=>some {r:=fP (.int .i64 (n:Int))}
  |_=>none
def I6(P:Program)(id:Nat)(get:Nat->aU)(ρ:Operand->Option SV)(b:Builtin)(args:List Operand)(ts:List TypeId):Option Eff:=
  match b,args,ts with
  | .len,[x],t::_=>match ρ x with
    |some v=>abT P get t v
    |none=>none
  | .append,[s,x],[t,u]=>match ρ s,ρ x,P.underlying u with
    |some (.one (.s s)),some (.one (.s x)),some (.slice _)=>OZ P t id get s x
    |some (.one (.s (.c (.val (.slice none 0 0))))),some (.one (.s (.c (.val (.int _ n))))),some (.int _)=>abu P t id n
    |_,_,_=>none
  | .copy,[s,x],t::_=>match ρ s,ρ x with
    |some (.one (.s s)),some (.one (.s x))=>abt P t get s x
    |_,_=>none
  | .clear,[s],t::_=>match ρ s with
    |some (.one (.s s))=>aaQ P t get s
    |_=>none
  | .cap,[x],t::_=>match ρ x,P.underlying t with
    |some (.one (.s (.c (.val (.slice none 0 0))))),some (.slice _)=>some {r:=fP (.int .i64 0)}
    |_,_=>none
  | .min,args,_=>match Cg ρ args with
    |some vs=>match acw vs with
      |some v=>some {r:=fP v}
      |none=>none
    |none=>none
  | .max,args,_=>match Cg ρ args with
    |some vs=>match acv vs with
      |some v=>some {r:=fP v}
      |none=>none
    |none=>none
  |_,_,_=>none
def Ji(ρ:Operand->Option SV):List Operand->Option (List Nat)
  | []=>some []
  |x::r=>match ρ x,Ji ρ r with
    |some (.one (.s (.pb k 0))),some l=>some (k::l)
    |_,_=>none
def acu:List CV->Bool
  | [.val (.int .u8 _)]=>true
  |_=>false
def u8v:List CV->UInt8
  | [.val (.int .u8 n)]=>UInt8.ofNat n.toNat
  |_=>0
def Vx(n:Nat)(f:Nat->List CV):ByteArray:=(List.range n).foldl (λr i=>r.push (u8v (f i))) ByteArray.empty
def aqE(P:Program)(e:TypeId)(o:aU):Option Eff:=
  match o with
  | .arr z n f=>match P.underlying e with
    |some (.int .u8)=>bif Nat.beq z 1 then some {r:=fP (.string (Vx n f)),bs:=[(List.range n).all λi=>acu (f i)]}else none
    |_=>none
  |_=>none
def evalOp(P:Program)(id:Nat)(ρ:Operand->Option SV)(get:Nat->aU):Op->Option Eff
  | .move x=>match ρ x with
    |some v=>some {r:=v}
    |none=>none
  | .assign x=>match ρ x with
    |some v=>some {r:=v}
    |none=>none
  | .pick c a b=>match ρ c with
    |some (.one (.s (.c (.val (.bool true)))))=>match ρ a with
      |some v=>some {r:=v}
      |none=>none
    |some (.one (.s (.c (.val (.bool false)))))=>match ρ b with
      |some v=>some {r:=v}
      |none=>none
    |_=>none
  | .alloc T=>match P.info? T with
    |some i=>match i.zero with
      |some z=>bif z.cells.all Value.oneCell' then some {r:=.one (.s (.pb id 0)),ws:=[(id,.box (vals z.cells.toList))]}else none
      |none=>none
    |none=>none
  | .box _ x=>match ρ x with
    |some (.one v)=>bif(kP v).all SC.scalar then some {r:=.one (.s (.pb id 0)),ws:=[(id,.box (kP v))]}else none
    |_=>none
  | .build t ps=>match partsOf ρ ps.toList with
    |some l=>ah4 P t l
    |none=>none
  | .buildSlice t n ps=>match partsOf ρ ps.toList with
    |some l=>PO P t id get n l
    |none=>none
  | .load T a=>match ρ a with
    |some (.one (.s p))=>abv P T get p
    |_=>none
  | .store T a v=>match ρ a,ρ v with
    |some (.one (.s p)),some (.one v)=>Vb P T get p v
    |_,_=>none
  | .nilCheck x=>match ρ x with
    |some (.one (.s p))=>bif asE p then some {r:=.one (.s p)}else none
    |_=>none
  | .binOp op t x y _=>match ρ x,ρ y with
    |some x,some y=>ajA P op t x y
    |_,_=>none
  | .unOp op _ x=>match ρ x with
    |some (.one (.s (.c (.val v))))=>match ajU op v with
      |some u=>some {r:=fP u}
      |none=>none
    |_=>none
  | .convert s d x=>match P.underlying s,P.underlying d,ρ x with
    |some (.int _),some (.int k),some (.one (.s (.c (.val (.int _ n)))))=>some {r:=fP (.int k (k.wrap n))}
    |some .string,some .string,some (.one (.s (.c (.val (.string b)))))=>some {r:=fP (.string b)}
    |some (.slice e),some .string,some (.one (.s (.own k)))=>aqE P e (get k)
    |_,_,_=>none
  | .makeFunc fn first caps=>match fn,Ji ρ caps.toList with
    | .func f,some ks=>bif Nat.beq first.size 0 then some {r:=.one (.s (.fn f ks))}else none
    |_,_=>none
  | .makeSlice t l c=>match ρ l,ρ c with
    |some (.one (.s (.c (.val (.int _ l))))),some (.one (.s (.c (.val (.int _ c)))))=>abw P t id l c
    |_,_=>none
  | .slice t x lo hi mx=>match ρ x,A8 ρ lo,A8 ρ hi,A8 ρ mx with
    |some (.one (.s x)),some lo,some hi,some mx=>aaT P t get x lo hi mx
    |_,_,_,_=>none
  | .fieldAddr s x f=>match ρ x with
    |some (.one (.s p))=>agr P s p f
    |_=>none
  | .field s x f=>match ρ x,Pk P s f with
    |some (.one (.agg cs)),some (o,t)=>match yu P t cs o with
      |some v=>some {r:=.one v}
      |none=>none
    |_,_=>none
  | .indexAddr t x i=>match ρ x,ρ i with
    |some (.one (.s p)),some (.one (.s (.c (.val (.int _ n)))))=>Un P t get p n
    |_,_=>none
  | .index t x i=>match P.underlying t,ρ x,ρ i with
    |some .string,some (.one (.s (.c (.val (.string s))))),some (.one (.s (.c (.val (.int _ n)))))=>some {r:=fP (.int .u8 (((s.data.toList.getD n.toNat 0).toNat:Nat):Int)),bs:=[decide (0<=n/\n<s.size)]}
    |_,_,_=>none
  | .extract x i=>match ρ x with
    |some (.mY vs)=>match vs[i]? with
      |some v=>some {r:=.one v}
      |none=>none
    |_=>none
  | .call c=>match c.callee with
    | .builtin b=>I6 P id get ρ b c.args.toList c.argTypes.toList
    |_=>none
  |_=>none
section
variable {k b z n i:Nat}{α:Type}
def eX(h:List aU):List (Nat×aU)->List aU
 | []=>h
 |(k,o)::r=>eX (h.set k o) r
theorem addr_add(b o n:Nat):(⟨b,o,none⟩:Addr).add n=⟨b,o+n,none⟩:=by unfold Addr.add;split<;>simp_all
def Gi(w:World)(m:gV)(M:Mu)(b off:Nat)(cs:List SC):Prop:=
 ∀(j:Nat) x,cs[j]? =some x→∃u,w.cell? ⟨b,off+j,none⟩=some u/\dU w m M x u
theorem Gi.drop{w:World}{m:gV}{M:Mu}{b off:Nat}{cs:List SC}(h:Gi w m M b off cs)(n:Nat):Gi w m M b (off+n) (cs.drop n):=by intro j x hx;rw[yP]at hx;obtain⟨u,hu,hs⟩:=h _ _ hx;exact⟨u,by rw[<-hu,wN],hs⟩
section
variable {P:Program} {w:World} {m:gV} {M:Mu}
theorem aC2{b off n:Nat}{cs:List SC}(h:Gi w m M b off cs)(hn:n<=cs.length):
  ∃vs:Array Value,(loadCells ⟨b,off,none⟩ n).run P w=.ok vs w/\nY w m M (cs.take n) vs:=by
 have hu:∀j,j<n→∃u,w.cell? ⟨b,off+j,none⟩=some u∧∀x,cs[j]? =some x->dU w m M x u:=by intro j hj;obtain⟨u,hu,hs⟩:=h j cs[j] (jR ah);exact⟨u,hu,λx hx=>by rw[jR ah]at hx;cases hx;exact hs⟩
 let f:Nat->Value:=λj=>(w.cell? ⟨b,off+j,none⟩).getD undef
 have hf:∀j,j<n->w.cell? ((⟨b,off,none⟩:Addr).add j)=some (f j):=by intro j hj;obtain⟨u,hu,_⟩:=hu j hj;rw[addr_add];simp[f,hu]
 refine⟨_,run_loadCells w _ n f hf,ay,λi x hx=> ?_⟩;have hi:i<n:=by
  rcases mI i n with h'|h'
  .exact h'
  .rw[tq,dn ah]at hx;cases hx
 obtain⟨u,hu,hs⟩:=hu i hi;rw[tq,bW hi]at hx;have:(((List.range n).map f).toArray.getD i undef)=u:=by simp[Array.getD,hi,f,hu]
 rw[this];exact hs x hx
theorem UR{T:TypeId}{b off o:Nat}{cs:List SC}{v:AV}(h:Gi w m M b off cs)(hl:yu P T cs o=some v):
  ∃u,(loadVar T ⟨b,off+o,none⟩).run P w=.ok u w/\jo w m M v u:=by
 unfold yu at hl;rcases hu:P.underlying T with _|d;rw[hu]at hl;cases hl;rw[hu]at hl;simp only at hl;cases hag:Ac P T with
 |true=>
  rw[hag]at hl;rcases hi:P.info? T with _|i;rw[hi]at hl;simp at hl;rw[hi]at hl;simp only[aY]at hl;split at hl
  .rename_i hle;cases hl;obtain⟨vs,hr,hs⟩:=aC2 (P:=P) (n:=i.size) (h.drop o) ay;refine⟨.agg vs,?_,vs,rfl,hs⟩;have hagg:(isAgg T).run P w=.ok true w:=(by unfold Ac at hag;rw[hu]at hag;unfold isAgg;simp only[Sem.run_bind,run_underlying hu,Result.andThen_ok];cases d<;>simp_all);simp only[loadVar,Sem.run_bind,hagg,Result.andThen_ok,l5,sizeOf,typeInfo,run_program,hi,Sem.run_pure,hr]
  .cases hl
 |false=>
  rw[hag]at hl;simp only[aX]at hl;rcases hx:cs[o]? with _|x;rw[hx]at hl;cases hl;rw[hx]at hl;cases hl;obtain⟨u,hu',hs⟩:=h o x hx;refine⟨u,?_,hs⟩;have hagg:(isAgg T).run P w=.ok false w:=by unfold Ac at hag;rw[hu]at hag;unfold isAgg;simp only[Sem.run_bind,run_underlying hu,Result.andThen_ok];cases d<;>simp_all
  simp only[loadVar,Sem.run_bind,hagg,Result.andThen_ok,nH,mJ,run_load,hu']
end
section
variable {P:Program} {X:Mu} {w:World} {m:gV} {h:List aU}
theorem oP{o:aU}(e:eB h k=o)(ho:o.live):h[k]? =some o:=by unfold eB at e;rcases hk:h[k]? with _|x;rw[hk]at e;subst e;exact ho.elim;rw[hk]at e;simp at e;rw[e]
theorem aoL(H:fJ X w m h){cs:List SC}(e:eB h k=.box cs){l:Loc}(hk:m k=some l)(hb:l.blk=some b):
  Gi w m (MX X m h) b 0 cs:=by
 obtain⟨l',b',T,vs,e1,e2,e3,e4,_⟩:=H.obj k _ (oP e trivial);rw[hk]at e1;cases e1;rw[hb]at e2;cases e2;intro j x hx;have hj:j<cs.length:=by
  rcases mI j cs.length with h'|h'
  .exact h'
  .rw[xS h']at hx;cases hx
 refine⟨vs.getD j undef,?_,e4.2 j x hx⟩;rw[cell_of_row w b _ vs T _ e3];have:j<vs.size:=by rw[e4.1];exact hj
 simp[Array.getD,this]
theorem VW(H:fJ X w m h){f:Nat->List CV}(e:eB h k=.arr z n f){l:Loc}(hk:m k=some l):l.n=n:=by obtain⟨l',e1,_,e3,_⟩:=H.obj k _ (oP e trivial);rw[hk]at e1;cases e1;exact e3.1
theorem dU.vw(H:fJ X w m h){get:Nat->aU}(hget:∀k,(get k).live->eB h k=get k){x:SC}{v:Value}(hs:dU w m (MX X m h) x v):dU w m (MX X m h) (Go.AM.vw get x) v:=by cases x with
 |own k=>simp only[Go.AM.vw];cases hg:get k with
  |arr z n f=>have hg':=hget k (by rw[hg];trivial);rw[hg]at hg';obtain⟨l',e1,_,e3,e4,e5⟩:=H.obj k _ (oP hg' trivial);cases hs with|own _ l hk=>rw[hk]at e1;cases e1;rw[<-e3.1];rw[<-e3.1]at e3;refine .sl k 0 l'.n l' _ _ hk (λ_=>⟨rfl,rfl⟩) (λhne=> ?_) e3.2 ah;rcases hb:l'.blk with _|b;have:=e4 hb;omega;exact⟨b,rfl,by rw[(e5 b hb).1,abj]⟩
  |box cs=>exact hs
  |ra z1 n1 cs1=>exact hs
  |ms es1=>exact hs
  |dead=>exact hs
 |c y=>cases y with
  |ls t xs=>cases hs with|c h=>cases h with|ls _ _ _ h=>exact .c h
  |_=>exact hs
 |_=>exact hs
theorem aH2(H:fJ X w m h){f:Nat->List CV}(e:eB h k=.arr z n f){l:Loc}(hk:m k=some l)(hb:l.blk=some b)(hi:i<n):
  Gi w m (MX X m h) b (i*l.z) ((f i).map .c):=by
 obtain⟨l',e1,e2,e3,_,e5⟩:=H.obj k _ (oP e trivial);rw[hk]at e1;cases e1;obtain⟨e6,T,vs,e7,e8,_,e10⟩:=e5 b hb;obtain⟨hlen,hc⟩:=e10 i hi;intro j x hx;rw[mW]at hx;rcases hy:(f i)[j]? with _|y;rw[hy]at hx;cases hx;rw[hy]at hx;cases hx;have hj:j<z:=by
  rw[<-hlen];rcases mI j (f i).length with h'|h'
  .exact h'
  .rw[xS h']at hy;cases hy
 refine⟨vs.getD (i*z+j) undef,?_,.c (hc j y hy)⟩;rw[e2,cell_of_row w b _ vs T _ e7];have h1:i*z+z<=l.cap*z:=by rw[<-pK];exact jS _ ah
 have:i*z+j<vs.size:=ah
 simp[Array.getD,this]
theorem aJw{cs:List CV}{b off:Nat}{M:Mu}{v:Value}(hs:dU w m M (.rp cs) v):∃b off,v=.pointer (some ⟨b,off,none⟩)/\Gi w m M b off (cs.map .c):=by cases hs with
 |rp _ b off c hb hs hc h=>
  refine⟨b,off,rfl,λj x hx=> ?_⟩;rw[mW]at hx;rcases hy:cs[j]? with _|y;rw[hy]at hx;cases hx;rw[hy]at hx;cases hx;have hj:j<cs.length:=by
   rcases mI j cs.length with h'|h'
   .exact h'
   .rw[xS h']at hy;cases hy
  exact⟨c j,hc j hj,.c (h j y hy)⟩
theorem aHC(H:fJ X w m h){T:TypeId}{p:SC}{v:Value}{bK:Eff}(hp:dU w m (MX X m h) p v)(he:abv P T (eB h) p=some bK):
  ∃u,(Instr.loadAt T v).run P w=.ok u w/\bK.ws=[]/\eZ w m (MX X m h) bK.r u:=by
 unfold abv at he;cases p with
 |pb k off=>simp only at he;cases hg:eB h k with
  |box cs=>rw[hg]at he;simp only at he;rcases hl:yu P T cs off with _|a;rw[hl]at he;cases he;rw[hl]at he;cases he;cases hp with|pb _ _ b l hk hb=>obtain⟨u,hr,hs⟩:=UR (P:=P) (aoL H hg hk hb) hl;refine⟨u,?_,rfl,hs⟩;rw[nM]at hr;simp only[Instr.loadAt,Instr.sureAddr,Sem.run_bind,Sem.run_pure,Result.andThen_ok,hr]
  |arr z n f=>rw[hg]at he;cases he
  |ra z1 n1 cs1=>rw[hg]at he;cases he
  |ms es1=>rw[hg]at he;cases he
  |dead=>rw[hg]at he;cases he
 |pe k i off=>simp only at he;cases hg:eB h k with
  |arr z n f=>rw[hg]at he;simp only at he;rcases hl:yu P T ((f i).map .c) off with _|a;rw[hl]at he;cases he;rw[hl]at he;cases he;cases hp with|pe _ _ _ b l hk hb hi=>rw[VW H hg hk]at hi;obtain⟨u,hr,hs⟩:=UR (P:=P) (aH2 H hg hk hb hi) hl;refine⟨u,?_,rfl,hs⟩;simp only[Instr.loadAt,Instr.sureAddr,Sem.run_bind,Sem.run_pure,Result.andThen_ok,hr]
  |box cs=>rw[hg]at he;cases he
  |ra z1 n1 cs1=>rw[hg]at he;cases he
  |ms es1=>rw[hg]at he;cases he
  |dead=>rw[hg]at he;cases he
 |rp cs=>simp only at he;rcases hl:yu P T (cs.map .c) 0 with _|a;rw[hl]at he;cases he;rw[hl]at he;cases he;obtain⟨b,off,rfl,hcells⟩:=aJw (b:=0) (off:=0) hp;obtain⟨u,hr,hs⟩:=UR (P:=P) hcells hl;refine⟨u,?_,rfl,hs⟩;simp only[Instr.loadAt,Instr.sureAddr,Sem.run_bind,Sem.run_pure,Result.andThen_ok];exact hr
 |c x=>cases he
 |own k=>cases he
 |sl k lo len=>cases he
 |fn f caps=>cases he
 |mp k=>cases he
 |fb f k off=>cases he
 |bot=>cases he
theorem abo(H:fJ X w m h){o:aU}{l:Loc}(hk:h[k]? =some o)(ho:o.live)(hm:m k=some l)(hb:l.blk=some b):b<w.heap.size:=by have:=H.obj k o hk;cases o with
 |dead=>exact ho.elim
 |box cs=>obtain⟨l',b',T,vs,e1,e2,e3,_⟩:=this;rw[hm]at e1;cases e1;rw[hb]at e2;cases e2;exact lt_of_block e3
 |arr z n f=>obtain⟨l',e1,_,_,_,e5⟩:=this;rw[hm]at e1;cases e1;obtain⟨_,T,vs,e7,_⟩:=e5 b hb;exact lt_of_block e7
 |ms es=>obtain⟨l',b',rows,clock,e1,e2,e3,_⟩:=this;rw[hm]at e1;cases e1;rw[hb]at e2;cases e2;exact lt_of_block e3
 |ra z n cs=>obtain⟨l',b',T,vs,e1,_,_,e2,_,e3,_⟩:=this;rw[hm]at e1;cases e1;rw[hb]at e2;cases e2;exact lt_of_block e3
def mX(m:gV)(id:Nat)(l:Loc):gV:=λk=>if k=id then some l else m k
def sM(h:List aU):Option Nat->List aU
 |some k=>h.set k .dead
 |none=>h
theorem Ua(h:List aU)(kl:Option Nat):(sM h kl).length=h.length:=by cases kl<;>simp[sM]
theorem iF{l:List α}{x:α}(h:l[i]? =some x):i<l.length:=by
 rcases mI i l.length with h'|h'
 .exact h'
 .rw[xS h']at h;cases h
theorem Stp.make(H:fJ X w m h){id:Nat}(hid:h[id]? =some .dead)(hm:m id=none)(kl:Option Nat)(l:Loc)(o:aU)(hol:o.live){w':World}
  (hos:w'.os=w.os) (V3:w'.tape=w.tape) (hout:oG w w') (hsize:w.heap.size<=w'.heap.size)
  (hkeep:∀b,b<w.heap.size->w'.heap[b]? =w.heap[b]? ∨∃k ok lk,kl=some k/\h[k]? =some ok/\ok.live/\m k=some lk/\lk.blk=some b)
  (hblk:∀b,l.blk=some b->w.heap.size<=b∨∃k ok lk,kl=some k/\h[k]? =some ok/\ok.live/\m k=some lk/\lk.blk=some b)
  (CW:Later w m (MX X m h) w' (mX m id l) (MX X (mX m id l) ((sM h kl).set id o))->yc w' (mX m id l) (MX X (mX m id l) ((sM h kl).set id o)) id o):
  Stp X w m h w' (mX m id l) ((sM h kl).set id o):=by
 have hlt:id<h.length:=iF hid;have hk':∀k,kl=some k→¬k=id->((sM h kl).set id o)[k]? =some .dead\/h.length<=k:=by
  intro k hk hne;subst hk;rcases mI k h.length with h'|h'
  .left;simp only[sM];rw[su ah,uq h']
  .exact .inr h'
 have hat:((sM h kl).set id o)[id]? =some o:=by rw[uq (by rw[Ua];exact hlt)]
 refine H.change (λk=>k=id\/kl=some k) (by rw[oQ,Ua]) ?_ ?_ ?_ ?_ hos V3 hout hsize ?_ ?_ ?_ ?_ ?_
 .intro k hk;rw[su (by intro e;exact hk (.inl e.symm))];rcases kl with _|j;rfl;simp only[sM];rw[su (by intro e;exact hk (.inr (by rw[e])))]
 .intro k l' hk;unfold mX;rw[dn (by intro e;rw[e,hm]at hk;cases hk)];exact hk
 .intro k hk;unfold mX;rw[dn (by intro e;exact hk (.inl e))]
 .intro k hk;unfold mX;rw[dn ah];exact H.used k hk
 .intro k o' l' b hk ho hl hml hb;by_cases e:k=id
  .subst e;unfold mX at hml;rw[bW rfl]at hml;cases hml;rcases hblk b hb with h1|⟨j,ok,lk,_,h2,h3,h4,h5⟩
   .exact .inr h1
   .exact .inl ⟨j,ok,lk,h2,h3,h4,h5⟩
  .rcases hk with hk|hk
   .exact absurd hk e
   .rcases hk' k hk e with h1|h1
    .rw[ho]at h1;cases h1;exact hl.elim
    .have:=iF ho;rw[oQ,Ua]at this;omega
 .intro b hb;rcases hkeep b hb with h1|⟨j,ok,lk,h1,h2,h3,h4,h5⟩
  .exact .inl h1
  .refine .inr ⟨⟨j,ok,lk,h2,h3,h4,h5⟩,λk o' l' hk ho hl hml hb'=>hk (.inr ?_)⟩;rw[h1,H.inj j k ok o' lk l' b h2 ho h3 hl h4 hml h5 hb']
 .intro k k' o1 o2 l1 l2 b hk h1 h2 h3 h4 h5 h6 h7 h8;have yg:∀q oq,((sM h kl).set id o)[q]? =some oq->oq.live->kl=some q->q=id:=by
   intro q oq hq hlq hkl;apply ajn;intro e;rcases hk' q hkl e with h9|h9
   .rw[hq]at h9;cases h9;exact hlq.elim
   .have:=iF hq;rw[oQ,Ua]at this;omega
  have aMG:k=id:=by
   rcases hk with hk|hk
   .exact hk
   .exact yg k o1 h1 h3 hk
  subst aMG;apply ajn;intro hne;have hne':¬k'=k:=λe=>hne e.symm;have hnk:¬kl=some k':=λe=>hne' (yg k' o2 h2 h4 e);have h2':h[k']? =some o2:=by rw[su ah]at h2;rcases kl with _|j;exact h2;simp only[sM]at h2;rw[su (by intro e;exact hnk (by rw[e]))]at h2;exact h2
  have h6':m k'=some l2:=by unfold mX at h6;rw[dn hne']at h6;exact h6
  unfold mX at h5;rw[bW rfl]at h5;cases h5;rcases hblk b h7 with h9|⟨j,ok,lk,h9,h10,h11,h12,h13⟩
  .have:=abo H h2' h4 h6' h8;omega
  .have:=H.inj j k' ok o2 lk l2 b h10 h2' h11 h4 h12 h6' h13 h8;subst this;exact hnk h9
 .intro k hk h1 h2;by_cases e:k=id
  .subst e;rw[hat]at h1;cases h1;exact hol.elim
  .unfold mX;rw[dn e];exact h2
 .intro hL k o' hk ho;by_cases e:k=id
  .subst e;rw[hat]at ho;cases ho;exact CW hL
  .rcases hk with hk|hk
   .exact absurd hk e
   .rcases hk' k hk e with h1|h1
    .rw[ho]at h1;cases h1;trivial
    .have:=iF ho;rw[oQ,Ua]at this;omega
theorem Stp.write(H:fJ X w m h){o o':aU}{l:Loc}(hk:h[k]? =some o)(ho:o.live)(hm:m k=some l)(hb:l.blk=some b){w':World}
  (hos:w'.os=w.os) (V3:w'.tape=w.tape) (hout:oG w w') (hsize:w.heap.size<=w'.heap.size)
  (hkeep:∀c,c<w.heap.size->c≠b->w'.heap[c]? =w.heap[c]?)
  (CW:Later w m (MX X m h) w' m (MX X m (h.set k o'))->yc w' m (MX X m (h.set k o')) k o'):
  Stp X w m h w' m (h.set k o'):=by
 have hlt:k<h.length:=iF hk;have hat:(h.set k o')[k]? =some o':=uq hlt;refine H.change (λj=>j=k) aj (λj hj=>su ah) (λ_ _ h=>h) (λ_ _=>rfl) H.used hos V3 hout hsize ?_ ?_ ?_ (λ_ _ _ h=>h) ?_
 .rintro j oj lj c rfl h1 h2 h3 h4;rw[hm]at h3;cases h3;rw[hb]at h4;cases h4;exact .inl ⟨j,o,l,hk,ho,hm,hb⟩
 .intro c hc;by_cases e:c=b
  .subst e;refine .inr ⟨⟨k,o,l,hk,ho,hm,hb⟩,λj oj lj hj h1 h2 h3 h4=>hj (H.inj j k oj o lj l c h1 hk h2 ho h3 hm h4 hb)⟩
  .exact .inl (hkeep c hc e)
 .rintro j k' o1 o2 l1 l2 c rfl h1 h2 h3 h4 h5 h6 h7 h8;rw[hm]at h5;cases h5;by_cases e:k'=j
  .exact e.symm
  .rw[su ah]at h2;exact H.inj j k' o o2 l l2 c hk h2 ho h4 hm h6 h7 h8
 .rintro hL j oj rfl h1;rw[hat]at h1;cases h1;exact CW hL
theorem rX(cs:List α)(off:Nat)(xs:List α)(hl:off+xs.length<=cs.length)(i:Nat):
  (splice cs off xs)[i]? =if off<=i/\i<off+xs.length then xs[i-off]? else cs[i]? :=by
 unfold splice;rcases mI i off with h1|h1
 .rw[dn ah,p9 ay,tq,bW h1]
 .rw[uo ay];have e1:(cs.take off).length=off:=ay
  rw[e1];rcases mI i (off+xs.length)with h2|h2
  .rw[bW ⟨h1,h2⟩,p9 ah]
  .rw[dn ah,uo ah,yP];congr 1;omega
theorem yL(cs:List α)(off:Nat)(xs:List α)(hl:off+xs.length<=cs.length:=by omega):(splice cs off xs).length=cs.length:=by unfold splice;simp;omega
end
end
section
variable {P:Program} {X:Mu} {w:World} {m:gV} {h:List aU} {M:Mu}
theorem an4{z n:Nat}{f:Nat->List CV}{v:Value}(h:lC w M (.rd z n f) v):v.oneCell'=true:=by cases h<;>rfl
theorem dU.one{x:SC}{v:Value}(hs:dU w m M x v)(hx:x.scalar=true):v.oneCell'=true:=by cases hs with
 |c h=>cases h with|val v=>exact hx|ls _ _ _ h=>exact an4 h|lW _ _ _ h=>exact an4 h|_=>rfl
 |bot v=>cases hx
 |_=>rfl
theorem aFC{v:Value}(h:v.oneCell'=true):v.cells= #[v]:=by cases v<;>first|rfl|cases h
theorem jo.cells{a:AV}{v:Value}(hs:jo w m M a v)(ha:(kP a).all SC.scalar=true):
  nY w m M (kP a) v.cells∧∀u∈v.cells.toList,u.oneCell'=true:=by
 cases a with
 |s x=>
  have hx:x.scalar=true:=by simpa[kP]using ha
  have h1:=dU.one hs hx;rw[aFC h1];refine⟨⟨rfl,λi y hy=> ?_⟩,aD h1⟩
  match i,hy with
  |0,hy=>cases hy;exact hs
  |i+1,hy=>simp[kP]at hy
 |agg cs=>
  obtain⟨vs,rfl,hl⟩:=hs;refine⟨hl,λu hu=> ?_⟩;obtain⟨i,hi,rfl⟩:=xV hu;have hi':i<vs.size:=by simpa[Value.cells]using hi
  have hi2:i<cs.length:=by rw[<-hl.1];exact hi'
  have:=hl.2 i cs[i] (jR hi2);have h1:=dU.one this (by simp only[kP,j6]at ha;exact ha _ (zo hi2));simpa[Array.getD,hi',Value.cells]using h1
theorem agp{T:TypeId}{i:TypeInfo}(hi:P.info? T=some i){b off:Nat}{cur:Array Value}{t:TypeId}{v:Value}(hg:w.heap[b]? =some (.cells cur t (0,0)))
  (hsz:v.cells.size=i.size) (hl:off+v.cells.size<=cur.size) (h1:∀u∈v.cells.toList,u.oneCell'=true):
  (Instr.storeAt T (.pointer (some ⟨b,off,none⟩)) v).run P w=.ok () (w.setRow b (splice cur.toList off v.cells.toList).toArray):=by
 have hst:=run_storeCells_at P b off t v.cells.toList 0 cur w hg (aD hl) h1;simp only[vk]at hst;simp only[Instr.storeAt,Instr.sureAddr,storeVar,sizeOf,typeInfo,Sem.run_bind,Sem.run_pure,Result.andThen_ok,run_program,hi,hsz,ne_eq,not_true_eq_false,mJ];rw[hst];simp[splice,rH]
theorem wG{l:List Value}{i:Nat}:l.toArray.getD i undef=(l[i]?).getD undef:=by simp[Array.getD];by_cases hi:i<l.length<;>simp[hi]
theorem ng{a:Array Value}{i:Nat}:a.getD i undef=(a.toList[i]?).getD undef:=by simp[Array.getD];by_cases hi:i<a.size<;>simp[hi]
theorem Gc{cur:List Value}{off:Nat}{vs:List Value}(hl:off+vs.length<=cur.length)(hc:∀i,i<cur.length->((cur[i]?).getD undef).oneCell'=true)(h1:∀u∈vs,u.oneCell'=true):
  ∀i,i<(splice cur off vs).toArray.size->((splice cur off vs).toArray.getD i undef).oneCell'=true:=by
 intro i hi;rw[z8,yL _ _ _ hl]at hi;rw[wG,rX _ _ _ hl];split
 .rename_i hx;have:i-off<vs.length:=ah
  rw[jR this];exact h1 _ (zo this)
 .exact hc i hi
theorem UZ:∀{cs:List SC} {xs:List CV},tJ cs=some xs->cs=xs.map .c
 | [],xs,h=>by simp[tJ]at h;subst h;rfl
 | .c x::cs,xs,h=>by simp only[tJ]at h;rcases hr:tJ cs with _|ys;rw[hr]at h;cases h;rw[hr]at h;cases h;rw[UZ hr];rfl
 | .rp _::cs,xs,h=>by simp[tJ]at h
 | .sl _ _ _::cs,xs,h=>by simp[tJ]at h
 | .pb _ _::cs,xs,h=>by simp[tJ]at h
 | .pe _ _ _::cs,xs,h=>by simp[tJ]at h
 | .fn _ _::cs,xs,h=>by simp[tJ]at h
 | .bot::cs,xs,h=>by simp[tJ]at h
theorem aGM(H:fJ X w m h){T:TypeId}{p:SC}{a:AV}{pv v:Value}{bK:Eff}(hp:dU w m (MX X m h) p pv)(ha:jo w m (MX X m h) a v)
  (he:Vb P T (eB h) p a=some bK):
  ∃w',(Instr.storeAt T pv v).run P w=.ok () w'/\bK.r=fP undef/\Stp X w m h w' m (eX h bK.ws):=by
 unfold Vb at he;rcases hi:P.info? T with _|i;rw[hi]at he;cases he;rw[hi]at he;simp only at he;cases hb:(Nat.beq (kP a).length i.size&&(kP a).all SC.scalar)with
 |false=>rw[hb]at he;cases he
 | true =>
  rw[hb]at he;simp only[aY]at he;simp only[dQ]at hb;obtain⟨hsz,hsc⟩:=hb;have hsz:=eG hsz;obtain⟨hL,h1⟩:=jo.cells ha hsc;have hvs:v.cells.size=i.size:=by rw[hL.1];exact hsz
  cases p with
  | pb k off=> simp only at he;cases hg:eB h k with
   |box cs=>rw[hg]at he;simp only at he;rcases hle:Nat.ble (off+i.size) cs.length with _|_;rw[hle]at he;cases he;rw[hle]at he;simp only[aY]at he;cases he;have hle:=qN hle;cases hp with
    |pb _ _ b l hk hbk=>
     have hget:=oP hg trivial;obtain⟨l',b',t,cur,e1,e2,e3,e4,e5⟩:=H.obj k _ hget;rw[hk]at e1;cases e1;rw[hbk]at e2;cases e2;have hcl:off+v.cells.size<=cur.size:=(by rw[e4.1,hvs];exact hle);refine⟨_,agp hi e3 hvs hcl h1,rfl,?_⟩;refine Stp.write H hget trivial hk hbk rfl rfl ⟨rfl,λ_=>gy _⟩ aj (λc _ hc=>setRow_other w b c _ hc) (λkG=> ?_);refine⟨l,b,t,_,hk,hbk,setRow_heap w b cur _ t _ e3,⟨?_,λj x hx=> ?_⟩,?_⟩
     .rw[z8,yL _ _ _ (aD hcl),yL _ _ _ (by rw[<-hL.1,hvs];exact hle)];simpa using e4.1
     .rw[rX _ _ _ (by rw[<-hL.1,hvs];exact hle)]at hx;rw[wG,rX _ _ _ (aD hcl)];have hll:(kP a).length=v.cells.toList.length:=(by rw[<-hL.1];simp);rw[hll]at hx;split at hx
      .rename_i hin;rw[bW hin];have:=(hL.2 _ _ hx).later kG;rwa [ng]at this
      .rename_i hin;rw[dn hin];have:=(e4.2 _ _ hx).later kG;rwa [ng]at this
     .exact Gc (aD hcl) (λj hj=>by have:=e5 j (aD hj);rwa [ng]at this) h1
   |arr z n f=>rw[hg]at he;cases he
   |ra z1 n1 cs1=>rw[hg]at he;cases he
   |ms es1=>rw[hg]at he;cases he
   |dead=>rw[hg]at he;cases he
  | pe k j off=> simp only at he;cases hg:eB h k with
   | arr z n f=> rw[hg]at he;cases hcv:tJ (kP a)with
    |none=>rw[hcv]at he;cases he
    | some xs=> rw[hcv]at he;simp only at he;rcases hle:Nat.ble (off+i.size) z with _|_;rw[hle]at he;cases he;rw[hle]at he;simp only[aY]at he;cases he;have hle:=qN hle;have hxs:kP a=xs.map .c:=UZ hcv;cases hp with
     | pe _ _ _ b l hk hbk hj=>
      rw[VW H hg hk]at hj;have hget:=oP hg trivial;obtain⟨l',e1,e2,e3,e4,e5⟩:=H.obj k _ hget;rw[hk]at e1;cases e1;obtain⟨e6,t,cur,e7,e8,e9,e10⟩:=e5 b hbk;subst e2;have hjz:j*l.z+l.z<=l.cap*l.z:=(by rw[<-pK];exact jS _ ah);have hcl:j*l.z+off+v.cells.size<=cur.size:=(by rw[e8,hvs];omega);have hxl:xs.length=i.size:=(by rw[<-hsz,hxs];simp);refine⟨_,agp hi e7 hvs hcl h1,rfl,?_⟩;refine Stp.write H hget trivial hk hbk rfl rfl ⟨rfl,λ_=>gy _⟩ aj (λc _ hc=>setRow_other w b c _ hc) (λkG=> ?_);refine⟨l,hk,rfl,e3,e4,λb' hb'=> ?_⟩;obtain rfl:b=b':=(by rw[hbk]at hb';exact rM hb');refine⟨e6,t,_,setRow_heap w b cur _ t _ e7,?_,?_,λq hq=> ?_⟩
      .rw[z8,yL _ _ _ (aD hcl)];simpa using e8
      .exact Gc (aD hcl) (λj hj=>by have:=e9 j (aD hj);rwa [ng]at this) h1
      .obtain⟨hql,hqc⟩:=e10 q hq;have hjl:=(e10 j hj).1;unfold upd;split
       .rename_i hqj;subst hqj;refine⟨by rw[yL _ _ _];exact hql,λu x hx=> ?_⟩;rw[rX _ _ _ ah]at hx;rw[wG,rX _ _ _ (aD hcl)];have hvl:v.cells.toList.length=xs.length:=(by simp[hvs,hxl]);rw[hvl];have hu:u<l.z:=by
         split at hx
         .omega
         .rw[<-hql];exact iF hx
        split at hx
        .rename_i hin;rw[bW ah];have hs:=hL.2 (u-off) (.c x) (by rw[hxs,mW,hx];rfl);rw[ng]at hs;have e:q*l.z+u-(q*l.z+off)=u-off:=ah;rw[e];cases hs.later kG with|c hs=>exact hs
        .rename_i hin;rw[dn ah];have:=(hqc u x hx).later kG;rwa [ng]at this
       .rename_i hqj;refine⟨hql,λu x hx=> ?_⟩;have hu:u<l.z:=(by rw[<-hql];exact iF hx);rw[wG,rX _ _ _ (aD hcl)];have hvl:v.cells.toList.length=i.size:=(by simp[hvs]);rw[hvl,dn ?_]
        .have:=(hqc u x hx).later kG;rwa [ng]at this
        .rcases Vs hqj with h'|h'
         .have:q*l.z+l.z<=j*l.z:=(by rw[<-pK];exact jS _ ah);omega
         .have:j*l.z+l.z<=q*l.z:=(by rw[<-pK];exact jS _ ah);omega
   |box cs=>rw[hg]at he;cases he
   |ra z1 n1 cs1=>rw[hg]at he;cases he
   |ms es1=>rw[hg]at he;cases he
   |dead=>rw[hg]at he;cases he
  |c x=>cases he
  |own k=>cases he
  |rp cs=>cases he
  |sl k lo len=>cases he
  |fn f caps=>cases he
  |mp k=>cases he
  |fb f k off=>cases he
  |bot=>cases he
end
inductive jY{α β:Type}(R:α->β->Prop):List α->List β->Prop
 |nil:jY R [] []
 |cons {a:α} {b:β} {l:List α} {r:List β} (h:R a b) (t:jY R l r):jY R (a::l) (b::r)
theorem UL(w:World)(o:Obj):(w.alloc o).heap[w.heap.size]? =some o:=by show(w.heap.push o)[w.heap.size]? =_;simp
section
variable {P:Program} {X:Mu} {w:World} {m:gV} {h:List aU}
theorem TN(w:World)(o:Obj)(b:Nat)(hb:b<w.heap.size):(w.alloc o).heap[b]? =w.heap[b]? :=Below.heap_alloc w o b hb
theorem Stp.arV(H:fJ X w m h){id:Nat}(hid:h[id]? =some .dead)(hm:m id=none){cs:List SC}{vs:Array Value}(T:TypeId)
  (hL:nY w m (MX X m h) cs vs) (h1:∀i,i<vs.size->(vs.getD i undef).oneCell'=true):
  ∃m',Stp X w m h (w.alloc (.cells vs T)) m' (eX h [(id,.box cs)])/\dU (w.alloc (.cells vs T)) m' (MX X m' (eX h [(id,.box cs)])) (.pb id 0) (.pointer (some ⟨w.heap.size,0,none⟩)):=by
 let l:Loc:=⟨some ⟨w.heap.size,0,none⟩,0,0,some w.heap.size,0⟩
 refine⟨mX m id l,?_,.pb id 0 w.heap.size l (by simp[mX]) rfl⟩;refine Stp.make H hid hm none l (.box cs) trivial rfl rfl ⟨rfl,λ_=>gy _⟩ aj (λb hb=> .inl (TN w _ b hb)) (λb hb=> ?_) (λkG=> ?_)
 .cases hb;exact .inl (gy _)
 .exact⟨l,w.heap.size,T,vs,by simp[mX],rfl,UL w _,hL.later kG,h1⟩
theorem Stp.abA(H:fJ X w m h){id:Nat}(hid:h[id]? =some .dead)(hm:m id=none){w1:World}(hw1:w1.heap=w.heap)(hos:w1.os=w.os)(ht:w1.tape=w.tape)(ho:oG w w1)
  (kl:Option Nat) {z n cap:Nat} {f:Nat->List CV} {vs:Array Value} (T:TypeId)
  (hn:n<=cap) (hsz:vs.size=cap*z) (h1:∀i,i<vs.size->(vs.getD i undef).oneCell'=true)
  (hf:∀i,i<n->(f i).length=z∧∀(j:Nat) x,(f i)[j]? =some x->lC w (MX X m h) x (vs.getD (i*z+j) undef)):
  ∃m',Stp X w m h (w1.alloc (.cells vs T)) m' ((sM h kl).set id (.arr z n f))∧
   dU (w1.alloc (.cells vs T)) m' (MX X m' ((sM h kl).set id (.arr z n f))) (.own id) (.slice (some ⟨w.heap.size,0,none⟩) n cap):=by
 let l:Loc:=⟨some ⟨w.heap.size,0,none⟩,cap,z,some w.heap.size,n⟩
 have hsz1:w1.heap.size=w.heap.size:=by rw[hw1]
 refine⟨mX m id l,?_,.own id l (by simp[mX])⟩;refine Stp.make H hid hm kl l (.arr z n f) trivial hos ht ho (by simp[hsz1]) (λb hb=> .inl ?_) (λb hb=> ?_) (λkG=> ?_)
 .rw[TN w1 _ b (by rw[hsz1];exact hb),hw1]
 .cases hb;exact .inl (gy _)
 .refine⟨l,by simp[mX],rfl,⟨rfl,hn⟩,(λe=>by cases e),λb hb=> ?_⟩;cases hb;refine⟨rfl,T,vs,?_,hsz,h1,λi hi=>⟨(hf i hi).1,λj x hx=>((hf i hi).2 j x hx).later kG⟩⟩;rw[<-hsz1];exact UL w1 _
theorem UU{M:Mu}(cs:List Value):nY w m M (vals cs) cs.toArray:=by refine⟨by simp[vals],λi x hx=> ?_⟩;simp only[vals,mW]at hx;rcases hc:cs[i]? with _|v;rw[hc]at hx;cases hx;rw[hc]at hx;cases hx;rw[wG,hc];exact .c (.val v)
theorem foldl_set(off:Nat):∀(l:List Value) (k:Nat) (cells:Array Value),off+k+l.length<=cells.size→
  (l.zipIdx k).foldl (λ(cs:Array Value) (x:Value×Nat)=>cs.setIfInBounds (off+x.2) x.1) cells=(splice cells.toList (off+k) l).toArray
 | [],k,cells,hl=>by simp only[List.zipIdx_nil,List.foldl_nil];apply LK;simp[splice]
 |c::r,k,cells,hl=>by
  simp only[yQ]at hl;rw[List.zipIdx_cons,Py];have ih:=foldl_set off r (k+1) (cells.setIfInBounds (off+k) c) ay;rw[ih];congr 1;apply Ea;intro i;rw[rX _ _ _ ay,rX _ _ _ ay];simp only[Array.toList_setIfInBounds,yQ];by_cases h1:off+(k+1)<=i/\i<off+(k+1)+r.length
  .rw[bW h1,bW ah];have:i-(off+k)=(i-(off+(k+1)))+1:=ah;rw[this,Lj]
  .rw[dn h1];by_cases h2:i=off+k
   .subst h2;rw[bW ah,uq ay];simp
   .rw[dn ah,su ah]
theorem aGm(v:Array Value)(off:Nat)(cells:Array Value)(hl:off+v.size<=cells.size):
  (v.zipIdx.foldl (λcs (x:Value×Nat)=>cs.setIfInBounds (off+x.2) x.1) cells)=(splice cells.toList off v.toList).toArray:=by
 rw[<-Array.foldl_toList,Array.toList_zipIdx];exact foldl_set off v.toList 0 cells (aD hl)
theorem U2{M:Mu}{place:Nat->Option (Nat×Nat)}:∀{ps:List (Nat×AV)} {qs:List (Nat×Value)} {cells:List SC} {vs:Array Value} {cs':List SC},
  jY (λ(a:Nat×AV) (b:Nat×Value)=>a.1=b.1/\jo w m M a.2 b.2) ps qs->nY w m M cells vs->(∀i,i<vs.size->(vs.getD i undef).oneCell'=true)→
  vN place cells ps=some cs'→∃vs',Instr.fill place vs qs=some vs'/\nY w m M cs' vs'∧∀i,i<vs'.size->(vs'.getD i undef).oneCell'=true
 |_,_,cells,vs,cs',.nil,hL,h1,hf=>by simp only[vN,lu]at hf;subst hf;exact⟨vs,rfl,hL,h1⟩
 | (i, a)::ps,(i',v)::qs,cells,vs,cs',.cons ⟨hi,ha⟩ hr,hL,h1,hf=>by simp only at hi ha;subst hi;simp only[vN]at hf;rcases hp:place i with _|q;rw[hp]at hf;cases hf;obtain⟨off,size⟩:=q;rw[hp]at hf;simp only at hf;cases hb:(Nat.beq (kP a).length size&&Nat.ble (off+size) cells.length&&(kP a).all SC.scalar)with
  |false=>rw[hb]at hf;cases hf
  |true=>
   rw[hb]at hf;simp only[aY]at hf;simp only[dQ]at hb;obtain⟨⟨b1,b2⟩,b3⟩:=hb;have b1:=eG b1;have b2:=qN b2;obtain⟨hc,ho⟩:=jo.cells ha b3;have e1:v.cells.size=size:=(by rw[hc.1];exact b1);have hcl:off+v.cells.size<=vs.size:=(by rw[hL.1,e1];exact b2);have hcl':off+(kP a).length<=cells.length:=ah;have hL':nY w m M (splice cells off (kP a)) (splice vs.toList off v.cells.toList).toArray:=by
    refine⟨?_,λj x hx=> ?_⟩
    .rw[z8,yL _ _ _ (aD hcl),yL _ _ _ hcl'];simpa using hL.1
    .rw[rX _ _ _ hcl']at hx;rw[wG,rX _ _ _ (aD hcl)];have hll:(kP a).length=v.cells.toList.length:=(by rw[<-hc.1];simp);rw[hll]at hx;split at hx
     .rename_i hin;rw[bW hin];have:=hc.2 _ _ hx;rwa [ng]at this
     .rename_i hin;rw[dn hin];have:=hL.2 _ _ hx;rwa [ng]at this
   obtain⟨vs',r1,r2,r3⟩:=U2 hr hL' (Gc (aD hcl) (λj hj=>by have:=h1 j (aD hj);rwa [ng]at this) ho) hf;refine⟨vs',?_,r2,r3⟩;simp only[Instr.fill,hp];rw[dn (by simp[e1];omega),aGm v.cells off vs hcl];exact r1
theorem anK(z:List SC):∀(n i:Nat),i<n*z.length->(rep z n)[i]? =z[i%z.length]?
 |0,i,hi=>by simp at hi
 |n+1,i,hi=>by
  simp only[rep];rcases mI i z.length with h1|h1
  .rw[p9 h1,PG h1]
  .rw[uo h1,anK z n (i-z.length) (by rw[pK]at hi;omega)];congr 1;rw[Nat.mod_eq_sub_mod h1]
theorem OM(z:List SC):∀n,(rep z n).length=n*z.length
 |0=>by simp[rep]
 |n+1=>by simp[rep,OM z n,pK];omega
theorem ahN{M:Mu}(z:Array Value)(n:Nat)(hz:0<z.size)(h1:z.all Value.oneCell'=true):
  nY w m M (rep (vals z.toList) n) ((Array.range (n*z.size)).map (z[· %z.size]!))∧
  ∀i,i<((Array.range (n*z.size)).map (z[· %z.size]!)).size->(((Array.range (n*z.size)).map (z[· %z.size]!)).getD i undef).oneCell'=true:=by
 have hat:∀i,i<n*z.size->((Array.range (n*z.size)).map (z[· %z.size]!)).getD i undef=z[i%z.size]'(uw _ hz):=by intro i hi;have:i%z.size<z.size:=uw _ hz;simp[Array.getD,hi,this]
 refine⟨⟨by simp[OM,vals],λi x hx=> ?_⟩,λi hi=> ?_⟩
 .have hi:=iF hx;rw[OM]at hi;rw[anK _ _ _ hi]at hx;have e:(vals z.toList).length=z.size:=by simp[vals]
  rw[e]at hx hi;rw[hat i hi];simp only[vals,mW]at hx;have hlt:i%z.size<z.size:=uw _ hz;simp[hlt]at hx;rw[<-hx];exact .c (.val _)
 .simp at hi;rw[hat i hi];rw[LJ]at h1;exact h1 _ _
end
section
variable {t:TypeId}{i:TypeInfo}{z:Array Value}
section
variable {P:Program} {X:Mu} {w:World} {m:gV} {h:List aU}
theorem run_places:∀(fs:List Field),(fs.all λf=>(P.info? f.type).isSome)=true→
  (fs.mapM λf=>do pure (f.offset,<-sizeOf f.type):Sem (List (Nat×Nat))).run P w=.ok (fs.map λf=>(f.offset,P.cellsOf f.type)) w
 | [],_=>aj
 |f::fs,hf=>by simp only[wS,dQ]at hf;obtain⟨hi,hr⟩:=hf;rcases Qr:P.info? f.type with _|i;rw[Qr]at hi;cases hi;have ih:=run_places fs hr;simp only[aa6,Sem.run_bind,sizeOf,typeInfo,run_program,Result.andThen_ok,Qr,Sem.run_pure,Program.cellsOf,Vu,Lp,mH];simp only[sizeOf,typeInfo,Program.cellsOf]at ih;rw[ih];simp
theorem ahH(fs:Array Field)(hf:(fs.all λf=>(P.info? f.type).isSome)=true):
  (λi=>(fs.map λf=>(f.offset,P.cellsOf f.type))[i]?)=placeOf P fs:=by
 funext i;unfold placeOf;rw[Array.getElem?_map];rcases hfi:fs[i]? with _|f;rfl;have hlt:i<fs.size:=by
  rcases mI i fs.size with h'|h'
  .exact h'
  .rw[VJ h']at hfi;cases hfi
 have:=(LJ.1 hf) i hlt;have e:fs[i]=f:=by rw[Jo hlt]at hfi;exact rM hfi
 rw[e]at this;rcases Qr:P.info? f.type with _|j;rw[Qr]at this;cases this;simp[Program.cellsOf,Qr]
theorem FX{t:TypeId}{i:TypeInfo}{z:Value}(hi:P.info? t=some i)(hz:i.zero=some z):(zeroValue t).run P w=.ok z w:=by simp[zeroValue,typeInfo,hi,hz]
theorem AL(hi:P.info? t=some i):(sizeOf t).run P w=.ok i.size w:=by simp[sizeOf,typeInfo,hi]
theorem ahU(hz:z.all Value.oneCell'=true):∀i,i<z.toList.toArray.size->(z.toList.toArray.getD i undef).oneCell'=true:=by intro i hi;simp at hi;have:=(LJ.1 hz) i hi;simpa[Array.getD,hi]using this
theorem aGF{t:TypeId}{ps:List (Nat×AV)}{qs:Array (Nat×Value)}{bK:Eff}{M:Mu}(hq:jY (λ(a:Nat×AV) (b:Nat×Value)=>a.1=b.1/\jo w m M a.2 b.2) ps qs.toList)
  (he:ah4 P t ps=some bK):∃v,(Instr.build t qs).run P w=.ok v w/\bK.ws=[]/\bK.bs=[]/\eZ w m M bK.r v:=by
 unfold ah4 at he;rcases hi:P.info? t with _|i;rw[hi]at he;simp at he;rcases hu:P.underlying t with _|d;rw[hi,hu]at he;simp at he;rw[hi,hu]at he;cases d with
 |struct fs=>simp only at he;rcases hz:i.zero with _|zv;rw[hz]at he;cases he;rw[hz]at he;cases zv with
  |agg z=>simp only at he;cases hb:(z.all Value.oneCell'&&fs.all (λf=>(P.info? f.type).isSome))with
   |false=>rw[hb]at he;cases he
   |true=>rw[hb]at he;simp only[aY]at he;simp only[dQ]at hb;rcases hf:vN (placeOf P fs) (vals z.toList) ps with _|cs;rw[hf]at he;cases he;rw[hf]at he;cases he;obtain⟨vs',r1,r2,_⟩:=U2 hq (UU z.toList) (ahU hb.1) hf;refine⟨.agg vs',?_,rfl,rfl,vs',rfl,r2⟩;have hpl:(fs.mapM λf=>do pure (f.offset,<-sizeOf f.type):Sem (Array (Nat×Nat))).run P w=.ok (fs.map λf=>(f.offset,P.cellsOf f.type)) w:=(by rw[asq,Sem.run_map,run_places fs.toList (aD hb.2)];simp only[Result.andThen_ok];congr 1;apply LK;simp);simp only[Instr.build,Sem.run_bind,FX hi hz,Result.andThen_ok,run_underlying hu,hpl,ahH fs hb.2,Value.cells];have r1':Instr.fill (placeOf P fs) z qs.toList=some vs':=(aD r1);rw[r1'];simp
  |_=>cases he
 |array n e=>simp only at he;rcases hz:i.zero with _|zv;rw[hz]at he;cases he;rcases hj:P.info? e with _|j;rw[hz,hj]at he;cases zv<;>cases he;rw[hz,hj]at he;cases zv with
  |agg z=>simp only at he;rcases hb:z.all Value.oneCell' with _|_;rw[hb]at he;cases he;rw[hb]at he;simp only[aY]at he;rcases hf:vN (λk=>some (k*j.size,j.size)) (vals z.toList) ps with _|cs;rw[hf]at he;cases he;rw[hf]at he;cases he;obtain⟨vs',r1,r2,_⟩:=U2 hq (UU z.toList) (ahU hb) hf;refine⟨.agg vs',?_,rfl,rfl,vs',rfl,r2⟩;have r1':Instr.fill (λk=>some (k*j.size,j.size)) z qs.toList=some vs':=(aD r1);simp only[Instr.build,Sem.run_bind,FX hi hz,Result.andThen_ok,run_underlying hu,AL hj,Value.cells,r1',Sem.run_pure]
  |_=>cases he
 |_=>cases he
theorem DK{e:TypeId}(he:qJ P t=some (e,i,z)):
  P.underlying t=some (.slice e)/\P.info? e=some i/\(∃zv,i.zero=some zv/\zv.cells=z)/\z.size=i.size/\z.all Value.oneCell'=true/\0<i.size/\0<i.bytes:=by
 unfold qJ at he;rcases hu:P.underlying t with _|d;rw[hu]at he;cases he;rw[hu]at he;cases d with
 |slice e'=>simp only at he;rcases hi:P.info? e' with _|i';rw[hi]at he;cases he;rw[hi]at he;simp only at he;rcases hz:i'.zero with _|zv;rw[hz]at he;cases he;rw[hz]at he;simp only at he;cases hb:(Nat.beq zv.cells.size i'.size&&(zv.cells.all Value.oneCell')&&Nat.blt 0 i'.size&&Nat.blt 0 i'.bytes)with
  |false=>rw[hb]at he;cases he
  |true=>
   rw[hb]at he;simp only[aY]at he;cases he;simp only[dQ]at hb;refine⟨rfl,hi,⟨zv,hz,rfl⟩,eG hb.1.1.1,hb.1.1.2,?_,?_⟩
   .have:=hb.1.2;simp only[Nat.blt]at this;exact qN this
   .have:=hb.2;simp only[Nat.blt]at this;exact qN this
 |_=>cases he
theorem aH0{cs:List SC}{xs:List CV}(hx:tJ cs=some xs):xs.length=cs.length:=by rw[UZ hx];simp
theorem ag7{place:Nat->Option (Nat×Nat)}:∀{ps:List (Nat×AV)} {cells cs:List SC},vN place cells ps=some cs->cs.length=cells.length
 | [],cells,cs,h=>by simp[vN]at h;rw[h]
 | (i,a)::ps,cells,cs,h=>by simp only[vN]at h;rcases hp:place i with _|q;rw[hp]at h;cases h;rw[hp]at h;simp only at h;cases hb:(Nat.beq (kP a).length q.2&&Nat.ble (q.1+q.2) cells.length&&(kP a).all SC.scalar)with
  |false=>rw[hb]at h;cases h
  |true=>rw[hb]at h;simp only[aY]at h;simp only[dQ]at hb;have h1:=eG hb.1.1;have h2:=qN hb.1.2;rw[ag7 h,yL _ _ _]
theorem am4(H:fJ X w m h){id:Nat}(hid:h[id]? =some .dead)(hm:m id=none){t:TypeId}{n:Nat}{ps:List (Nat×AV)}{qs:Array (Nat×Value)}{bK:Eff}
  (hq:jY (λ(a:Nat×AV) (b:Nat×Value)=>a.1=b.1/\jo w m (MX X m h) a.2 b.2) ps qs.toList) (he:Ou P t id n ps=some bK):
  ∃v w' m',(Instr.buildSlice t n qs).run P w=.ok v w'/\Stp X w m h w' m' (eX h bK.ws)/\eZ w' m' (MX X m' (eX h bK.ws)) bK.r v:=by
 unfold Ou at he;rcases jF:qJ P t with _|q;rw[jF]at he;cases he;obtain⟨e,i,z⟩:=q;rw[jF]at he;simp only at he;obtain⟨hu,hi,⟨zv,hz,hzc⟩,hzs,hz1,hpos,Bj⟩:=DK jF;rcases hb:Nat.ble (n*i.size) 16777216 with _|_;rw[hb]at he;cases he;rw[hb]at he;simp only[aY]at he;have hb:=qN hb;rcases hf:vN (λk=>some (k*i.size,i.size)) (rep (vals z.toList) n) ps with _|cs;rw[hf]at he;cases he;rw[hf]at he;simp only at he;rcases hx:tJ cs with _|xs;rw[hx]at he;cases he;rw[hx]at he;cases he;obtain⟨hr,hr1⟩:=ahN (w:=w) (m:=m) (M:=MX X m h) z n ah hz1;obtain⟨vs',r1,r2,r3⟩:=U2 hq hr hr1 hf;have hlen:cs.length=n*i.size:=by rw[ag7 hf,OM];simp[vals,hzs]
 have hcx:=UZ hx
 obtain⟨m',hS,hs⟩:=Stp.abA H hid hm (w1:=w) rfl rfl rfl (oG.same _) none (z:=i.size) (n:=n) (cap:=n) (f:=λj=>(xs.drop (j*i.size)).take i.size) (vs:=vs') e (gy _)
  (by rw[r2.1,hlen]) r3 (λq hq'=>by
   have hqz:q*i.size+i.size<=n*i.size:=(by rw[<-pK];exact jS _ ah);have hxl:xs.length=n*i.size:=(by rw[aH0 hx,hlen]);refine⟨ay,λj x hx'=> ?_⟩;have hj:j<i.size:=(by have:=iF hx';simp at this;omega);rw[tq,bW hj,yP]at hx';have:=r2.2 (q*i.size+j) (.c x) (by rw[hcx,mW,hx'];rfl);cases this with
   |c hc=>exact hc)
 refine⟨_,_,m',?_,hS,hs⟩;have hzero:∀zz:Array Value,zz=(if n*i.size=0 then #[]else z)->((Array.range (n*i.size)).map (zz[· %zz.size]!))=((Array.range (n*z.size)).map (z[· %z.size]!)):=by
  intro zz hzz;rw[hzs];by_cases h0:n*i.size=0
  .rw[h0];simp
  .rw[dn h0]at hzz;rw[hzz,hzs]
 simp only[Instr.buildSlice,Sem.run_bind,run_underlying hu,Result.andThen_ok,AL hi];rw[dn ah];by_cases h0:n*i.size=0
 .rw[bW h0];simp only[Sem.run_bind,Sem.run_pure,Result.andThen_ok];rw[hzero #[] (by rw[bW h0]),r1];simp[newRow]
 .rw[dn h0];simp only[Sem.run_bind,Sem.run_pure,Result.andThen_ok,FX hi hz,hzc];rw[hzero z (by rw[dn h0]),r1];simp[newRow]
theorem aHD(H:fJ X w m h){id:Nat}(hid:h[id]? =some .dead)(hm:m id=none){t:TypeId}{k1 k2:IntKind}{l c:Int}{bK:Eff}
  (he:abw P t id l c=some bK) (hc:∀q∈bK.bs,q=true):
  ∃v w' m',(Instr.makeSlice t (.int k1 l) (.int k2 c)).run P w=.ok v w'/\Stp X w m h w' m' (eX h bK.ws)/\eZ w' m' (MX X m' (eX h bK.ws)) bK.r v:=by
 unfold abw at he;rcases jF:qJ P t with _|q;rw[jF]at he;cases he;obtain⟨e,i,z⟩:=q;rw[jF]at he;cases he;obtain⟨hu,hi,⟨zv,hz,hzc⟩,hzs,hz1,hpos,Bj⟩:=DK jF;obtain⟨c1,c2,c3,c4⟩:0<=l/\l<=c/\c<=9223372036854775807/\c*i.bytes<=140737488355328:=iX (hc _ aj);obtain⟨hr,hr1⟩:=ahN (w:=w) (m:=m) (M:=MX X m h) z c.toNat ah hz1;have hat:∀q,q<c.toNat*z.size->((Array.range (c.toNat*z.size)).map (z[· %z.size]!)).getD q undef=z[q%z.size]'(uw _ ah):=by intro q hq;have:q%z.size<z.size:=uw _ ah;simp[Array.getD,hq,this]
 obtain⟨m',hS,hs⟩:=Stp.abA H hid hm (w1:=w) rfl rfl rfl (oG.same _) none (z:=i.size) (n:=l.toNat) (cap:=c.toNat) (f:=λ_=>z.toList.map .val)
  (vs:=((Array.range (c.toNat*z.size)).map (z[· %z.size]!))) e ah (by simp[hzs]) hr1 (λq hq'=>by
   refine⟨by simp[hzs],λj x hx=> ?_⟩;rw[mW]at hx;rcases hzj:z.toList[j]? with _|v;rw[hzj]at hx;cases hx;rw[hzj]at hx;cases hx;have hj:j<z.size:=(by have:=iF hzj;simpa using this);have hqz:q*i.size+i.size<=c.toNat*i.size:=(by rw[<-pK];exact jS _ ah);rw[hat _ (by rw[hzs]at hj⊢;omega)];have hmod:(q*i.size+j)%z.size=j:=(by rw[<-hzs,Ec,abh,PG hj]);have hv:v=z[j]:=(by simp[hj]at hzj;exact hzj.symm);have:z[(q*i.size+j)%z.size]'(uw _ ah)=v:=(by rw[hv];congr 1);rw[this]
   exact .val v)
 refine⟨_,_,m',?_,hS,hs⟩;have wl:IntKind.i64.wrap l=l:=IntWalk.i64_in _ ah;have wc:IntKind.i64.wrap c=c:=IntWalk.i64_in _ ah;have hb:(i.bytes:Int)*c<=281474976710656:=by rw[Int.mul_comm];omega
 have hzero:∀zz:Array Value,zz=(if c.toNat*i.size=0 then #[]else z)->((Array.range (c.toNat*i.size)).map (zz[· %zz.size]!))=((Array.range (c.toNat*z.size)).map (z[· %z.size]!)):=by
  intro zz hzz;rw[hzs];by_cases h0:c.toNat*i.size=0
  .rw[h0];simp
  .rw[dn h0]at hzz;rw[hzz,hzs]
 have hti:(typeInfo e).run P w=.ok i w:=by simp[typeInfo,hi]
 simp only[Instr.makeSlice,Sem.run_bind,run_underlying hu,Result.andThen_ok,asInt,asIntOf,Sem.run_pure,hti,wl,wc];rw[dn ay];simp only[Sem.run_bind,Result.andThen_ok,run_askRoom,AL hi];by_cases h0:c.toNat*i.size=0
 .rw[bW h0];simp only[Sem.run_bind,Sem.run_pure,Result.andThen_ok];rw[hzero #[] (by rw[bW h0])];simp[newRow]
 .rw[dn h0];simp only[Sem.run_bind,Sem.run_pure,Result.andThen_ok,FX hi hz,hzc];rw[hzero z (by rw[dn h0])];simp[newRow]
end
end
section
variable {z:Nat}{t u e:TypeId}{i:TypeInfo}{ty e':TypeId}{n k:Nat}{x s:SC}{v sv xv:Value}{bK:Eff}
section
variable {P:Program} {X:Mu} {w:World} {m:gV} {h:List aU}
def Src(w:World)(M:Mu)(z k:Nat)(g:Nat->List CV)(v:Value)(news:List Value):Prop:=
 (∃a c,v=.slice a k c/\(k=0∨∃b off,a=some ⟨b,off,none⟩∧∀(j:Nat) u,news[j]? =some u->w.cell? ⟨b,off+j,none⟩=some u))∧
 news.length=k*z/\(∀u∈news,u.oneCell'=true)∧∀i,i<k->(g i).length=z∧∀(j:Nat) x,(g i)[j]? =some x->lC w M x ((news[i*z+j]?).getD undef)
theorem aaC{w:World}{M:Mu}{g:Nat->List CV}{a:Option Addr}{c:Nat}:Src w M z 0 g (.slice a 0 c) []:=
 ⟨⟨a,c,rfl,.inl rfl⟩,aj,aj,λi hi=>ah⟩
theorem aq3(f:Nat->Value)(n:Nat)(j:Nat)(hj:j<n:=by omega):(((List.range n).map f)[j]?).getD undef=f j:=by simp[hj]
theorem agA(H:fJ X w m h){z k:Nat}{g:Nat->List CV}{cs:List Bool}{x:SC}{v:Value}(hx:dU w m (MX X m h) x v)
  (hs:Ct z (eB h) x=some (k,g,cs)) (hc:∀q∈cs,q=true):∃news,Src w (MX X m h) z k g v news:=by
 unfold Ct at hs;cases x with
 | sl k' lo len=> simp only at hs;cases hg:eB h k' with
  |arr z' n f=>rw[hg]at hs;simp only at hs;rcases hb:Nat.beq z z' with _|_;rw[hb]at hs;cases hs;rw[hb]at hs;have hb:=eG hb;subst hb;simp only[aY]at hs;cases hs;have hle:lo+k<=n:=iX (hc _ aj);cases hx with
   |sl _ _ _ l a c hk h0 h1 h2 h3=>
    by_cases hk0:k=0
    .subst hk0;exact⟨[],aaC⟩
    .obtain⟨b,hb,ha⟩:=h1 hk0;obtain⟨l',e1,e2,e3,e4,e5⟩:=H.obj k' _ (oP hg trivial);rw[hk]at e1;cases e1;obtain⟨e6,T,vs,e7,e8,e9,e10⟩:=e5 b hb;subst e2;have hz:(lo+k)*l.z<=vs.size:=(by rw[e8];exact jS _ ah);rw[nV]at hz;refine⟨(List.range (k*l.z)).map (λj=>vs.getD (lo*l.z+j) undef),⟨a,c,rfl,.inr ⟨b,lo*l.z,ha,λj u hu=> ?_⟩⟩,aj,λu hu=> ?_,λi hi=> ?_⟩
     .have hj:j<k*l.z:=(by have:=iF hu;simpa using this);simp[hj]at hu;rw[cell_of_row w b _ vs T _ e7];have:lo*l.z+j<vs.size:=ah;simp[Array.getD,this]at hu⊢;exact hu
     .simp only[qw,zZ]at hu;obtain⟨j,hj,rfl⟩:=hu;exact e9 _ ah
     .obtain⟨q1,q2⟩:=e10 (lo+i) ah;refine⟨q1,λj y hy=> ?_⟩;have hj:j<l.z:=(by rw[<-q1];exact iF hy);have hiz:i*l.z+l.z<=k*l.z:=(by rw[<-pK];exact jS _ ah);rw[aq3 _ _ _];have:=q2 j y hy;rw[nV]at this;rw[<-wN];exact this
  |box cs=>rw[hg]at hs;cases hs
  |ra z1 n1 cs1=>rw[hg]at hs;cases hs
  |ms es1=>rw[hg]at hs;cases hs
  |dead=>rw[hg]at hs;cases hs
 | c x => simp only[Ml]at hs;cases x with
  |rd z' n f=>simp only at hs;rcases hb:Nat.beq z z' with _|_;rw[hb]at hs;cases hs;rw[hb]at hs;have hb:=eG hb;subst hb;simp only[aY]at hs;cases hs;cases hx with
   |c hx=>cases hx with
    |qm _ _ a cap=>exact⟨[],aaC⟩
    |rd _ _ _ b off cap c hb hs hn hl hcell h1 iN=>
     refine⟨(List.range (k*z)).map c,⟨_,cap,rfl,.inr ⟨b,off,rfl,λj u hu=> ?_⟩⟩,aj,λu hu=> ?_,λi hi=>⟨hl i hi,λj y hy=> ?_⟩⟩
     .have hj:j<k*z:=(by have:=iF hu;simpa using this);simp[hj]at hu;rw[hcell j hj,hu]
     .simp only[qw,zZ]at hu;obtain⟨j,hj,rfl⟩:=hu;exact h1 j hj
     .have hj:j<z:=(by rw[<-hl i hi];exact iF hy);have hiz:i*z+z<=k*z:=(by rw[<-pK];exact jS _ ah);rw[aq3 _ _ _];exact iN i j y hi hy
  |e0=>simp only at hs;cases hs;cases hx with|c hx=>cases hx with|e0 a=>exact⟨[],aaC⟩
  | val u=> cases hx with
   |c hx=>cases hx;cases v with
    |slice a n c=>cases a with
     |none=>cases n with
      |zero=>simp only at hs;cases hs;exact⟨[],aaC⟩
      |succ n=>cases hs
     |some a=>cases hs
    |_=>cases hs
  |ls t xs=>cases hs
  |lW t xs=>cases hs
 |_=>cases hs
theorem ahj(z k:Nat){g:Nat->List CV}{v:Value}{news:List Value}{M:Mu}(hs:Src w M z k g v news){w1:World}(hw:w1.heap=w.heap):
  (Builtin.firstCells z k v).run P w1=.ok news.toArray w1:=by
 obtain⟨⟨a,c,rfl,ha⟩,hl,_⟩:=hs;rcases ha with rfl|⟨b,off,rfl,hn⟩
 .have:news=[]:=Jf (aD hl);subst this;cases a<;>simp[Builtin.firstCells,loadCells,loadCellsFrom]
 .refine run_firstCells_some w1 z k ⟨b,off,none⟩ k c news hl (λj v hv=> ?_);rw[addr_add];have:w1.cell? ⟨b,off+j,none⟩=w.cell? ⟨b,off+j,none⟩:=World.cell?_of_block (by rw[hw]);rw[this];exact hn j v hv
theorem aae(z k:Nat){g:Nat->List CV}{v:Value}{news:List Value}{M:Mu}(hs:Src w M z k g v news){w1:World}:(Builtin.lenOf v).run P w1=.ok k w1:=by obtain⟨⟨a,c,rfl,ha⟩,_⟩:=hs;simp[Builtin.lenOf]
theorem ap7{t u e:TypeId}{i:TypeInfo}{zv:Value}{ty:TypeId}(hu:P.underlying t=some (.slice e)){e':TypeId}(hu':P.underlying u=some (.slice e'))(hi:P.info? e=some i)(hz:i.zero=some zv)
  {base:Option Addr} {n cap k:Nat} {x:Value} {olds news:List Value} {g:Nat->List CV} {M:Mu} (hs:Src w M i.size k g x news)
  (ho:∀w1:World,w1.heap=w.heap->(Builtin.firstCells i.size n (.slice base n cap)).run P w1=.ok olds.toArray w1)
  (hgr:cap<n+k) (h63:n+k<=9223372036854775807) (hfit:Builtin.nextslicecap (n+k) cap*i.bytes<=281474976710656):
  (Builtin.append_ #[t,u] ty #[.slice base n cap,x]).run P w=
   .ok (.slice (some ⟨w.heap.size,0,none⟩) (n+k) (grownCap w (n+k) cap e))
    (w.drew.alloc (.cells (olds.toArray++news.toArray++Builtin.zeroCells zv.cells (grownCap w (n+k) cap e-(n+k))) e)):=by
 have hn:¬(n+k<=cap):=ah
 have h63':¬(9223372036854775807<((n:Int)+(k:Int))):=ah
 have h48':¬(281474976710656<Builtin.nextslicecap (n+k) cap*i.bytes):=ah
 have hf:=ahj (P:=P) i.size k hs (w1:=w.drew) rfl;have hfo:=ho w.drew rfl;have hl:=aae (P:=P) i.size k hs (w1:=w);simp[Builtin.append_,run_underlying hu,run_underlying hu',sizeOf,typeInfo,zeroValue,hi,hz,hl,hn,h63',h48',Question.forced,hf,hfo,newRow,grownCap];congr 2;apply LK;simp[rH]
theorem ahM(hu:P.underlying t=some (.slice e))(hu':P.underlying u=some (.slice e'))(hi:P.info? e=some i)
  {b cap:Nat} {x:Value} {news:List Value} {g:Nat->List CV} {M:Mu} (hs:Src w M i.size k g x news) {cur:Array Value} {T:TypeId} (hg:w.heap[b]? =some (.cells cur T (0,0)))
  (hroom:n+k<=cap) (hfit:n*i.size+news.length<=cur.size):
  (Builtin.append_ #[t,u] ty #[.slice (some ⟨b,0,none⟩) n cap,x]).run P w=
   .ok (.slice (some ⟨b,0,none⟩) (n+k) cap) (w.setRow b (splice cur.toList (n*i.size) news).toArray):=by
 have hf:=ahj (P:=P) i.size k hs (w1:=w) rfl;have hl:=aae (P:=P) i.size k hs (w1:=w);have hst:=run_storeCells_at P b (n*i.size) T news 0 cur w hg (aD hfit) hs.2.2.1;simp only[vk]at hst;simp[Builtin.append_,run_underlying hu,run_underlying hu',sizeOf,typeInfo,hi,hl,hroom,hf,Addr.add_lit,hst,splice,rH]
theorem aqa(hu:P.underlying t=some (.slice e))(hu':P.underlying u=some (.slice e'))(hi:P.info? e=some i)
  {base:Option Addr} {x:Value} {news:List Value} {g:Nat->List CV} {M:Mu} (hs:Src w M i.size 0 g x news):
  (Builtin.append_ #[t,u] ty #[.slice base 0 0,x]).run P w=.ok (.slice base 0 0) w:=by
 have hf:=ahj (P:=P) i.size 0 hs (w1:=w) rfl;have hl:=aae (P:=P) i.size 0 hs (w1:=w);have hn:news=[]:=Jf (aD hs.2.1);subst hn;cases base<;>simp[Builtin.append_,run_underlying hu,run_underlying hu',sizeOf,typeInfo,hi,hl,hf,storeCells]
theorem aHg(H:fJ X w m h){f:Nat->List CV}{cs:List Bool}{ws:List (Nat×aU)}(hs:dU w m (MX X m h) s v)
  (hd:Bh z (eB h) s=some (n,f,cs,ws)) (hc:∀q∈cs,q=true):
  ∃ base cap kl,v=.slice base n cap/\(∀id o,eX h (ws++ [(id,o)])=(sM h kl).set id o)∧
   ((n=0/\cap=0)∨∃k ok l b T vs,kl=some k/\h[k]? =some ok/\ok.live/\m k=some l/\l.blk=some b/\l.cap=cap/\l.z=z/\l.base=base/\base=some ⟨b,0,none⟩/\n<=cap∧
    w.heap[b]? =some (.cells vs T (0,0))/\vs.size=cap*z/\(∀i,i<vs.size->(vs.getD i undef).oneCell'=true)∧
    ∀i,i<n->(f i).length=z∧∀(j:Nat) x,(f i)[j]? =some x->lC w (MX X m h) x (vs.getD (i*z+j) undef)):=by
 unfold Bh at hd;cases s with
 |own k=>simp only at hd;cases hg:eB h k with
   |arr z' n' f'=>rw[hg]at hd;simp only at hd;rcases hb:Nat.beq z z' with _|_;rw[hb]at hd;cases hd;rw[hb]at hd;have hb:=eG hb;subst hb;simp only[aY]at hd;cases hd;cases hs with|own _ l hk=>have hln:=VW H hg hk;have hget:=oP hg trivial;obtain⟨l',e1,e2,e3,e4,e5⟩:=H.obj k _ hget;rw[hk]at e1;cases e1;refine⟨l.base,l.cap,some k,by rw[hln],λid o=>rfl,?_⟩;rcases hbl:l.blk with _|b;left;have:=e4 hbl;omega;right;obtain⟨e6,T,vs,e7,e8,e9,e10⟩:=e5 b hbl;refine⟨k,_,l,b,T,vs,rfl,hget,trivial,hk,hbl,rfl,e2,rfl,e6,e3.2,e7,e8,e9,e10⟩
   |box cs=>rw[hg]at hd;cases hd
   |ra z1 n1 cs1=>rw[hg]at hd;cases hd
   |ms es1=>rw[hg]at hd;cases hd
   |dead=>rw[hg]at hd;cases hd
 | c x => simp only[acd]at hd;cases x with
  |e0=>simp only at hd;cases hd;cases hs with|c hs=>cases hs with|e0 a=>exact⟨a,0,none,rfl,λ_ _=>rfl,.inl ⟨rfl,rfl⟩⟩
  | val u=> cases hs with
   | c hs=> cases hs;cases v with
    |slice a n' c=>cases a with
     |none=>cases n' with
      |zero=>cases c with
       |zero=>simp only at hd;cases hd;exact⟨none,0,none,rfl,λ_ _=>rfl,.inl ⟨rfl,rfl⟩⟩
       |succ c=>cases hd
      |succ n'=>cases hd
     |some a=>cases hd
    |_=>cases hd
  |rd z n f=>cases hd
  |ls t xs=>cases hd
  |lW t xs=>cases hd
 |_=>cases hd
theorem agV(H:fJ X w m h){g:Nat->List CV}{cs:List Bool}(hx:dU w m (MX X m h) x v)
  (hs:qB z (eB h) x=some (k,g,cs)) (hc:∀q∈cs,q=true):∃news,Src w (MX X m h) z k g v news:=by
 unfold qB at hs;have hv:=dU.vw H (get:=eB h) (λ_ _=>rfl) hx;split at hs
 .rename_i j;split at hs
  .rename_i z' n f hg;rcases hb:Nat.beq z z' with _|_;rw[hb]at hs;cases hs;rw[hb]at hs;simp only[aY]at hs;cases hs;simp only[Go.AM.vw,hg]at hv;have:=agA (z:=z) (k:=k) (cs:=[decide (0+k<=k)]) (g:=λi=>g (0+i)) H hv (by simp only[Ct,hg,hb,aY]) aj;simpa using this
  .cases hs
 .rename_i t xs;cases hb:Nat.beq z (wd t)with
  |false=>rw[hb]at hs;cases hs
  |true=>rw[hb]at hs;simp only[aY]at hs;cases hs;simp only[Go.AM.vw]at hv;exact agA (cs:=[]) H hv (by simp only[Ct,Ml,hb,aY]) aj
 .exact agA H hx hs hc
theorem aqt{M:Mu}{f g:Nat->List CV}{vs:List Value}(hf:∀i,i<n->(f i).length=z∧∀(j:Nat) x,(f i)[j]? =some x->lC w M x ((vs[i*z+j]?).getD undef))
  (hg:∀i,i<k->(g i).length=z∧∀(j:Nat) x,(g i)[j]? =some x->lC w M x ((vs[(n+i)*z+j]?).getD undef)):
  ∀i,i<n+k->(app n f g i).length=z∧∀(j:Nat) x,(app n f g i)[j]? =some x->lC w M x ((vs[i*z+j]?).getD undef):=by
 intro i hi;unfold app;split
 .rename_i h;exact hf i h
 .rename_i h;have:=hg (i-n) ah;rw[show n+(i-n)=i by omega]at this;exact this
theorem aEZ(H:fJ X w m h){id:Nat}(hid:h[id]? =some .dead)(hm:m id=none)(hu':P.underlying u=some (.slice e'))
  (hs:dU w m (MX X m h) s sv) (hx:dU w m (MX X m h) x xv) (he:OO P t id (eB h) s x=some bK) (hc:∀q∈bK.bs,q=true):
  ∃v w' m',(Builtin.append_ #[t,u] ty #[sv,xv]).run P w=.ok v w'/\Stp X w m h w' m' (eX h bK.ws)/\eZ w' m' (MX X m' (eX h bK.ws)) bK.r v:=by
 unfold OO at he;rcases jF:qJ P t with _|q;rw[jF]at he;cases he;obtain⟨e,i,z⟩:=q;rw[jF]at he;simp only at he;obtain⟨hu,hi,⟨zv,hz,hzc⟩,hzs,hz1,hpos,Bj⟩:=DK jF;rcases hd:Bh i.size (eB h) s with _|q;rw[hd]at he;cases he;obtain⟨n,f,c1,w1⟩:=q;rcases hsr:qB i.size (eB h) x with _|q;rw[hd,hsr]at he;cases he;obtain⟨k,g,c2⟩:=q;rw[hd,hsr]at he;cases he;obtain⟨news,hS⟩:=agV H hx hsr (λq hq=>hc q (by simp[hq]));obtain⟨base,cap,kl,rfl,hap,hD⟩:=aHg H hs hd (λq hq=>hc q (by simp[hq]));have hbytes:(n+k)*i.bytes<=140737488355328:=iX (hc _ aj);have h63:n+k<=9223372036854775807:=by have:(n+k)*1<=(n+k)*i.bytes:=aiR _ Bj;omega
 have hnl:news.length=k*i.size:=hS.2.1;simp only[hap];by_cases hroom:n+k<=cap
 .rcases hD with⟨h0,h00⟩|⟨kk,ok,l,b,T,vs,rfl,g1,g2,g3,g4,g5,g6,g7,g8,g9,g10,g11,g12,g13⟩
  .have hk0:k=0:=ah;subst hk0;subst h0;subst h00;let l:Loc:=⟨base,0,i.size,none,0⟩
   refine⟨_,w,mX m id l,aqa hu hu' hi hS,?_,?_⟩
   .refine Stp.make H hid hm kl l _ (by exact trivial) rfl rfl (oG.same _) (gy _) (λb hb=> .inl rfl) (λb hb=>by cases hb) (λkG=> ?_);exact⟨l,by simp[mX],rfl,⟨rfl,gy _⟩,λ_=>rfl,λb hb=>by cases hb⟩
   .exact .own id l (bW rfl)
  .subst g8;have hfit:n*i.size+news.length<=vs.size:=(by rw[hnl,g11,<-nV];exact jS _ hroom);refine⟨_,_,mX m id {l with n:=n+k},ahM hu hu' hi hS g10 hroom hfit,?_,?_⟩
   .refine Stp.make H hid hm (some kk) {l with n:=n+k} _ (by exact trivial) rfl rfl ⟨rfl,λ_=>gy _⟩ aj (λc hcb=> ?_) (λc hcb=> ?_) (λkG=> ?_)
    .by_cases hcc:c=b
     .subst hcc;exact .inr ⟨kk,ok,l,rfl,g1,g2,g3,g4⟩
     .exact .inl (setRow_other w b c _ hcc)
    .have hcb:l.blk=some c:=hcb;rw[g4]at hcb;cases hcb;exact .inr ⟨kk,ok,l,rfl,g1,g2,g3,g4⟩
    .refine⟨{l with n:=n+k},bW rfl,g6,⟨rfl,by show n+k<=l.cap;omega⟩,λhh=>(by have hh:l.blk=none:=hh;rw[g4]at hh;cases hh),λc hcb=> ?_⟩;have hcb:l.blk=some c:=hcb;obtain rfl:b=c:=(by rw[g4]at hcb;exact rM hcb);refine⟨g7,T,_,setRow_heap w b vs _ T _ g10,?_,?_,?_⟩
     .rw[z8,yL _ _ _ (aD hfit),g5];simpa using g11
     .exact Gc (aD hfit) (λj hj=>by have:=g12 j (aD hj);rwa [ng]at this) hS.2.2.1
     .simp only[wG];refine aqt (λq hq=> ?_) (λq hq=> ?_)
      .obtain⟨p1,p2⟩:=g13 q hq;refine⟨p1,λj y hy=> ?_⟩;have hj:j<i.size:=(by rw[<-p1];exact iF hy);have hqz:q*i.size+i.size<=n*i.size:=(by rw[<-pK];exact jS _ ah);rw[rX _ _ _ (aD hfit),dn ah];have:=(p2 j y hy).later kG;rwa [ng]at this
      .obtain⟨p1,p2⟩:=hS.2.2.2 q hq;refine⟨p1,λj y hy=> ?_⟩;have hj:j<i.size:=(by rw[<-p1];exact iF hy);have hqz:q*i.size+i.size<=k*i.size:=(by rw[<-pK];exact jS _ ah);rw[rX _ _ _ (aD hfit),nV,bW ah];have e:n*i.size+q*i.size+j-n*i.size=q*i.size+j:=ah;rw[e];exact(p2 j y hy).later kG
   .show dU _ (mX m id {l with n:=n+k}) _ (.own id) _;rw[<-g7,<-g5];exact .own id {l with n:=n+k} (bW rfl)
 .have hgrow:cap<n+k:=ah
  have hfit:=growslice_fits hgrow hbytes
  obtain⟨olds,ho1,ho2,ho3,ho4⟩:∃olds:List Value,olds.length=n*i.size/\(∀u∈olds,u.oneCell'=true)∧
    (∀w1:World,w1.heap=w.heap->(Builtin.firstCells i.size n (.slice base n cap)).run P w1=.ok olds.toArray w1)∧
    ∀q,q<n->(f q).length=i.size∧∀(j:Nat) x,(f q)[j]? =some x->lC w (MX X m h) x ((olds[q*i.size+j]?).getD undef):=by
   rcases hD with⟨h0,h00⟩|⟨kk,ok,l,b,T,vs,rfl,g1,g2,g3,g4,g5,g6,g7,g8,g9,g10,g11,g12,g13⟩
   .subst h0;refine⟨[],aj,aj,λw1 _=> ?_,λq hq=>ah⟩;cases base<;>simp[Builtin.firstCells,loadCells,loadCellsFrom]
   .subst g8;have hle:n*i.size<=vs.size:=(by rw[g11];exact jS _ g9);refine⟨vs.toList.take (n*i.size),ay,λu hu=> ?_,λw1 hw1=> ?_,λq hq=> ?_⟩
    .obtain⟨j,hj,rfl⟩:=xV hu;have hj':j<n*i.size:=(by simp at hj;omega);have:=g12 j ah;rw[ng]at this;rw[aiF];have hj2:j<vs.toList.length:=ay;rw[jR hj2]at this;exact this
    .refine run_firstCells_some w1 i.size n ⟨b,0,none⟩ n cap _ ay (λj v hv=> ?_);rw[addr_add];have hj:j<n*i.size:=(by have:=iF hv;simp at this;omega);rw[cell_of_row w1 b _ vs T _ (by rw[hw1];exact g10)];rw[tq,bW hj]at hv;simpa using hv
    .obtain⟨p1,p2⟩:=g13 q hq;refine⟨p1,λj y hy=> ?_⟩;have hj:j<i.size:=(by rw[<-p1];exact iF hy);have hqz:q*i.size+i.size<=n*i.size:=(by rw[<-pK];exact jS _ ah);rw[tq,bW ah];have:=p2 j y hy;rwa [ng]at this
  have hrun:=ap7 (ty:=ty) hu hu' hi hz hS ho3 hgrow h63 hfit;have hge:=grownCap_ge w (n+k) cap e;generalize grownCap w (n+k) cap e=nc at hrun hge;have hsz:(olds.toArray++news.toArray++Builtin.zeroCells zv.cells (nc-(n+k))).size=nc*i.size:=by simp only[ajl,z8,size_zeroCells,hzc,hzs,ho1,hnl,<-nV];congr 1;omega
  have htl:(olds.toArray++news.toArray++Builtin.zeroCells zv.cells (nc-(n+k))).toList=olds++(news++(Builtin.zeroCells zv.cells (nc-(n+k))).toList):=aj
  obtain⟨m',hSt,iN⟩:=Stp.abA H hid hm (w1:=w.drew) rfl rfl rfl ⟨rfl,λ_=>abg _⟩ kl (z:=i.size) (n:=n+k) (cap:=nc) (f:=app n f g) (vs:=olds.toArray++news.toArray++Builtin.zeroCells zv.cells (nc - (n+k))) e hge hsz
   (λq hq=>by
    rw[ng,htl];rcases mI q olds.length with h1|h1
    .rw[p9 h1,jR h1];exact ho2 _ (zo h1)
    .rw[uo h1];rcases mI (q-olds.length) news.length with h2|h2
     .rw[p9 h2,jR h2];exact hS.2.2.1 _ (zo h2)
     .rw[uo h2];have h3:q-olds.length-news.length<(Builtin.zeroCells zv.cells (nc-(n+k))).toList.length:=(by have h5:(Builtin.zeroCells zv.cells (nc-(n+k))).toList.length=(nc-(n+k))*i.size:=(by simp only[ajk,size_zeroCells,hzc,hzs]);rw[h5];rw[hsz]at hq;have e2:(nc-(n+k))*i.size+(n+k)*i.size=nc*i.size:=(by rw[<-nV];congr 1;omega);rw[nV]at e2;omega);rw[jR h3];simp only[Lp,aso,Builtin.zeroCells,Array.getElem_map,asn,hzc];have h4:(q-olds.length-news.length)%z.size<z.size:=uw _ ah;simp only[h4,AY]
      exact(LJ.1 hz1) _ h4)
   (by
    simp only[ng,htl];refine aqt (λq hq=> ?_) (λq hq=> ?_)
    .obtain⟨p1,p2⟩:=ho4 q hq;refine⟨p1,λj y hy=> ?_⟩;have hj:j<i.size:=(by rw[<-p1];exact iF hy);have hqz:q*i.size+i.size<=n*i.size:=(by rw[<-pK];exact jS _ ah);rw[p9 ah];exact p2 j y hy
    .obtain⟨p1,p2⟩:=hS.2.2.2 q hq;refine⟨p1,λj y hy=> ?_⟩;have hj:j<i.size:=(by rw[<-p1];exact iF hy);have hqz:q*i.size+i.size<=k*i.size:=(by rw[<-pK];exact jS _ ah);rw[nV,uo ah,p9 ah];have e:n*i.size+q*i.size+j-olds.length=q*i.size+j:=ah;rw[e]
     exact p2 j y hy)
  exact⟨_,_,m',hrun,hSt,iN⟩
theorem aHw(H:fJ X w m h)(hu':P.underlying u=some (.slice e')){lo n1:Nat}
  (hs:dU w m (MX X m h) (.sl k lo n1) sv) (hx:dU w m (MX X m h) x xv) (he:PL P t (eB h) k lo n1 x=some bK) (hc:∀q∈bK.bs,q=true):
  ∃v w',(Builtin.append_ #[t,u] ty #[sv,xv]).run P w=.ok v w'/\Stp X w m h w' m (eX h bK.ws)/\eZ w' m (MX X m (eX h bK.ws)) bK.r v:=by
 unfold PL at he;rcases jF:qJ P t with _|q;rw[jF]at he;cases he;obtain⟨e,i,z⟩:=q;rw[jF]at he;simp only at he;obtain⟨hu,hi,⟨zv,hz,hzc⟩,hzs,hz1,hpos,Bj⟩:=DK jF;rcases hsr:qB i.size (eB h) x with _|q;rw[hsr]at he;cases he;obtain⟨mm,g,c2⟩:=q;rw[hsr]at he;simp only at he;split at he
 .rename_i z' n f hg;cases hb:(Nat.beq z' i.size&&Nat.beq lo 0)with
  |false=>rw[hb]at he;cases he
  | true => rw[hb]at he;rw[dQ]at hb;have hb1:=eG hb.1;have hb2:=eG hb.2;subst hb1;subst hb2;simp only[aY]at he;cases he;have hle:n1+mm<=n:=iX (hc _ aj);obtain⟨news,hS⟩:=agV H hx hsr (λq hq=>hc q (by simp[hq]));cases hs with
   | sl _ _ _ l a c hk h0 h1 h2 h3=> have hget:=oP hg trivial;obtain⟨l',e1,e2,e3,e4,e5⟩:=H.obj k _ hget;rw[hk]at e1;cases e1;obtain⟨rfl,rfl⟩:=h0 rfl;have hnl:news.length=mm*i.size:=hS.2.1;cases hbk:l.blk with
    |none=>
     have hcap:=e4 hbk;have hn0:n1=0:=ah;have hm0:mm=0:=ah;subst hn0;subst hm0;rw[hcap];refine⟨_,w,aqa hu hu' hi hS,?_,?_⟩
     .have hcp:wz 0 0 f g=f:=(by funext q;unfold wz;rw[dn ah]);have hset:h.set k (.arr i.size n f)=h:=by
       apply Ea;intro q;by_cases hq:k=q
       .subst hq;rw[uq (iF hget),hget]
       .rw[su hq]
      show Stp X w m h w m (h.set k (.arr i.size n (wz 0 0 f g)));rw[hcp,hset];exact Stp.refl H
     .refine dU.sl k 0 0 l _ 0 hk (λ_=>⟨rfl,hcap.symm⟩) (λq=>absurd rfl q) (gy _) ah
    | some b=>
     obtain⟨e6,T,vs,e7,e8,e9,e10⟩:=e5 b hbk;have hroom:n1+mm<=l.cap:=ah;have hfit:n1*i.size+news.length<=vs.size:=(by rw[hnl,e8,<-nV];exact jS _ hroom);rw[e6];refine⟨_,_,ahM hu hu' hi hS e7 hroom hfit,?_,?_⟩
     .refine Stp.write H hget trivial hk hbk rfl rfl ⟨rfl,λ_=>gy _⟩ aj (λc _ hc=>setRow_other w b c _ hc) (λkG=> ?_);refine⟨l,hk,e2,e3,e4,λb' hb'=> ?_⟩;obtain rfl:b=b':=(by rw[hbk]at hb';exact rM hb');refine⟨e6,T,_,setRow_heap w b vs _ T _ e7,?_,?_,λq hq=> ?_⟩
      .rw[z8,yL _ _ _ (aD hfit)];simpa using e8
      .exact Gc (aD hfit) (λj hj=>by have:=e9 j (aD hj);rwa [ng]at this) hS.2.2.1
      .unfold wz;split
       .rename_i hq2;obtain⟨p1,p2⟩:=hS.2.2.2 (q-n1) ah;refine⟨p1,λj y hy=> ?_⟩;have hj:j<i.size:=(by rw[<-p1];exact iF hy);have hq3:(q-n1)*i.size+i.size<=mm*i.size:=(by rw[<-pK];exact jS _ ah);have hq4:q*i.size=n1*i.size+(q-n1)*i.size:=(by rw[<-nV];congr 1;omega);rw[wG,rX _ _ _ (aD hfit),hnl,bW ah];have e:q*i.size+j-n1*i.size=(q-n1)*i.size+j:=ah;rw[e];exact(p2 j y hy).later kG
       .rename_i hq2;obtain⟨p1,p2⟩:=e10 q hq;refine⟨p1,λj y hy=> ?_⟩;have hj:j<i.size:=(by rw[<-p1];exact iF hy);have Xb:q<n1\/n1+mm<=q:=ah;have hq6:¬(n1*i.size<=q*i.size+j/\q*i.size+j<n1*i.size+mm*i.size):=by
         rcases Xb with Xb|Xb
         .have:q*i.size+i.size<=n1*i.size:=(by rw[<-pK];exact jS _ Xb);omega
         .have:(n1+mm)*i.size<=q*i.size:=jS _ Xb;rw[nV]at this;omega
        rw[wG,rX _ _ _ (aD hfit),hnl,dn hq6];have:=(p2 j y hy).later kG;rwa [ng]at this
     .refine dU.sl k 0 (n1+mm) l _ _ hk (λ_=>⟨e6.symm,rfl⟩) (λ_=>⟨b,hbk,aj⟩) hroom ah
 .cases he
theorem aFN(H:fJ X w m h){id:Nat}(hid:h[id]? =some .dead)(hm:m id=none){t u ty:TypeId}{e':TypeId}(hu':P.underlying u=some (.slice e')){s x:SC}{sv xv:Value}{bK:Eff}
  (hs:dU w m (MX X m h) s sv) (hx:dU w m (MX X m h) x xv) (he:OZ P t id (eB h) s x=some bK) (hc:∀q∈bK.bs,q=true):
  ∃v w' m',(Builtin.append_ #[t,u] ty #[sv,xv]).run P w=.ok v w'/\Stp X w m h w' m' (eX h bK.ws)/\eZ w' m' (MX X m' (eX h bK.ws)) bK.r v:=by
 unfold OZ at he;split at he
 .obtain⟨v,w',q1,q2,q3⟩:=aHw H hu' hs hx he hc;exact⟨v,w',m,q1,q2,q3⟩
 .exact aEZ H hid hm hu' hs hx he hc
end
end
section
variable {t ty:TypeId}{s x:SC}{sv:Value}{bK:Eff}{f o:Nat}{e:TypeId}{ie:TypeInfo}{n b:Nat}{lo:Option Int}{v:Value}{hi mx:Option Int}{yH hiv Mx:Option Value}
section
variable {P:Program} {X:Mu} {w:World} {m:gV} {h:List aU} {M:Mu}
theorem aGH(H : fJ X w m h){u:TypeId}{xv:Value}
    (hs:dU w m (MX X m h) s sv) (hx:dU w m (MX X m h) x xv) (he:Pj P t (eB h) s x=some bK) (hc:∀q∈bK.bs,q=true):
    ∃v w',(Builtin.copy_ #[t,u] ty #[sv,xv]).run P w=.ok v w'/\Stp X w m h w' m (eX h bK.ws)/\eZ w' m (MX X m (eX h bK.ws)) bK.r v:=by
  unfold Pj at he;rcases jF:qJ P t with _|q;rw[jF]at he;cases he;obtain⟨e,i,z⟩:=q;rw[jF]at he;simp only at he;obtain⟨hu,hi,⟨zv,hz,hzc⟩,hzs,hz1,hpos,Bj⟩:=DK jF;cases s with
  | sl k lo len => rcases hsr:qB i.size (eB h) x with _|q;rw[hsr]at he;cases he;obtain⟨mm,g,c2⟩:=q;rw[hsr]at he;simp only at he;cases hg:eB h k with
    | arr z' n f=> rw[hg]at he;simp only at he;rcases hb:Nat.beq z' i.size with _|_;rw[hb]at he;cases he;rw[hb]at he;have hb:=eG hb;subst hb;simp only[aY]at he;cases he;have hle:lo+len<=n:=iX (hc _ aj);obtain⟨news,hS⟩:=agV H hx hsr (λq hq=>hc q (by simp[hq]));cases hs with
      | sl _ _ _ l a c hk h0 h1 h2 h3=>
        have hget:=oP hg trivial;obtain⟨l',e1,e2,e3,e4,e5⟩:=H.obj k _ hget;rw[hk]at e1;cases e1;have hlen:=aae (P:=P) i.size mm hS (w1:=w)
        -- the first cells of the source
        have arL:(Builtin.firstCells i.size (min mm len) xv).run P w= .ok (news.take (min mm len*i.size)).toArray w:=by
          obtain⟨⟨a',c',rfl,ha'⟩,hnl,_⟩:=hS;rcases ha' with rfl|⟨b',off',rfl,hn'⟩
          · have:news=[]:=Jf (aD hnl);subst this;cases a'<;>simp[Builtin.firstCells,loadCells,loadCellsFrom]
          · refine run_firstCells_some w i.size (min mm len) ⟨b',off',none⟩ mm c' _ ?_ (λj v hv=> ?_)
            · rw[sD,hnl];have:min mm len*i.size<=mm*i.size:=jS _ (aiQ _ _);omega
            · rw[addr_add];have hj:=iF hv;simp at hj;rw[tq,bW ah]at hv;exact hn' j v hv
        by_cases hz0:min mm len=0
        · refine⟨_,w,?_,?_,.c (.val _)⟩
          · have hf2:(Builtin.firstCells i.size (Nat.min mm len) xv).run P w=.ok (news.take (min mm len*i.size)).toArray w:=arL;rw[hz0]at hf2;simp only[abj,abe]at hf2;have e0:Nat.min mm len=0:=hz0;rw[e0]at hf2;cases a<;>simp[Builtin.copy_,run_underlying hu,hlen,sizeOf,typeInfo,hi,e0,hf2,storeCells,goInt,hz0]
          · have:Stp X w m h w m h:=Stp.refl H;have hcp:wz lo (min mm len) f g=f:=(by funext q;unfold wz;rw[hz0,dn ah]);have hset:h.set k (.arr i.size n f)=h:=by
              apply Ea;intro q;by_cases hq:k=q
              · subst hq;rw[uq (iF hget),hget]
              · rw[su hq]
            show Stp X w m h w m (h.set k (.arr i.size n (wz lo (min mm len) f g)));rw[hcp,hset];exact this
        · have hl0:len≠0:=ah;obtain⟨b,hbk,ha⟩:=h1 hl0;obtain⟨e6,T,vs,e7,e8,e9,e10⟩:=e5 b hbk;have hnl:news.length=mm*i.size:=hS.2.1;have hmn:min mm len*i.size<=mm*i.size:=jS _ (aiQ _ _);have hln:(news.take (min mm len*i.size)).length=min mm len*i.size:=(by rw[sD,hnl];omega);have hfit:lo*i.size+(news.take (min mm len*i.size)).length<=vs.size:=(by rw[hln,e8,<-nV];exact jS _ (by have:=Nat.min_le_right mm len;omega));have W9:∀u∈news.take (min mm len*i.size),u.oneCell'=true:=λu hu=>hS.2.2.1 u (aiL hu);have hst:=run_storeCells_at P b (lo*i.size) T (news.take (min mm len*i.size)) 0 vs w e7 (aD hfit) W9;simp only[vk]at hst;refine⟨.int .i64 ((min mm len:Nat):Int),w.setRow b (splice vs.toList (lo*i.size) (news.take (min mm len*i.size))).toArray,?_,?_,.c (.val _)⟩
          · have hf2:(Builtin.firstCells i.size (Nat.min mm len) xv).run P w=.ok (news.take (min mm len*i.size)).toArray w:=arL;rw[ha,e2];simp[Builtin.copy_,run_underlying hu,hlen,sizeOf,typeInfo,hi,hf2,hst,goInt,splice,rH];first|done|rfl
          · refine Stp.write H hget trivial hk hbk rfl rfl ⟨rfl,λ_=>gy _⟩ aj (λc _ hc=>setRow_other w b c _ hc) (λkG=> ?_);refine⟨l,hk,e2,e3,e4,λb' hb'=> ?_⟩;obtain rfl:b=b':=(by rw[hbk]at hb';exact rM hb');refine⟨e6,T,_,setRow_heap w b vs _ T _ e7,?_,?_,λq hq=> ?_⟩
            · rw[z8,yL _ _ _ (aD hfit)];simpa using e8
            · exact Gc (aD hfit) (λj hj=>by have:=e9 j (aD hj);rwa [ng]at this) W9
            · unfold wz;split
              · rename_i hq2;obtain⟨p1,p2⟩:=hS.2.2.2 (q-lo) (by have:=aiQ mm len;omega);refine⟨p1,λj y hy=> ?_⟩;have hj:j<i.size:=(by rw[<-p1];exact iF hy);have hq3:(q-lo)*i.size+i.size<=min mm len*i.size:=(by rw[<-pK];exact jS _ ah);have hq4:q*i.size=lo*i.size+(q-lo)*i.size:=(by rw[<-nV];congr 1;omega);rw[wG,rX _ _ _ (aD hfit),hln,bW ah];have e:q*i.size+j-lo*i.size=(q-lo)*i.size+j:=ah;rw[e,tq,bW ah];exact(p2 j y hy).later kG
              · rename_i hq2;obtain⟨p1,p2⟩:=e10 q hq;refine⟨p1,λj y hy=> ?_⟩;have hj:j<i.size:=(by rw[<-p1];exact iF hy);rw[wG,rX _ _ _ (aD hfit),hln,dn ?_]
                · have:=(p2 j y hy).later kG;rwa [ng]at this
                · rcases mI q lo with h'|h'
                  · have:q*i.size+i.size<=lo*i.size:=(by rw[<-pK];exact jS _ ah);omega
                  · have:(lo+min mm len)*i.size<=q*i.size:=jS _ ah;rw[nV]at this;omega
    |box cs=>rw[hg]at he;cases he
    |ra z1 n1 cs1=>rw[hg]at he;cases he
    |ms es1=>rw[hg]at he;cases he
    |dead=>rw[hg]at he;cases he
  |_=>cases qB i.size (eB h) x<;>cases he
theorem aHx(H:fJ X w m h){t u ty:TypeId}{s x:SC}{sv xv:Value}{bK:Eff}
    (hs:dU w m (MX X m h) s sv) (hx:dU w m (MX X m h) x xv) (he:abt P t (eB h) s x=some bK) (hc:∀q∈bK.bs,q=true):
    ∃v w',(Builtin.copy_ #[t,u] ty #[sv,xv]).run P w=.ok v w'/\Stp X w m h w' m (eX h bK.ws)/\eZ w' m (MX X m (eX h bK.ws)) bK.r v:=
  aGH H (dU.vw H (λ_ _=>rfl) hs) hx he hc
theorem aFP(H : fJ X w m h){ts:List TypeId}
    (hs:dU w m (MX X m h) s sv) (he:O0 P t (eB h) s=some bK) (hc:∀q∈bK.bs,q=true):
    ∃v w',(Builtin.clear_ (t::ts).toArray ty #[sv]).run P w=.ok v w'/\Stp X w m h w' m (eX h bK.ws)/\eZ w' m (MX X m (eX h bK.ws)) bK.r v:=by
  unfold O0 at he;rcases jF:qJ P t with _|q;rw[jF]at he;cases he;obtain⟨e,i,z⟩:=q;rw[jF]at he;simp only at he;obtain⟨hu,hi,⟨zv,hz,hzc⟩,hzs,hz1,hpos,Bj⟩:=DK jF;cases s with
  | sl k lo len => simp only at he;cases hg:eB h k with
    | arr z' n f=>
      rw[hg]at he;simp only at he;rcases hb:Nat.beq z' i.size with _|_;rw[hb]at he;cases he;rw[hb]at he;have hb:=eG hb;subst hb;simp only[aY]at he;cases he;have hle:lo+len<=n:=iX (hc _ aj);have hunit:∀(w':World) (M':Mu),eZ w' m M' (.mY []) (.tuple #[]):=λw' M'=>⟨#[],rfl,rfl,λq a hq=>by simp at hq⟩
      cases hs with
      | sl _ _ _ l a c hk h0 h1 h2 h3=>
        have hget:=oP hg trivial;obtain⟨l',e1,e2,e3,e4,e5⟩:=H.obj k _ hget;rw[hk]at e1;cases e1;by_cases hz0:len=0
        · refine⟨.tuple #[],w,?_,?_,hunit _ _⟩
          · subst hz0;cases a<;>simp[Builtin.clear_,run_underlying hu]
          · have:Stp X w m h w m h:=Stp.refl H;have hcp:wz lo len f (λ_=>z.toList.map .val)=f:=(by funext q;unfold wz;rw[hz0,dn ah]);have hset:h.set k (.arr i.size n f)=h:=by
              apply Ea;intro q;by_cases hq:k=q
              · subst hq;rw[uq (iF hget),hget]
              · rw[su hq]
            show Stp X w m h w m (h.set k (.arr i.size n (wz lo len f (λ_=>z.toList.map .val))));rw[hcp,hset];exact this
        · obtain⟨b,hbk,ha⟩:=h1 hz0;obtain⟨e6,T,vs,e7,e8,e9,e10⟩:=e5 b hbk;obtain⟨news,hnews⟩:∃news,news=(Builtin.zeroCells z len).toList:=⟨_,rfl⟩;have hnl:news.length=len*i.size:=(by rw[hnews];simp[Builtin.zeroCells,hzs]);have hat:∀q,q<len*i.size->news[q]? =some (z[q%z.size]'(uw _ ah)):=(by intro q hq;have h2:q%z.size<z.size:=uw _ ah;have hq':q<len*z.size:=(by rw[hzs];exact hq);rw[hnews];simp[Builtin.zeroCells,hq',h2]);have W9:∀u∈news,u.oneCell'=true:=(by intro u hu;obtain⟨q,hq,rfl⟩:=xV hu;have h2:q%z.size<z.size:=uw _ ah;have:=hat q ah;rw[jR hq]at this;rw[rM this];exact(LJ.1 hz1) _ h2);have hfit:lo*i.size+news.length<=vs.size:=(by rw[hnl,e8,<-nV];exact jS _ ah);have hst:=run_storeCells_at P b (lo*i.size) T news 0 vs w e7 (aD hfit) W9;simp only[vk]at hst;refine⟨.tuple #[],w.setRow b (splice vs.toList (lo*i.size) news).toArray,?_,?_,hunit _ _⟩
          · rw[ha,e2];rw[hnews]at hst;have hzv:=FX (P:=P) (w:=w) hi hz;cases len with
            |zero=>exact absurd rfl hz0
            |succ len=>
            simp only[Builtin.clear_,List.getElem?_toArray,aa3,Sem.run_bind,run_underlying hu,Result.andThen_ok,hzv,hzc,Sem.run_pure]
            first
              |(rw[hst];simp[splice,hnews,rH];done)
              |(simp[hzv,hzc,hst,splice,hnews,rH];done)
          · refine Stp.write H hget trivial hk hbk rfl rfl ⟨rfl,λ_=>gy _⟩ aj (λc _ hc=>setRow_other w b c _ hc) (λkG=> ?_);refine⟨l,hk,e2,e3,e4,λb' hb'=> ?_⟩;obtain rfl:b=b':=(by rw[hbk]at hb';exact rM hb');refine⟨e6,T,_,setRow_heap w b vs _ T _ e7,?_,?_,λq hq=> ?_⟩
            · rw[z8,yL _ _ _ (aD hfit)];simpa using e8
            · exact Gc (aD hfit) (λj hj=>by have:=e9 j (aD hj);rwa [ng]at this) W9
            · unfold wz;split
              · rename_i hq2;refine⟨by simp[hzs],λj y hy=> ?_⟩;rw[mW]at hy;rcases hzj:z.toList[j]? with _|v;rw[hzj]at hy;cases hy;rw[hzj]at hy;cases hy;have hj:j<z.size:=(by have:=iF hzj;simpa using this);have hq3:(q-lo)*i.size+i.size<=len*i.size:=(by rw[<-pK];exact jS _ ah);have hq4:q*i.size=lo*i.size+(q-lo)*i.size:=(by rw[<-nV];congr 1;omega);rw[wG,rX _ _ _ (aD hfit),hnl,bW (by rw[hzs]at hj;omega)];have e:q*i.size+j-lo*i.size=(q-lo)*i.size+j:=ah;rw[e,hat _ (by rw[hzs]at hj;omega)];have hmod:((q-lo)*i.size+j)%z.size=j:=(by rw[<-hzs,Ec,abh,PG hj]);have hv:v=z[j]:=(by simp[hj]at hzj;exact hzj.symm);have:z[((q-lo)*i.size+j)%z.size]'(uw _ ah)=v:=(by rw[hv];congr 1);rw[Lp,this];exact .val v
              · rename_i hq2;obtain⟨p1,p2⟩:=e10 q hq;refine⟨p1,λj y hy=> ?_⟩;have hj:j<i.size:=(by rw[<-p1];exact iF hy);rw[wG,rX _ _ _ (aD hfit),hnl,dn ?_]
                · have:=(p2 j y hy).later kG;rwa [ng]at this
                · rcases mI q lo with h'|h'
                  · have:q*i.size+i.size<=lo*i.size:=(by rw[<-pK];exact jS _ ah);omega
                  · have:(lo+len)*i.size<=q*i.size:=jS _ ah;rw[nV]at this;omega
    |box cs=>rw[hg]at he;cases he
    |ra z1 n1 cs1=>rw[hg]at he;cases he
    |ms es1=>rw[hg]at he;cases he
    |dead=>rw[hg]at he;cases he
  |_=>cases he
theorem aGG(H:fJ X w m h){t ty:TypeId}{ts:List TypeId}{s:SC}{sv:Value}{bK:Eff}
    (hs:dU w m (MX X m h) s sv) (he:aaQ P t (eB h) s=some bK) (hc:∀q∈bK.bs,q=true):
    ∃v w',(Builtin.clear_ (t::ts).toArray ty #[sv]).run P w=.ok v w'/\Stp X w m h w' m (eX h bK.ws)/\eZ w' m (MX X m (eX h bK.ws)) bK.r v:=
  aFP H (dU.vw H (λ_ _=>rfl) hs) he hc
theorem anY{s:TypeId}(he:Pk P s f=some (o,t)):
    ∃fs fl i,P.underlying s=some (.struct fs)/\fs[f]? =some fl/\P.info? fl.type=some i/\i.size≠0/\o=fl.offset/\t=fl.type:=by
  unfold Pk at he;rcases hu:P.underlying s with _|d;rw[hu]at he;cases he;rw[hu]at he;cases d with
  |struct fs=>simp only at he;rcases hf:fs[f]? with _|fl;rw[hf]at he;cases he;rw[hf]at he;simp only at he;rcases hi:P.info? fl.type with _|i;rw[hi]at he;cases he;rw[hi]at he;simp only at he;cases hb:Nat.beq i.size 0 with
    |true=>rw[hb]at he;cases he
    |false=>rw[hb]at he;simp only[aX]at he;cases he;refine⟨fs,fl,i,rfl,hf,hi,λh0=> ?_,rfl,rfl⟩;rw[h0]at hb;cases hb
  |_=>cases he
theorem agz{s:TypeId}(he:Pk P s f=some (o,t))(b off:Nat):
    (Instr.fieldAt s (.pointer (some ⟨b,off,none⟩)) f).run P w=.ok (.pointer (some ⟨b,off+o,none⟩)) w:=by
  obtain⟨fs,fl,i,hu,hf,hi,h0,rfl,rfl⟩:=anY he;simp only[Instr.fieldAt,Sem.run_bind,run_underlying hu,Result.andThen_ok,hf,Instr.sureAddr,Sem.run_pure,fieldPlace,AL hi,dn h0,addr_add]
theorem aDD{s:TypeId}{x:SC}{v:Value}{f:Nat}{bK:Eff}(hx:dU w m M x v)(he:agr P s x f=some bK):
    ∃u,(Instr.fieldAt s v f).run P w=.ok u w/\bK.ws=[]/\eZ w m M bK.r u:=by
  unfold agr at he;rcases hf:Pk P s f with _|q;rw[hf]at he;cases he;obtain⟨o,t⟩:=q;rw[hf]at he;cases x with
  |pb k off=>cases he;cases hx with|pb _ _ b l hk hb=>exact⟨_,agz hf b off,rfl,.pb k (off+o) b l hk hb⟩
  |pe k i off=>cases he;cases hx with|pe _ _ _ b l hk hb hi=>refine⟨_,agz hf b _,rfl,?_⟩;rw[wN];exact .pe k i (off+o) b l hk hb hi
  | rp cs=> cases he;cases hx with
    |rp _ b off c hb hs hc h=>
      refine⟨_,agz hf b off,rfl,?_⟩;refine .rp (cs.drop o) b (off+o) (λj=>c (o+j)) hb hs (λj hj=> ?_) (λj x hx=> ?_)
      · rw[wN];exact hc _ (by simp at hj;omega)
      · rw[yP]at hx;exact h _ _ hx
  |_=>cases he
theorem aqb{t:TypeId}{cs:List SC}{vs:Array Value}{o:Nat}{v:AV}(hL:nY w m M cs vs)(hl:yu P t cs o=some v):
    ∃u,(part t vs o).run P w=.ok u w/\jo w m M v u:=by
  unfold yu at hl;rcases hu:P.underlying t with _|d;rw[hu]at hl;cases hl;rw[hu]at hl;simp only at hl;cases hag:Ac P t with
  | true=>
    rw[hag]at hl;rcases hi:P.info? t with _|i;rw[hi]at hl;simp at hl;rw[hi]at hl;simp only[aY]at hl;split at hl
    · rename_i hle;cases hl;have hagg:(isAgg t).run P w=.ok true w:=(by unfold Ac at hag;rw[hu]at hag;unfold isAgg;simp only[Sem.run_bind,run_underlying hu,Result.andThen_ok];cases d<;>simp_all);refine⟨.agg (vs.extract o (o+i.size)),?_,_,rfl,?_,λj x hx=> ?_⟩
      · simp only[part,Sem.run_bind,hagg,Result.andThen_ok,l5,AL hi,Sem.run_pure]
      · simp[hL.1];omega
      · have hj:=iF hx;simp at hj;rw[tq,bW ah,yP]at hx;have:=hL.2 _ _ hx;rw[ng]at this⊢;simpa[tq,yP,show j<i.size by omega]using this
    · cases hl
  |false=>
    rw[hag]at hl;simp only[aX]at hl;rcases hx:cs[o]? with _|x;rw[hx]at hl;cases hl;rw[hx]at hl;cases hl;have hagg:(isAgg t).run P w=.ok false w:=(by unfold Ac at hag;rw[hu]at hag;unfold isAgg;simp only[Sem.run_bind,run_underlying hu,Result.andThen_ok];cases d<;>simp_all);have ho:o<vs.size:=(by rw[hL.1];exact iF hx);refine⟨vs[o],?_,?_⟩
    · simp only[part,Sem.run_bind,hagg,Result.andThen_ok,nH,mJ,Jo ho,Sem.run_pure]
    · have:=hL.2 _ _ hx;have e:vs.getD o undef=vs[o]:=(by simp[Array.getD,ho]);rw[e]at this;exact this
theorem run_indexAt_slice{t e:TypeId}{ie:TypeInfo}(hu:P.underlying t=some (.slice e))(hi:P.info? e=some ie){k:IntKind}{i:Int}{b off n c:Nat}(hb:0<=i/\i<n):
    (Instr.indexAt t (.slice (some ⟨b,off,none⟩) n c) (.int k i)).run P w=.ok (.pointer (some ⟨b,off+i.toNat*ie.size,none⟩)) w:=by
  simp[Instr.indexAt,asIntOf,run_underlying hu,hb,sizeOf,typeInfo,hi,addr_add]
theorem run_indexAt_array(hu:P.underlying t=some (.array n e))(hi:P.info? e=some ie){k:IntKind}{i:Int}{off:Nat}(hb:0<=i/\i<n):
    (Instr.indexAt t (.pointer (some ⟨b,off,none⟩)) (.int k i)).run P w=.ok (.pointer (some ⟨b,off+i.toNat*ie.size,none⟩)) w:=by
  simp[Instr.indexAt,asIntOf,run_underlying hu,hb,sizeOf,typeInfo,hi,addr_add,Instr.sureAddr]
theorem afO{t:TypeId}{x:SC}{v:Value}{k:IntKind}{i:Int}{bK:Eff}(H:fJ X w m h)(hx:dU w m (MX X m h) x v)(he:Ov P t (eB h) x i=some bK)(hc:∀q∈bK.bs,q=true):
    ∃u,(Instr.indexAt t v (.int k i)).run P w=.ok u w/\bK.ws=[]/\eZ w m (MX X m h) bK.r u:=by
  unfold Ov at he;rcases hu:P.underlying t with _|d;rw[hu]at he;cases he;rw[hu]at he;cases d with
  | slice e => simp only at he;rcases hi:P.info? e with _|ie;rw[hi]at he;cases he;rw[hi]at he;cases x with
    |sl k' lo len=>simp only at he;cases hg:eB h k' with
      |arr z n f=>rw[hg]at he;simp only at he;rcases hbz:Nat.beq z ie.size with _|_;rw[hbz]at he;cases he;rw[hbz]at he;have hbz:=eG hbz;cases he;have hb:0<=i/\i<len:=iX (hc _ aj);cases hx with|sl _ _ _ l a c hk h0 h1 h2 h3=>have hb2:lo+len<=n:=iX (hc _ aj);obtain⟨b,hbl,rfl⟩:=h1 ah;obtain⟨l',e1,e2,_⟩:=H.obj k' _ (oP hg trivial);rw[hk]at e1;cases e1;refine⟨_,run_indexAt_slice hu hi hb,rfl,?_⟩;have e:lo*l.z+i.toNat*ie.size=(lo+i.toNat)*l.z+0:=(by rw[nV,e2,hbz];omega);rw[e];exact .pe k' (lo+i.toNat) 0 b l hk hbl (by rw[VW H hg hk];omega)
      |box cs=>rw[hg]at he;cases he
      |ra z1 n1 cs1=>rw[hg]at he;cases he
      |ms es1=>rw[hg]at he;cases he
      |dead=>rw[hg]at he;cases he
    |c x =>cases x with
      |rd z n f=>simp only at he;rcases hbz:Nat.beq z ie.size with _|_;rw[hbz]at he;cases he;rw[hbz]at he;have hbz:=eG hbz;cases he;have hb:0<=i/\i<n:=iX (hc _ aj);cases hx with|c hx=>cases hx with|qm=>omega|rd _ _ _ b off cap c hb' hs hn hl hcell h1 iN=>refine⟨_,run_indexAt_slice hu hi hb,rfl,?_⟩;rw[<-hbz];have hin:i.toNat<n:=ah;have hz:i.toNat*z+z<=n*z:=(by rw[<-pK];exact jS _ ah);refine .rp (f i.toNat) b (off+i.toNat*z) (λj=>c (i.toNat*z+j)) hb' hs (λj hj=> ?_) (λj x hx=>iN _ j x hin hx);rw[hl _ hin]at hj;rw[wN];exact hcell _ ah
      |_=>cases he
    |_=>cases he
  | array n e=> simp only at he;rcases hi:P.info? e with _|ie;rw[hi]at he;cases he;rw[hi]at he;cases x with
    |pb k' off=>cases he;have hb:0<=i/\i<n:=iX (hc _ aj);cases hx with|pb _ _ b l hk hbl=>exact⟨_,run_indexAt_array hu hi hb,rfl,.pb k' _ b l hk hbl⟩
    |pe k' j off=>cases he;have hb:0<=i/\i<n:=iX (hc _ aj);cases hx with|pe _ _ _ b l hk hbl hj=>refine⟨_,run_indexAt_array hu hi hb,rfl,?_⟩;rw[wN];exact .pe k' j _ b l hk hbl hj
    | rp cs=> cases he;have hb:0<=i/\i<n:=iX (hc _ aj);cases hx with
      |rp _ b off c hb' hs hcl h=>
        refine⟨_,run_indexAt_array hu hi hb,rfl,?_⟩;refine .rp (cs.drop (i.toNat*ie.size)) b (off+i.toNat*ie.size) (λj=>c (i.toNat*ie.size+j)) hb' hs (λj hj=> ?_) (λj x hx=> ?_)
        · rw[wN];exact hcl _ (by simp at hj;omega)
        · rw[yP]at hx;exact h _ _ hx
    |_=>cases he
  |_=>cases he
theorem aDE{t:TypeId}{x:SC}{v:Value}{k:IntKind}{i:Int}{bK:Eff}(H:fJ X w m h)(hx:dU w m (MX X m h) x v)(he:Un P t (eB h) x i=some bK)(hc:∀q∈bK.bs,q=true):
    ∃u,(Instr.indexAt t v (.int k i)).run P w=.ok u w/\bK.ws=[]/\eZ w m (MX X m h) bK.r u:=by
  have hv:=dU.vw H (get:=eB h) (λ_ _=>rfl) hx;unfold Un at he;split at he
  · rename_i k';split at he
    · rename_i e hu;split at he
      · rename_i ie z n f hi hg;rcases hbz:Nat.beq z ie.size with _|_;rw[hbz]at he;cases he;rw[hbz]at he;simp only[aY]at he;simp only[Go.AM.vw,hg]at hv;cases he;have hb:0<=i/\i<n:=iX (hc _ aj)
        have:=afO (P:=P) (t:=t) (k:=k) (i:=i) (bK:={r:=.one (.s (.pe k' (0+i.toNat) 0)),bs:=[decide (0<=i/\i<n),decide (0+n<=n)]}) H hv
          (by simp only[Ov,hu,hi,hg,hbz,aY]) ay
        simpa using this
      · cases he
    · cases he
  · simp only[Go.AM.vw]at hv;exact afO H hv he hc
  · exact afO H hx he hc
theorem aGP(hu:P.underlying t=some (.slice e))(hi:P.info? e=some ie){base:Option Addr}{c:Nat}{lo hi':Option Value}{a:Nat}
    (hlo:(lo=none/\a=0)∨∃k,lo=some (.int k (a:Int))) (hhi:(hi'=none/\b=n)∨∃k,hi'=some (.int k (b:Int))) (hab:a<=b) (h1:b<=c):
    (Instr.sliceAt t (.slice base n c) lo hi' none).run P w=.ok (.slice (if c=a then base else base.map (·.add (a*ie.size))) (b-a) (c-a)) w:=by
  have h2:(a:Int)<=(b:Int):=ah
  have h3:(b:Int)<=(c:Int):=ah
  rcases hlo with⟨rfl,rfl⟩|⟨k,rfl⟩<;>rcases hhi with⟨rfl,rfl⟩|⟨k',rfl⟩<;>
    simp[Instr.sliceAt,Instr.slice,run_underlying hu,Instr.sliceBounds,Instr.sliceBound,asIntOf,sizeOf,typeInfo,hi,h1,h2,h3,hab]
theorem aGO{t e:TypeId}{ie:TypeInfo}(hu:P.underlying t=some (.slice e))(hi:P.info? e=some ie){base:Option Addr}{n c:Nat}{k1 k2 k3:IntKind}{a b d:Nat}(hab:a<=b)(hbd:b<=d)(hdc:d<=c):
    ∃u,(Instr.sliceAt t (.slice base n c) (some (.int k1 (a:Int))) (some (.int k2 (b:Int))) (some (.int k3 (d:Int)))).run P w=.ok u w:=by
  have h2:(a:Int)<=(b:Int):=ah
  have h3:(b:Int)<=(d:Int):=ah
  have h4:(d:Int)<=(c:Int):=ah
  simp[Instr.sliceAt,Instr.slice,run_underlying hu,Instr.sliceBounds,Instr.sliceBound,asIntOf,sizeOf,typeInfo,hi,h2,h3,h4,hab,hbd,hdc]
theorem afV{t e:TypeId}{ie:TypeInfo}(hu:P.underlying t=some (.slice e))(hi:P.info? e=some ie){base:Option Addr}{n c:Nat}{lo hi':Option Value}{a b:Nat}
    (hlo:(lo=none/\a=0)∨∃k,lo=some (.int k (a:Int))) (hhi:(hi'=none/\b=n)∨∃k,hi'=some (.int k (b:Int))) (hab:a<=b) (hbn:b<=n) (hnc:n<=c):
    (Instr.sliceAt t (.slice base n c) lo hi' none).run P w=.ok (.slice (if c=a then base else base.map (·.add (a*ie.size))) (b-a) (c-a)) w:=by
  have h1:b<=c:=ah
  have h2:(a:Int)<=(b:Int):=ah
  have h3:(b:Int)<=(c:Int):=ah
  rcases hlo with⟨rfl,rfl⟩|⟨k,rfl⟩<;>rcases hhi with⟨rfl,rfl⟩|⟨k',rfl⟩<;>
    simp[Instr.sliceAt,Instr.slice,run_underlying hu,Instr.sliceBounds,Instr.sliceBound,asIntOf,sizeOf,typeInfo,hi,h1,h2,h3,hab]
theorem aFR(H:fJ X w m h)(hx:dU w m (MX X m h) x v)
    (hlo:(lo=none/\yH=none)∨∃k n,lo=some n/\yH=some (.int k n)) (hhi:(hi=none/\hiv=none)∨∃k n,hi=some n/\hiv=some (.int k n)) (hmx:(mx=none/\Mx=none)∨∃k n,mx=some n/\Mx=some (.int k n))
    (he:O5 P t (eB h) x lo hi mx=some bK) (hc:∀q∈bK.bs,q=true):
    ∃u,(Instr.sliceAt t v yH hiv Mx).run P w=.ok u w/\bK.ws=[]/\eZ w m (MX X m h) bK.r u:=by
  unfold O5 at he;rcases hu:P.underlying t with _|d;rw[hu]at he;cases he;rw[hu]at he;cases d with
  | slice e =>
    simp only at he;rcases hie:P.info? e with _|ie;rw[hie]at he;cases he;rw[hie]at he;simp only at he;rcases hmx with⟨rfl,rfl⟩|⟨km,mm,rfl,rfl⟩
    · simp only at he;cases x with
      | sl k l len=> simp only at he;cases hg:eB h k with
        |box cs=>rw[hg]at he;cases he
        |ra z1 n1 cs1=>rw[hg]at he;cases he
        |ms es1=>rw[hg]at he;cases he
        |dead=>rw[hg]at he;cases he
        | arr z n f => rw[hg]at he;simp only at he;rcases hbz:Nat.beq z ie.size with _|_;rw[hbz]at he;cases he;rw[hbz]at he;simp only[aY]at he;have hbz:=eG hbz;cases hx with
          | sl _ _ _ ll a c hk h0 h1 h2 h3=>
            obtain⟨l',e1,e2,⟨e3,e3'⟩,e4,e5⟩:=H.obj k _ (oP hg trivial);rw[hk]at e1;cases e1;have hz:ll.z=ie.size:=by rw[e2,hbz]
            -- the bounds
            have key:∀(a' b':Nat),((yH=none/\a'=0)∨∃k,yH=some (.int k (a':Int)))->((hiv=none/\b'=len)∨∃k,hiv=some (.int k (b':Int)))->a'<=b'->(b'<=len\/l=0/\b'<=n)→
                ∃u,(Instr.sliceAt t (.slice a len c) yH hiv none).run P w=.ok u w/\dU w m (MX X m h) (.sl k (l+a') (b'-a')) u:=by
              intro a' b' ha hb hab atU;have hbl:b'<=c:=by
                rcases atU with q|⟨q1,q2⟩
                · omega
                · have:=(h0 q1).2;omega
              refine⟨_,aGP hu hie ha hb hab hbl,?_⟩;refine .sl k (l+a') (b'-a') ll _ _ hk (λh00=> ?_) (λhne=> ?_) ah ah
              · have hl0:l=0:=ah;have ha0:a'=0:=ah;obtain⟨q1,q2⟩:=h0 hl0;subst ha0;refine⟨?_,ah⟩;rw[<-q1];split
                · rfl
                · cases a<;>simp[Addr.add]
              · have hbb:∃b,ll.blk=some b/\a=some ⟨b,l*ll.z,none⟩:=by
                  by_cases aL3:len=0
                  · rcases atU with q|⟨q1,q2⟩
                    · omega
                    · rcases hbk:ll.blk with _|b;have:=e4 hbk;omega;exact⟨b,rfl,by rw[(h0 q1).1,(e5 b hbk).1,q1,abj]⟩
                  · exact h1 aL3
                obtain⟨b,hb1,hb2⟩:=hbb;refine⟨b,hb1,?_⟩;rw[dn ah,hb2,Vu,addr_add,nV,hz]
            rcases hlo with⟨rfl,rfl⟩|⟨k1,x1,rfl,rfl⟩
            · simp only at he;cases he;rcases hhi with⟨rfl,rfl⟩|⟨k2,x2,rfl,rfl⟩
              · have hb:(0:Int)<=(len:Int)/\(len:Int)<=len:=iX (hc _ aj);obtain⟨u,hr,hs⟩:=key 0 len (.inl ⟨rfl,rfl⟩) (.inl ⟨rfl,rfl⟩) ah (.inl ah);exact⟨u,hr,rfl,by simpa[eZ,jo]using hs⟩
              · have hb:(0:Int)<=x2/\x2<=len:=iX (hc _ aj);obtain⟨u,hr,hs⟩:=key 0 x2.toNat (.inl ⟨rfl,rfl⟩) (.inr ⟨k2,by rw[Cu hb.1]⟩) ah (.inl ah);exact⟨u,hr,rfl,by simpa[eZ,jo]using hs⟩
            · simp only at he;cases he;rcases hhi with⟨rfl,rfl⟩|⟨k2,x2,rfl,rfl⟩
              · have hb:0<=x1/\x1<=(len:Int)/\(len:Int)<=((ajN l n len:Nat):Int):=iX (hc _ (.head _));obtain⟨u,hr,hs⟩:=key x1.toNat len (.inr ⟨k1,by rw[Cu hb.1]⟩) (.inl ⟨rfl,rfl⟩) ah (.inl (gy _));exact⟨u,hr,rfl,by simpa[eZ,jo]using hs⟩
              · have hb:0<=x1/\x1<=x2/\x2<=((ajN l n len:Nat):Int):=iX (hc _ (.head _));have hb':x2.toNat<=len\/l=0/\x2.toNat<=n:=(by obtain⟨q1,q2,q3⟩:=hb;cases l with|zero=>exact .inr ⟨rfl,by have:x2<=(n:Int):=q3;omega⟩|succ l=>exact .inl (by have:x2<=(len:Int):=q3;omega));obtain⟨u,hr,hs⟩:=key x1.toNat x2.toNat (.inr ⟨k1,by rw[Cu hb.1]⟩) (.inr ⟨k2,by rw[Cu ah]⟩) ah hb';exact⟨u,hr,rfl,by simpa[eZ,jo]using hs⟩
      | c x => cases x with
        | rd z n f=>
          simp only at he;rcases hbz:Nat.beq z ie.size with _|_;rw[hbz]at he;cases he;rw[hbz]at he;simp only[aY]at he;have hbz:=eG hbz
          have key:∀(a' b':Nat),((yH=none/\a'=0)∨∃k,yH=some (.int k (a':Int)))->((hiv=none/\b'=n)∨∃k,hiv=some (.int k (b':Int)))->a'<=b'->b'<=n→
                ∃u,(Instr.sliceAt t v yH hiv none).run P w=.ok u w∧∀g:Nat->List CV,(∀i,g i=f (a'+i))->dU w m (MX X m h) (.c (.rd z (b'-a') g)) u:=by
            intro a' b' ha hb hab hbl;cases hx with
            | c hx=> cases hx with
              |qm _ _ a cap=>refine⟨_,afV hu hie ha hb hab hbl (zu _),λg hg=> ?_⟩;have:b'-a'=0:=ah;rw[this];exact .c (.qm z g _ _)
              | rd _ _ _ b off cap c hb' hs hn hl hcell h1 iN=>
                refine⟨_,afV hu hie ha hb hab hbl hn,λg hg=> ?_⟩;by_cases h00:b'-a'=0
                · rw[h00];exact .c (.qm z g _ _)
                · rw[dn ah,Vu,addr_add,<-hbz];have hz2:b'*z<=n*z:=jS _ hbl;have hz3:(b'-a')*z+a'*z=b'*z:=(by rw[<-nV];congr 1;omega);refine .c (.rd z (b'-a') g b (off+a'*z) (cap-a') (λj=>c (a'*z+j)) hb' hs ah (λi hi=> ?_) (λj hj=> ?_) (λj hj=>h1 _ ah) (λi j x hi hx=> ?_))
                  · rw[hg];exact hl _ ah
                  · rw[wN];exact hcell _ ah
                  · rw[hg]at hx;have:=iN (a'+i) j x ah hx;rw[nV,wN]at this;exact this
          rcases hlo with⟨rfl,rfl⟩|⟨k1,x1,rfl,rfl⟩
          · simp only at he;cases he;rcases hhi with⟨rfl,rfl⟩|⟨k2,x2,rfl,rfl⟩
            · have hb:(0:Int)<=(n:Int)/\(n:Int)<=n:=iX (hc _ aj);obtain⟨u,hr,hs⟩:=key 0 n (.inl ⟨rfl,rfl⟩) (.inl ⟨rfl,rfl⟩) ah ah;exact⟨u,hr,rfl,by simpa[eZ,jo]using hs f (λi=>by rw[nM])⟩
            · have hb:(0:Int)<=x2/\x2<=n:=iX (hc _ aj);obtain⟨u,hr,hs⟩:=key 0 x2.toNat (.inl ⟨rfl,rfl⟩) (.inr ⟨k2,by rw[Cu hb.1]⟩) ah ah;exact⟨u,hr,rfl,by simpa[eZ,jo]using hs f (λi=>by rw[nM])⟩
          · simp only at he;cases he;rcases hhi with⟨rfl,rfl⟩|⟨k2,x2,rfl,rfl⟩
            · have hb:0<=x1/\x1<=(n:Int)/\(n:Int)<=n:=iX (hc _ aj);obtain⟨u,hr,hs⟩:=key x1.toNat n (.inr ⟨k1,by rw[Cu hb.1]⟩) (.inl ⟨rfl,rfl⟩) ah ah;exact⟨u,hr,rfl,by simpa[eZ,jo]using hs _ (λi=>rfl)⟩
            · have hb:0<=x1/\x1<=x2/\x2<=n:=iX (hc _ aj);obtain⟨u,hr,hs⟩:=key x1.toNat x2.toNat (.inr ⟨k1,by rw[Cu hb.1]⟩) (.inr ⟨k2,by rw[Cu ah]⟩) ah ah;exact⟨u,hr,rfl,by simpa[eZ,jo]using hs _ (λi=>rfl)⟩
        | val u =>
          simp only at he;split at he
          · rename_i b0;cases hb0:decide (b0=0)with
            |false=>rw[hb0]at he;cases he
            | true=> rw[hb0]at he;cases he;have hb0:=iX hb0;subst hb0;cases hx with
              |c hx=>
              cases hx;rcases hlo with⟨_,rfl⟩|⟨k1,x1,e1,_⟩
              · rcases hhi with⟨e2,_⟩|⟨k2,x2,e2,rfl⟩
                · cases e2
                · cases e2;have:=afV (P:=P) (w:=w) (base:=none) (n:=0) (c:=0) (lo:=none) (hi':=some (.int k2 0)) (a:=0) (b:=0) hu hie (.inl ⟨rfl,rfl⟩) (.inr ⟨k2,rfl⟩) (gy _) (gy _) (gy _);exact⟨_,this,rfl,.c (.val _)⟩
              · cases e1
          · cases he
        |_=>cases he
      |_=>cases he
    · simp only at he;rcases hlo with⟨rfl,rfl⟩|⟨k1,x1,rfl,rfl⟩
      · rcases hhi with⟨rfl,rfl⟩|⟨k2,x2,rfl,rfl⟩
        · cases he
        · rcases hlen:lenOf x with _|len;rw[hlen]at he;cases he;rw[hlen]at he;simp only at he;cases hb:(x2==0)&&(mm==0)with
          |false=>rw[hb]at he;cases he
          | true=>
            rw[hb]at he;cases he;simp only[dQ,Cn]at hb;obtain⟨rfl,rfl⟩:=hb;have hv:∃a n c,v= .slice a n c:=by cases hx with
              |c hx=>cases hx with
                |val v=>cases v<;>first|exact⟨_,_,_,rfl⟩|cases hlen
                |e0 a=>exact⟨_,_,_,rfl⟩
                |qm=>exact⟨_,_,_,rfl⟩
                |rd=>exact⟨_,_,_,rfl⟩
                |ls=>cases hlen
                |lW=>cases hlen
              |sl=>exact⟨_,_,_,rfl⟩
              |_=>cases hlen
            obtain⟨a,n,c,rfl⟩:=hv;refine⟨.slice a 0 0,?_,rfl,.c (.e0 a)⟩;cases a<;>simp[Instr.sliceAt,Instr.slice,run_underlying hu,Instr.sliceBounds,Instr.sliceBound,asIntOf,sizeOf,typeInfo,hie]
      · rcases hhi with⟨rfl,rfl⟩|⟨k2,x2,rfl,rfl⟩
        · cases he
        · rcases hlen:lenOf x with _|Wy;rw[hlen]at he;cases he;rw[hlen]at he;simp only at he;rcases hlen3:arS x with _|len;rw[hlen3]at he;cases he;rw[hlen3]at he;cases he;have hb:0<=x1/\x1<=x2/\x2<=mm/\mm<=(len:Int):=iX (hc _ aj);have hv:∃a n c,v= .slice a n c/\len<=c:=by cases hx with
            |c hx=>cases hx with
              |qm=>cases hlen3;exact⟨_,_,_,rfl,zu _⟩
              |rd _ _ _ _ _ _ _ _ _ hn=>cases hlen3;exact⟨_,_,_,rfl,hn⟩
              |_=>cases hlen3
            |sl _ _ _ _ _ _ _ _ _ h2 _=>cases hlen3;exact⟨_,_,_,rfl,h2⟩
            |_=>cases hlen3
          obtain⟨a,n,c,rfl,hlc⟩:=hv;obtain⟨u,hr⟩:=aGO (P:=P) (w:=w) (base:=a) (n:=n) (c:=c) (k1:=k1) (k2:=k2) (k3:=km) (a:=x1.toNat) (b:=x2.toNat) (d:=mm.toNat) hu hie ah ah ah;rw[Cu hb.1,Cu ah,Cu ah]at hr;exact⟨u,hr,rfl,.bot _⟩
  | string=> simp only at he;cases x with
    | c x => cases x with
      | val u => cases hx with
        | c hx=>
          cases hx;rcases hmx with⟨rfl,rfl⟩|⟨km,mm,rfl,rfl⟩
          · cases v with
            | string s=>
              simp only at he;cases he
              have key:∀(a' b':Int),((yH=none/\a'=0)∨∃k,yH=some (.int k a'))->((hiv=none/\b'=s.size)∨∃k,hiv=some (.int k b'))->0<=a'/\a'<=b'/\b'<=s.size→
                  (Instr.sliceAt t (.string s) yH hiv none).run P w=.ok (.string (s.extract a'.toNat b'.toNat)) w:=by
                rintro a' b' ha hb ⟨q1,q2,q3⟩;have q4:0<=b':=ah;have q5:a'<=(b'.toNat:Int):=ah;have q6:a'<=(s.size:Int):=ah;have q7:¬max b' 0<a':=ah
                rcases ha with⟨rfl,rfl⟩|⟨k,rfl⟩<;>rcases hb with⟨rfl,rfl⟩|⟨k',rfl⟩<;>
                  simp[Instr.sliceAt,Instr.slice,run_underlying hu,Instr.sliceBounds,Instr.sliceBound,asIntOf,q1,q2,q3,q4,q5,q6]<;>(first|done|(intro hh;exact absurd hh q7))
              rcases hlo with⟨rfl,rfl⟩|⟨k1,x1,rfl,rfl⟩<;>rcases hhi with⟨rfl,rfl⟩|⟨k2,x2,rfl,rfl⟩
              · exact⟨_,key 0 s.size (.inl ⟨rfl,rfl⟩) (.inl ⟨rfl,rfl⟩) (iX (hc _ aj)),rfl,.c (.val _)⟩
              · exact⟨_,key 0 x2 (.inl ⟨rfl,rfl⟩) (.inr ⟨k2,rfl⟩) (iX (hc _ aj)),rfl,.c (.val _)⟩
              · exact⟨_,key x1 s.size (.inr ⟨k1,rfl⟩) (.inl ⟨rfl,rfl⟩) (iX (hc _ aj)),rfl,.c (.val _)⟩
              · exact⟨_,key x1 x2 (.inr ⟨k1,rfl⟩) (.inr ⟨k2,rfl⟩) (iX (hc _ aj)),rfl,.c (.val _)⟩
            |_=>cases he
          · cases v<;>cases he
      |_=>cases he
    |_=>cases he
  |_=>cases he
theorem aGL(H:fJ X w m h)(hx:dU w m (MX X m h) x v)
    (hlo:(lo=none/\yH=none)∨∃k n,lo=some n/\yH=some (.int k n)) (hhi:(hi=none/\hiv=none)∨∃k n,hi=some n/\hiv=some (.int k n)) (hmx:(mx=none/\Mx=none)∨∃k n,mx=some n/\Mx=some (.int k n))
    (he:aaT P t (eB h) x lo hi mx=some bK) (hc:∀q∈bK.bs,q=true):
    ∃u,(Instr.sliceAt t v yH hiv Mx).run P w=.ok u w/\bK.ws=[]/\eZ w m (MX X m h) bK.r u:=
  aFR H (dU.vw H (λ_ _=>rfl) hx) hlo hhi hmx he hc
end
end
section
variable {op:BinOp}{t:TypeId}{k:IntKind}{a b:Int}{v:Value}{e:TypeId}{xo yo:Operand}{n c:Nat}
section
variable {P:Program} {X:Mu} {w:World} {m:gV} {h:List aU} {M:Mu}
theorem aHF{cs:List Bool}(he:ai6 op k a b=some (v,cs))(hc:∀q∈cs,q=true):
  (binOp op t (.int k a) (.int k b)).run P w=.ok v w:=by
 cases op<;>simp only[ai6,lu,zw]at he;all_goals first|(cases he;done)|skip
 all_goals
  obtain⟨rfl,rfl⟩:=he
  first
   |(simp[binOp,Op.intArith];done)
   |(simp[binOp,Op.intCmp];done)
   |(simp[binOp,Op.intBits];done)
   |(have hb:b≠0:=iX (hc _ aj);simp[binOp,Op.intDiv,hb];done)
theorem anL{k':IntKind}{cs:List Bool}(he:aaA op k a b=some (v,cs))(hc:∀q∈cs,q=true):
  (binOp op t (.int k a) (.int k' b)).run P w=.ok v w:=by
 cases op<;>simp only[aaA,lu,zw]at he;all_goals first|(cases he;done)|skip
 all_goals
  obtain⟨rfl,rfl⟩:=he;have hb:0<=b:=iX (hc _ aj);have hb':¬b<0:=ah
  simp[binOp,Op.shift,hb']
theorem aHI{a b:ByteArray}{cs:List Bool}(he:ajf op a b=some (v,cs))(hc:∀q∈cs,q=true):
  (binOp op t (.string a) (.string b)).run P w=.ok v w:=by
 cases op<;>simp only[ajf,lu,zw]at he;all_goals first|(cases he;done)|skip
 all_goals
  obtain⟨rfl,rfl⟩:=he
  first
   |(simp[binOp,Op.stringOp];done)
   |(have hb:a.size+b.size<=9223372036854775807:=iX (hc _ aj);have hb':¬(9223372036854775807<(a.size:Int)+(b.size:Int)):=ah;simp[binOp,Op.stringOp,IntKind.max,IntKind.signed,IntKind.bits,hb'];done)
theorem am3(w:World)(d:Nat){T e:TypeId}(a:Option Addr)(n c:Nat)(hT:P.underlying T=some (.slice e)):
  (Op.equalIn (d+1) T (.slice a n c) (.slice none 0 0)).run P w=.ok a.isNone w:=by
 have hu:=run_underlying (P:=P) (w:=w) hT;rcases a with _|a;simp[Op.equalIn,hu];simp[Op.equalIn,hu]
theorem anZ{w:World}{T:TypeId}{a:Option Addr}(hT:P.underlying T=some (.slice e)):
  (do eqGuard .eql T xo yo (.slice a n c) (.slice none 0 0);binOp .eql T (.slice a n c) (.slice none 0 0):Sem Value).run P w=.ok (.bool a.isNone) w:=by
 have hq:=am3 (P:=P) w 9999 a n c hT;have hg:(eqGuard .eql T xo yo (.slice a n c) (.slice none 0 0)).run P w=.ok () w:=by simp[eqGuard]
 rw[Sem.run_bind,hg];simp[binOp,Op.equal,Op.maxDepth,hq]
theorem an0{w:World}{T:TypeId}{a:Option Addr}(hT:P.underlying T=some (.slice e)):
  (do eqGuard .neq T xo yo (.slice a n c) (.slice none 0 0);binOp .neq T (.slice a n c) (.slice none 0 0):Sem Value).run P w=.ok (.bool (!a.isNone)) w:=by
 have hq:=am3 (P:=P) w 9999 a n c hT;have hg:(eqGuard .neq T xo yo (.slice a n c) (.slice none 0 0)).run P w=.ok () w:=by simp[eqGuard]
 rw[Sem.run_bind,hg];simp[binOp,Op.equal,Op.maxDepth,hq]
theorem aHJ{a b:Value}{cs:List Bool}(he:abK P op t a b=some (v,cs))(hc:∀q∈cs,q=true):
  (do eqGuard op t xo yo a b;binOp op t a b:Sem Value).run P w=.ok v w:=by
 have hg:∀(a b:Value),(∀cs ds,¬(a=.agg cs/\b=.agg ds))->(¬(a=.nilIface/\b=.nilIface))->(eqGuard op t xo yo a b).run P w=.ok () w:=by
  intro a b h1 h2;unfold eqGuard;cases op<;>simp
  all_goals
   split
   .rename_i x y;exact absurd ⟨rfl,rfl⟩ h2
   .rename_i x y cs ds;exact absurd ⟨rfl,rfl⟩ (h1 _ _)
   .rfl
 unfold abK at he;cases a with
 | int k a=> cases b with
  |int k' b=>
   simp only at he;have hgi:=hg (.int k a) (.int k' b) (by rintro _ _ ⟨h,_⟩;cases h) (by rintro⟨h,_⟩;cases h);have hrun:(binOp op t (.int k a) (.int k' b)).run P w=.ok v w:=by cases op with
    |shl=>exact anL he hc
    |shr=>exact anL he hc
    |_=>
     simp only at he;split at he
     .rename_i hk;subst hk;exact aHF he hc
     .cases he
   simp only[Sem.run_bind,hgi,Result.andThen_ok,hrun]
  |_=>cases he
 |string a=>cases b with
  |string b=>have hgi:=hg (.string a) (.string b) (by rintro _ _ ⟨h,_⟩;cases h) (by rintro⟨h,_⟩;cases h);simp only[Sem.run_bind,hgi,Result.andThen_ok,aHI he hc]
  |_=>cases he
 |bool a=>cases b with
  |bool b=>simp only at he;rcases hu:P.underlying t with _|d;rw[hu]at he;cases op<;>cases he;rw[hu]at he;cases d with
   |bool=>
    have hgi:=hg (.bool a) (.bool b) (by rintro _ _ ⟨h,_⟩;cases h) (by rintro⟨h,_⟩;cases h);cases op;all_goals first|(cases he;done)|skip
    .simp only[lu,zw]at he;obtain⟨rfl,rfl⟩:=he;simp only[Sem.run_bind,hgi,Result.andThen_ok];simp[binOp,Op.equal,Op.maxDepth,run_equalIn_bool' w 9999 t a b hu]
    .simp only[lu,zw]at he;obtain⟨rfl,rfl⟩:=he;simp only[Sem.run_bind,hgi,Result.andThen_ok];simp[binOp,Op.equal,Op.maxDepth,run_equalIn_bool' w 9999 t a b hu]
   |_=>cases op<;>cases he
  |_=>cases he
 |slice a n c=>cases a with
  |some a=>cases b<;>cases he
  |none=>cases n with
  |succ n=>cases b<;>cases he
  |zero=>cases c with
  |succ c=>cases b<;>cases he
  |zero=>cases b with
  |slice a' n' c'=>cases a' with
   |some a'=>cases he
   |none=>cases n' with
   |succ n'=>cases he
   |zero=>cases c' with
   |succ c'=>cases he
   |zero=>simp only at he;rcases hu:P.underlying t with _|d;rw[hu]at he;cases op<;>cases he;rw[hu]at he;cases d with
   |slice e=>
    cases op;all_goals first|(cases he;done)|skip
    .simp only[lu,zw]at he;obtain⟨rfl,rfl⟩:=he;exact anZ hu
    .simp only[lu,zw]at he;obtain⟨rfl,rfl⟩:=he;exact an0 hu
   |_=>cases op<;>cases he
  |_=>cases he
 |_=>cases he
theorem aIw{d:Nat}{x y:Value}{b:Bool}(he:VY P t x y=some b):(Op.equalIn (d+1) t x y).run P w=.ok b w:=by
 unfold VY at he;rcases hu:P.underlying t with _|dd;rw[hu]at he;cases x<;>cases y<;>cases he;rw[hu]at he;cases dd<;>cases x<;>cases y;all_goals first|(cases he;done)|skip
 .simp only[lu]at he;subst he;exact run_equalIn_bool' w d t _ _ hu
 .simp only at he;split at he
  .rename_i hk;subst hk;cases he;exact run_equalIn_int w d t _ _ _ _ hu
  .cases he
 .simp only[lu]at he;subst he;exact run_equalIn_string w d t _ _ hu
theorem aoM{xs:List SC}{vs:Array Value}{i:Nat}(hL:nY w m M xs vs)(hc:cellV xs i=some v):vs[i]? =some v:=by
 unfold cellV at hc;rcases hx:xs[i]? with _|x;rw[hx]at hc;cases hc;rw[hx]at hc;have hi:i<vs.size:=by rw[hL.1];exact iF hx
 have hs:=hL.2 i x hx;cases x with
 |c x=>cases x with
  |val u=>simp only[lu]at hc;subst hc;cases hs with|c hs=>cases hs;simp[Array.getD,hi]
  |_=>cases hc
 |_=>cases hc
theorem anQ{xs ys:List SC}:∀(l r:List (Nat×TypeId)),yw P xs ys (l++r)=match yw P xs ys l,yw P xs ys r with
  |some a,some b=>some (a&&b)
  |_,_=>none
 | [],r=>by simp only[zq,yw];cases yw P xs ys r<;>simp
 | (off,t)::l,r=>by simp only[Je,yw,anQ l r];rcases cellV xs off with _|x;rfl;rcases cellV ys off with _|y;rfl;simp only;rcases VY P t x y with _|a;rfl;rcases yw P xs ys l with _|b;rfl;rcases yw P xs ys r with _|c;rfl;simp[Bool.and_assoc]
theorem extract_extract(xs:Array Value)(off n o s:Nat)(h1:o+s<=n):(xs.extract off (off+n)).extract o (o+s)=xs.extract (off+o) (off+o+s):=by rw[Array.extract_extract];congr 1;omega
theorem aoy{i:TypeInfo}(hi:P.info? t=some i)(xs:Array Value)(off n o:Nat)(h1:o+i.size<=n)(h0:0<i.size):
  (part t (xs.extract off (off+n)) o).run P w=(part t xs (off+o)).run P w:=by
 rcases hu:P.underlying t with _|d;simp[part,isAgg,underlying,hu,Sem.run_bind];have hcell:(xs.extract off (off+n))[o]? =xs[off+o]? :=by
  rw[asi];by_cases hx:off+o<xs.size
  .rw[bW ah]
  .rw[dn ah,VJ ah]
 by_cases hag:Ac P t=true
 .have hagg:(isAgg t).run P w=.ok true w:=by unfold Ac at hag;rw[hu]at hag;unfold isAgg;simp only[Sem.run_bind,run_underlying hu,Result.andThen_ok];cases d<;>simp_all
  simp only[part,Sem.run_bind,hagg,Result.andThen_ok,l5,AL hi,Sem.run_pure,extract_extract xs off n o i.size h1]
 .have hagg:(isAgg t).run P w=.ok false w:=by unfold Ac at hag;rw[hu]at hag;unfold isAgg;simp only[Sem.run_bind,run_underlying hu,Result.andThen_ok];cases d<;>simp_all
  simp only[part,Sem.run_bind,hagg,Result.andThen_ok,nH,mJ,hcell]
theorem aHG : ∀(d:Nat) (t:TypeId) (it:TypeInfo) (off:Nat) (ls:List (Nat×TypeId)) (e:Nat) (xs ys:Array Value) (b:Bool) (cx cy:List SC),
  P.info? t=some it->leaves P d t off=some ls->nY w m M cx xs->nY w m M cy ys->yw P cx cy ls=some b→
  ∃vx vy:Value,(part t xs off).run P w=.ok vx w/\(part t ys off).run P w=.ok vy w/\(Op.equalIn (e+d) t vx vy).run P w=.ok b w:=by
 intro d;induction d with
 |zero=>intro t it off ls e xs ys b cx cy _ hl;cases hl
 | succ d ih =>
  intro t it off ls e xs ys b cx cy hti hl hX hY hb;simp only[leaves]at hl;rcases hu:P.underlying t with _|dd;rw[hu]at hl;cases hl;rw[hu]at hl;have scalar:∀(hsc:∀fs,dd≠.struct fs) (hsa:∀n e,dd≠.array n e),some [(off,t)]=some ls→∃vx vy:Value,(part t xs off).run P w=.ok vx w/\(part t ys off).run P w=.ok vy w/\(Op.equalIn (e+(d+1)) t vx vy).run P w=.ok b w:=by
   intro hsc hsa hls;cases hls;simp only[yw]at hb;rcases hcx:cellV cx off with _|x;rw[hcx]at hb;cases hb;rcases hcy:cellV cy off with _|y;rw[hcx,hcy]at hb;cases hb;rw[hcx,hcy]at hb;simp only at hb;rcases hev:VY P t x y with _|b';rw[hev]at hb;cases hb;rw[hev]at hb;simp only[lu,Gx]at hb;subst hb;have hagg:(isAgg t).run P w=.ok false w:=(by unfold isAgg;simp only[Sem.run_bind,run_underlying hu,Result.andThen_ok];cases dd<;>first|rfl|exact absurd rfl (hsc _)|exact absurd rfl (hsa _ _));refine⟨x,y,?_,?_,aIw hev⟩
   .simp only[part,Sem.run_bind,hagg,Result.andThen_ok,nH,mJ,aoM hX hcx,Sem.run_pure]
   .simp only[part,Sem.run_bind,hagg,Result.andThen_ok,nH,mJ,aoM hY hcy,Sem.run_pure]
  cases dd with
  | struct fs=> simp only at hl;cases hst:P.stoodInHeld t with
   |true=>rw[hst]at hl;cases hl
   | false =>
    rw[hst]at hl;simp only[aX]at hl;have hagg:(isAgg t).run P w=.ok true w:=(by unfold isAgg;simp only[Sem.run_bind,run_underlying hu,Result.andThen_ok];rfl);have hcells:P.cellsOf t=it.size:=(by simp[Program.cellsOf,hti]);rw[hcells]at hl;refine⟨.agg (xs.extract off (off+it.size)),.agg (ys.extract off (off+it.size)),?_,?_,?_⟩
    .simp only[part,Sem.run_bind,hagg,Result.andThen_ok,l5,AL hti,Sem.run_pure]
    .simp only[part,Sem.run_bind,hagg,Result.andThen_ok,l5,AL hti,Sem.run_pure]
    .have hfs:P.fieldsOf t=fs:=(by simp[Program.fieldsOf,hu]);have hd:e+(d+1)=(e+d)+1:=ah;rw[hd,run_equalIn_struct w (e+d) t _ _ (by rw[hfs];exact hu) hst,hfs];clear hfs hu scalar;generalize fs.toList=fl at hl;induction fl generalizing ls b with
     |nil=>simp only[List.foldr_nil,lu]at hl;subst hl;simp only[yw,lu]at hb;subst hb;simp[Op.eqFields]
     |cons f fl ihf=>simp only[List.foldr_cons]at hl;cases hlf:leaves P d f.type (off+f.offset)with
      |none=>rw[hlf]at hl;cases hl
      |some lf=>rw[hlf]at hl;generalize hacc:fl.foldr _ (some [])=acc at hl;rcases acc with _|r;cases hl;simp only at hl;cases hnm:(f.name== "_")with
       |true=>rw[hnm]at hl;cases hl
       |false=>rw[hnm]at hl;simp only[aX]at hl;rcases hwi:within P it.size f.offset f.type with _|_;rw[hwi]at hl;cases hl;rw[hwi]at hl;simp only[aY,lu]at hl;subst hl;unfold within at hwi;rcases hif:P.info? f.type with _|ifo;rw[hif]at hwi;cases hwi;rw[hif]at hwi;simp only[dQ]at hwi;have hw1:=qN hwi.1;have hw2:0<ifo.size:=(by have:=hwi.2;simp only[Nat.blt]at this;exact qN this);rw[anQ]at hb;rcases hb1:yw P cx cy lf with _|b1;rw[hb1]at hb;cases hb;rcases hb2:yw P cx cy r with _|b2;rw[hb1,hb2]at hb;cases hb;rw[hb1,hb2]at hb;simp only[lu]at hb;obtain⟨vx,vy,q1,q2,q3⟩:=ih f.type ifo (off+f.offset) lf e xs ys b1 cx cy hif hlf hX hY hb1;have hrest:=ihf r b2 hb2 hacc;have hne:f.name≠ "_" :=(by intro hh;rw[hh]at hnm;simp at hnm);simp only[Op.eqFields,bW hne,Sem.run_bind,aoy hif xs off it.size f.offset hw1 hw2,aoy hif ys off it.size f.offset hw1 hw2,q1,q2,q3,Result.andThen_ok,Sem.run_ite,Sem.run_pure,hrest];subst hb;cases b1<;>cases b2<;>simp
  |array n e=>cases hl
  |_=>exact scalar (λ_ h=>by cases h) (λ_ _ h=>by cases h) hl
end
end
section
variable {P:Program} {X:Mu} {w:World} {m:gV} {h:List aU} {M:Mu}
theorem aIx{op:BinOp}{t:TypeId}{xo yo:Operand}{x y:SV}{a b:Value}{bK:Eff}(hx:eZ w m M x a)(hy:eZ w m M y b)(he:ajA P op t x y=some bK)(hc:∀q∈bK.bs,q=true):
  ∃v,(do eqGuard op t xo yo a b;binOp op t a b:Sem Value).run P w=.ok v w/\bK.ws=[]/\eZ w m M bK.r v:=by
 unfold ajA at he;split at he
 .rename_i a' b';cases hx with|c hx=>cases hx;cases hy with|c hy=>cases hy;rcases hv:abK P op t a b with _|q;rw[hv]at he;cases he;obtain⟨v,cs⟩:=q;rw[hv]at he;cases he;exact⟨v,aHJ hv hc,rfl,.c (.val v)⟩
 .rename_i t' x' xs';cases hx with
  |c hx=>cases hy with
   |c hy=>cases hy;obtain⟨ad,n,c,rfl,hsome⟩:∃ad n c,a=.slice ad n c/\ad.isNone=false:=(by cases hx with|ls _ _ _ h=>generalize hn:(x'::xs').length=n at h;generalize fE t' (x'::xs')=f at h;cases h with|qm _ _ ad cap=>simp at hn|rd _ _ _ b off cap=>exact⟨_,_,cap,rfl,rfl⟩);rcases hu:P.underlying t with _|d;rw[hu]at he;cases op<;>cases he;rw[hu]at he;cases d with
    |slice e=>
     cases op;all_goals first|(cases he;done)|skip
     .cases he;exact⟨_,anZ hu,rfl,by rw[hsome];exact .c (.val _)⟩
     .cases he;exact⟨_,an0 hu,rfl,by rw[hsome];exact .c (.val _)⟩
    |_=>cases op<;>cases he
 .rename_i xs ys;obtain⟨vx,rfl,hX⟩:=hx;obtain⟨vy,rfl,hY⟩:=hy;cases hb:(P.eqGuardType P.depth t|| !(Ac P t&&(P.info? t).isSome&&Nat.beq xs.length (P.cellsOf t)&&Nat.beq ys.length (P.cellsOf t)))with
  |true=>rw[hb]at he;cases he
  |false=>
   rw[hb]at he;simp only[aX]at he;simp only[nW,Bf,dQ]at hb;obtain⟨hgt,⟨⟨hag,his⟩,hlx⟩,hly⟩:=hb;have hlx:=eG hlx;have hly:=eG hly;rcases hti:P.info? t with _|it;rw[hti]at his;cases his;have hcells:P.cellsOf t=it.size:=(by simp[Program.cellsOf,hti]);rcases hl:leaves P 100 t 0 with _|ls;rw[hl]at he;cases he;rw[hl]at he;simp only at he;rcases hq:yw P xs ys ls with _|bb;rw[hq]at he;cases op<;>cases he;rw[hq]at he;obtain⟨ux,uy,q1,q2,q3⟩:=aHG (w:=w) 100 t it 0 ls 9900 vx vy bb xs ys hti hl hX hY hq;have hagg:(isAgg t).run P w=.ok true w:=(by unfold Ac at hag;rcases hu:P.underlying t with _|d;rw[hu]at hag;cases hag;rw[hu]at hag;unfold isAgg;simp only[Sem.run_bind,run_underlying hu,Result.andThen_ok];cases d<;>simp_all);have ex:ux=.agg vx:=(by simp only[part,Sem.run_bind,hagg,Result.andThen_ok,l5,AL hti,Sem.run_pure]at q1;have:=(Result.ok.inj q1).1;rw[<-this];congr 1;have hs:vx.size=it.size:=(by rw[hX.1,hlx,hcells]);rw[nM,<-hs,asX]);have ey:uy=.agg vy:=(by simp only[part,Sem.run_bind,hagg,Result.andThen_ok,l5,AL hti,Sem.run_pure]at q2;have:=(Result.ok.inj q2).1;rw[<-this];congr 1;have hs:vy.size=it.size:=(by rw[hY.1,hly,hcells]);rw[nM,<-hs,asX]);subst ex;subst ey;have q3':(Op.equalIn 10000 t (.agg vx) (.agg vy)).run P w=.ok bb w:=q3;have hg:=run_eqGuard_agg (P:=P) w op t xo yo vx vy hgt;cases op;all_goals first|(cases he;done)|skip
   .simp only[lu]at he;subst he;refine⟨.bool bb,?_,rfl,.c (.val _)⟩;simp only[Sem.run_bind,hg,Result.andThen_ok,run_eql_struct,q3']
   .simp only[lu]at he;subst he;refine⟨.bool (!bb),?_,rfl,.c (.val _)⟩;simp only[Sem.run_bind,hg,Result.andThen_ok,run_neq_struct,q3']
 .cases he
theorem aIi{x:SC}{v:Value}{n:Nat}(hx:dU w m M x v)(hl:lenOf x=some n):∃a c,v=.slice a n c:=by unfold lenOf at hl;cases hx with
 |c hx=>cases hx with
  |val v=>
   cases v<;>first|(cases hl;done)|skip
   simp only[lu]at hl;subst hl;exact⟨_,_,rfl⟩
  |e0 a=>simp only[lu]at hl;subst hl;exact⟨_,_,rfl⟩
  |qm=>simp only[lu]at hl;subst hl;exact⟨_,_,rfl⟩
  |rd=>simp only[lu]at hl;subst hl;exact⟨_,_,rfl⟩
  |ls=>cases hl
  |lW=>cases hl
 |sl=>simp only[lu]at hl;subst hl;exact⟨_,_,rfl⟩
 |_=>cases hl
theorem aHU{x:SV}{v:Value}{n:Nat}(hx:eZ w m M x v)(hl:abI x=some n):∃s,v=.string s/\n=s.size:=by
 unfold abI at hl;split at hl
 .cases hl;cases hx with|c hx=>cases hx;exact⟨_,rfl,rfl⟩
 .cases hl
theorem aIy{X:Mu}{h:List aU}(H:fJ X w m h){t ty:TypeId}{ts:List TypeId}{x:SV}{v:Value}{bK:Eff}(hx:eZ w m (MX X m h) x v)(he:abT P (eB h) t x=some bK):
  ∃u,(Builtin.len_ (t::ts).toArray ty #[v]).run P w=.ok u w/\bK.ws=[]/\eZ w m (MX X m h) bK.r u:=by
 unfold abT at he;rcases hu:P.underlying t with _|d;rw[hu]at he;cases he;rw[hu]at he;cases d with
 |string=>simp only at he;rcases hs:abI x with _|n;rw[hs]at he;cases he;rw[hs]at he;cases he;obtain⟨s,rfl,rfl⟩:=aHU hx hs;refine⟨_,?_,rfl,.c (.val _)⟩;simp[Builtin.len_,run_underlying hu,goInt]
 |slice e=>simp only at he;cases x with
  |mY vs=>cases he
  |one a=>cases a with
   |agg cs=>cases he
   |s y=>simp only at he;cases hl:lenOf (vw (eB h) y)with
    |none=>rw[hl]at he;cases he
    |some n=>rw[hl]at he;cases he;obtain⟨a,c,rfl⟩:=aIi (dU.vw H (λ_ _=>rfl) hx) hl;refine⟨_,?_,rfl,.c (.val _)⟩;simp[Builtin.len_,run_underlying hu,goInt]
 |array n e=>cases he;refine⟨_,?_,rfl,.c (.val _)⟩;simp[Builtin.len_,run_underlying hu,goInt]
 |_=>cases he
theorem ap9:∀(r:List Value) (acc:Value) (v:Value),r.foldl (λacc v=>match acc,v with
  |some (.int k x),.int _ y=>some (.int k (if y<x then y else x))
  |_,_=>none) (some acc)=some v->(r.foldlM Builtin.min2 acc:Sem Value).run P w=.ok v w
 | [],acc,v,hv=>by simp at hv;subst hv;simp
 |u::r,acc,v,hv=>by
  rw[Py]at hv
  have hnone:∀r:List Value,r.foldl (λacc v=>match acc,v with
    |some (.int k x),.int _ y=>some (.int k (if y<x then y else x))
    |_,_=>none) (none:Option Value)=none:=by
   intro r;induction r with|nil=>rfl|cons a r ih=>rw[Py];exact ih
  cases acc<;>try (simp only[hnone]at hv;cases hv;done)
  cases u<;>try (simp only[hnone]at hv;cases hv;done)
  simp only at hv;have ih:=ap9 r _ v hv;simp only[List.foldlM_cons,Sem.run_bind,Builtin.min2,Sem.run_pure,Result.andThen_ok];exact ih
theorem ap8:∀(r:List Value) (acc:Value) (v:Value),r.foldl (λacc v=>match acc,v with
  |some (.int k x),.int _ y=>some (.int k (if x<y then y else x))
  |_,_=>none) (some acc)=some v->(r.foldlM Builtin.max2 acc:Sem Value).run P w=.ok v w
 | [],acc,v,hv=>by simp at hv;subst hv;simp
 |u::r,acc,v,hv=>by
  rw[Py]at hv
  have hnone:∀r:List Value,r.foldl (λacc v=>match acc,v with
    |some (.int k x),.int _ y=>some (.int k (if x<y then y else x))
    |_,_=>none) (none:Option Value)=none:=by
   intro r;induction r with|nil=>rfl|cons a r ih=>rw[Py];exact ih
  cases acc<;>try (simp only[hnone]at hv;cases hv;done)
  cases u<;>try (simp only[hnone]at hv;cases hv;done)
  simp only at hv;have ih:=ap8 r _ v hv;simp only[List.foldlM_cons,Sem.run_bind,Builtin.max2,Sem.run_pure,Result.andThen_ok];exact ih
theorem aKx{vs:List Value}{v:Value}(hv:acw vs=some v)(ts:Array TypeId)(ty:TypeId):(Builtin.min_ ts ty vs.toArray).run P w=.ok v w:=by
 rcases vs with _|⟨x,r⟩;cases hv;cases x<;>try (cases hv;done)
 simp only[acw]at hv;simp only[Builtin.min_];exact ap9 r _ v hv
theorem aKw{vs:List Value}{v:Value}(hv:acv vs=some v)(ts:Array TypeId)(ty:TypeId):(Builtin.max_ ts ty vs.toArray).run P w=.ok v w:=by
 rcases vs with _|⟨x,r⟩;cases hv;cases x<;>try (cases hv;done)
 simp only[acv]at hv;simp only[Builtin.max_];exact ap8 r _ v hv
theorem agq{ρ:Operand->Option SV}{ev:Operand->Value}(hρ:∀x s,ρ x=some s->eZ w m M s (ev x)):∀{xs:List Operand} {vs:List Value},Cg ρ xs=some vs->xs.map ev=vs
 | [],vs,hv=>by simp[Cg]at hv;subst hv;rfl
 |x::xs,vs,hv=>by
  simp only[Cg]at hv;split at hv
  .rename_i v l h1 h2;cases hv;have:=hρ x _ h1;cases this with|c hc=>cases hc;rw[mH,agq hρ h2]
  .cases hv
theorem Zz{ρ:Operand->Option SV}{ev:Operand->Value}(hρ:∀x s,ρ x=some s->eZ w m M s (ev x)):∀{ps:List (Nat×Operand)} {l:List (Nat×AV)},partsOf ρ ps=some l→
  jY (λ(a:Nat×AV) (b:Nat×Value)=>a.1=b.1/\jo w m M a.2 b.2) l (ps.map λ(i,x)=>(i,ev x))
 | [],l,hv=>by simp[partsOf]at hv;subst hv;exact .nil
 | (i,x)::ps,l,hv=>by
  simp only[partsOf]at hv;split at hv
  .rename_i v l' h1 h2;cases hv;exact .cons ⟨rfl,hρ x _ h1⟩ (Zz hρ h2)
  .cases hv
theorem aog{ρ:Operand->Option SV}{ev:Operand->Value}(hρ:∀x s,ρ x=some s->eZ w m M s (ev x)):∀{xs:List Operand} {ks:List Nat},Ji ρ xs=some ks→
  xs.length=ks.length∧∀(i:Nat) k,ks[i]? =some k→∃l b,m k=some l/\l.blk=some b/\(xs.map ev)[i]? =some (.pointer (some ⟨b,0,none⟩))
 | [],ks,hv=>by simp[Ji]at hv;subst hv;exact⟨rfl,λi k hi=>by simp at hi⟩
 |x::xs,ks,hv=>by
  simp only[Ji]at hv;split at hv
  .rename_i k l h1 h2;cases hv;obtain⟨q1,q2⟩:=aog hρ h2;refine⟨by simp[q1],λi k' hi=> ?_⟩;cases i with
   |zero=>simp at hi;subst hi;have:=hρ x _ h1;generalize hev:ev x=v at this;cases this with|pb _ _ b l hk hb=>exact⟨l,b,hk,hb,by simp[hev]⟩
   |succ i=>simpa using q2 i k' (aD hi)
  .cases hv
theorem agK{ρ:Operand->Option SV}{ev:Operand->Value}(hρ:∀x s,ρ x=some s->eZ w m M s (ev x)){o:Option Operand}{r:Option Int}(hr:A8 ρ o=some r):
  (r=none/\o.map ev=none)∨∃k n,r=some n/\o.map ev=some (.int k n):=by
 rcases o with _|x;simp[A8]at hr;subst hr;exact .inl ⟨rfl,rfl⟩;simp only[A8]at hr;split at hr
 .rename_i k n h1;cases hr;have:=hρ x _ h1;generalize hev:ev x=v at this;cases this with|c hc=>cases hc;exact .inr ⟨k,n,rfl,by simp[hev]⟩
 .cases hr
end
section
variable {P:Program} {X:Mu} {w:World} {m:gV} {h:List aU}
theorem aGE{t ty:TypeId}{e:TypeId}{ts:List TypeId}(hu:P.underlying t=some (.slice e)):(Builtin.cap_ (t::ts).toArray ty #[.slice none 0 0]).run P w=.ok (.int .i64 0) w:=by simp[Builtin.cap_,run_underlying hu,goInt]
theorem aIA{t u e ty:TypeId}{i:TypeInfo}{zv:Value}{q k:IntKind}{n:Int}(hu:P.underlying t=some (.slice e))(hu':P.underlying u=some (.int q))(hi:P.info? e=some i)(hz:i.zero=some zv)
  (hb:0<i.bytes) (hp:0<i.size) (hn:0<n/\n*i.bytes<=140737488355328):
  (Builtin.append_ #[t,u] ty #[.slice none 0 0,.int k n]).run P w=
   .ok (.slice (some ⟨w.heap.size,0,none⟩) n.toNat (grownCap w n.toNat 0 e))
    (w.drew.alloc (.cells (Builtin.zeroCells zv.cells n.toNat++Builtin.zeroCells zv.cells (grownCap w n.toNat 0 e-n.toNat)) e)):=by
 obtain⟨N,rfl⟩:∃N:Nat,n=(N:Int):=⟨n.toNat,ah⟩;obtain⟨hn1,hn2⟩:=hn;have hN:(N:Int)<=N*i.bytes:=by
  have:N*1<=N*i.bytes:=aiR _ hb;rw[Gt]at this
  exact_mod_cast this
 have wl:IntKind.i64.wrap (N:Int)=(N:Int):=IntWalk.i64_in _ ah;have h9:((N*i.bytes:Nat):Int)<=140737488355328:=by rw[Int.natCast_mul];exact hn2
 have hN2:N*i.bytes<=140737488355328:=ah
 have c1:¬((N:Int)<0):=ah
 have c2:¬(281474976710656<(N:Int)*i.bytes):=ah
 have c3:¬N=0:=ah
 have c4:¬(9223372036854775807<(N:Int)):=ah
 have c5:Builtin.nextslicecap N 0=N:=by unfold Builtin.nextslicecap;rw[bW ah]
 have c6:¬(281474976710656<N*i.bytes):=ah
 have c7:¬(N*i.size=0):=by have:=Nat.mul_pos (Nat.pos_of_ne_zero c3) hp;omega
 simp[Builtin.append_,run_underlying hu,run_underlying hu',sizeOf,typeInfo,zeroValue,hi,hz,asInt,asIntOf,wl,c1,c2,c3,c4,c5,c6,c7,Question.forced,Builtin.firstCells,newRow,grownCap]
theorem aHy(H:fJ X w m h){id:Nat}(hid:h[id]? =some .dead)(hm:m id=none){t u ty:TypeId}{q k:IntKind}{n:Int}(hu':P.underlying u=some (.int q)){bK:Eff}
  (he:abu P t id n=some bK) (hc:∀q∈bK.bs,q=true):
  ∃v w' m',(Builtin.append_ #[t,u] ty #[.slice none 0 0,.int k n]).run P w=.ok v w'/\Stp X w m h w' m' (eX h bK.ws)/\eZ w' m' (MX X m' (eX h bK.ws)) bK.r v:=by
 unfold abu at he;rcases jF:qJ P t with _|qq;rw[jF]at he;cases he;obtain⟨e,i,z⟩:=qq;rw[jF]at he;simp only at he;cases he;obtain⟨hu,hi,⟨zv,hz,hzc⟩,hzs,hz1,hpos,Bj⟩:=DK jF;have hn:0<n/\n*i.bytes<=140737488355328:=iX (hc _ aj);have hrun:=aIA (P:=P) (w:=w) (ty:=ty) (k:=k) hu hu' hi hz Bj hpos hn;have hge:=grownCap_ge w n.toNat 0 e;generalize grownCap w n.toNat 0 e=nc at hrun hge;rw[hzc]at hrun;have hsz:(Builtin.zeroCells z n.toNat++Builtin.zeroCells z (nc-n.toNat)).size=nc*i.size:=by simp only[ajl,size_zeroCells,hzs,<-nV];congr 1;omega
 have hz0:0<z.size:=ah
 have hat:∀j,j<nc*i.size->(Builtin.zeroCells z n.toNat++Builtin.zeroCells z (nc-n.toNat)).getD j undef=z[j%z.size]'(uw _ hz0):=by
  intro j hj;have e0:n.toNat*z.size+(nc-n.toNat)*z.size=nc*z.size:=by rw[<-nV];congr 1;omega
  rw[<-hzs]at hj;rcases mI j (n.toNat*z.size)with h1|h1
  .have hm:j%z.size<z.size:=uw _ hz0;simp[Array.getD,Builtin.zeroCells,asl,h1,hm];omega
  .have hm:(j-n.toNat*z.size)%z.size=j%z.size:=by
    conv=>rhs;rw[show j=(j-n.toNat*z.size)+z.size*n.toNat by rw[Ec z.size];omega]
    rw[Nat.add_mul_mod_self_left]
   have hm1:j%z.size<z.size:=uw _ hz0;simp[Array.getD,Builtin.zeroCells,asl,Nat.not_lt.2 h1,hm,hm1];omega
 obtain⟨m',hSt,iN⟩:=Stp.abA H hid hm (w1:=w.drew) rfl rfl rfl ⟨rfl,λ_=>abg _⟩ none (z:=i.size) (n:=n.toNat) (cap:=nc) (f:=λ_=>z.toList.map .val)
  (vs:=Builtin.zeroCells z n.toNat++Builtin.zeroCells z (nc-n.toNat)) e hge hsz
  (λj hj=>by
   rw[hsz]at hj;rw[hat j hj]
   exact(LJ.1 hz1) _ (uw _ hz0))
  (λj hj=>by
   refine⟨by simp[hzs],λq x hx=> ?_⟩;rw[mW]at hx;rcases hzj:z.toList[q]? with _|v;rw[hzj]at hx;cases hx;rw[hzj]at hx;cases hx;have hq:q<z.size:=(by have:=iF hzj;simpa using this);have hlt:j*i.size+q<nc*i.size:=(by have h1:j*i.size+i.size<=nc*i.size:=(by rw[<-pK];exact jS _ ah);omega);rw[hat _ hlt];have hm:(j*i.size+q)%z.size=q:=(by rw[<-hzs,PD,Nat.add_mul_mod_self_right,PG hq]);have:z[(j*i.size+q)%z.size]'(uw _ hz0)=v:=(by simp only[hm];simp[hq]at hzj;exact hzj);rw[this]
   exact .val v)
 exact⟨_,_,m',hrun,hSt,iN⟩
end
section
variable {P:Program} {X:Mu} {w:World} {m:gV} {h:List aU}
theorem agd:∀(a b:List (Nat×aU)) (h:List aU),eX h (a++b)=eX (eX h a) b
 | [],b,h=>rfl
 |(k,o)::a,b,h=>agd a b (h.set k o)
theorem aas:∀(ks:List Nat) (h:List aU) (j:Nat),(eX h (Bl ks))[j]? =h[j]? /\j ∉ ks\/(eX h (Bl ks))[j]? =some .dead\/((eX h (Bl ks))[j]? =none)
 | [],h,j=> .inl ⟨rfl,aj⟩
 |k::ks,h,j=>by
  have e:eX h (Bl (k::ks))=eX (h.set k .dead) (Bl ks):=rfl;rw[e];rcases aas ks (h.set k .dead) j with⟨h1,h2⟩|h1|h1
  .by_cases q:k=j
   .subst q;rw[h1];by_cases hk:k<h.length
    .exact .inr (.inl (by rw[uq hk]))
    .exact .inr (.inr (by rw[xS ay]))
   .refine .inl ⟨by rw[h1,su q],?_⟩;simp only[Ck,not_or];exact⟨λh=>q h.symm,h2⟩
  .exact .inr (.inl h1)
  .exact .inr (.inr h1)
theorem Stp.trans'{w' w'':World}{m' m'':gV}{h' h'':List aU}(a:Stp X w m h w' m' h')(b:Stp X w' m' h' w'' m'' h'')(hnw:∀k,h[k]? =some .dead->h''[k]? =some .dead->m k=none->m'' k=none):Stp X w m h w'' m'' h'':=by
 refine⟨b.rel,a.later.trans b.later,b.os.trans a.os,b.tape.trans a.tape,a.output.trans b.output,λk hk hM=> ?_,λk hk=> ?_,hnw⟩
 .have hs:=a.later.size;rw[b.keep k ah (λhM'=>by rcases a.mt k hM' with h1|h1;exact hM h1;omega),a.keep k hk hM]
 .rcases b.mt k hk with h1|h1
  .exact a.mt k h1
  .exact .inr (vv a.later.size h1)
theorem Stp.kill(H:fJ X w m h)(k:Nat):Stp X w m h w m (h.set k .dead):=by
 have hd:∀j o,j=k->(h.set k .dead)[j]? =some o->o=.dead:=by
  intro j o e ho;subst e;by_cases hj:j<h.length
  .rw[uq hj]at ho;cases ho;rfl
  .rw[xS ay]at ho;cases ho
 refine H.change (λj=>j=k) aj (λj hj=>su (λe=>hj e.symm)) (λ_ _ h=>h) (λ_ _=>rfl) H.used rfl rfl (oG.same _) (gy _) ?_ (λ_ _=> .inl rfl) ?_ (λ_ _ _ h=>h) ?_
 .intro j o l b hj ho hl _ _;have:=hd j o hj ho;subst this;exact hl.elim
 .intro j j' o o' l l' b hj ho _ hl _ _ _ _ _;have:=hd j o hj ho;subst this;exact hl.elim
 .intro _ j o hj ho;have:=hd j o hj ho;subst this;trivial
theorem Stp.kills:∀(ks:List Nat) {h:List aU},fJ X w m h->Stp X w m h w m (eX h (Bl ks))
 | [],h,H=>Stp.refl H
 |k::ks,h,H=>(Stp.kill H k).trans' (Stp.kills ks (Stp.kill H k).rel) (λ_ _ _ h=>h)
theorem aJ0(H:fJ X w m h){ks:List Nat}{k z n:Nat}{f:Nat->List CV}{v:Value}(hk:k∈ks)(hg:eB h k= .arr z n f)(hs:dU w m (MX X m h) (.own k) v):
  lC w (MX X m (eX h (Bl ks))) (.rd z n f) v:=by
 have S:=Stp.kills ks H;cases hs with
 |own _ l hm=>have hget:=oP hg trivial;obtain⟨l',e1,e2,⟨e3,e3'⟩,e4,e5⟩:=H.obj k _ hget;rw[hm]at e1;cases e1;subst e3;cases hbl:l.blk with
 |none=>
  have:=e4 hbl;have hn:l.n=0:=ah
  rw[hn];exact .qm z f _ _
 |some b=>
  obtain⟨e6,T,vs,e7,e8,e9,e10⟩:=e5 b hbl;rw[e6];have hle:l.n*z<=vs.size:=by rw[e8];exact jS _ e3'
  refine .rd z l.n f b 0 l.cap (λj=>vs.getD j undef) ?_ (lt_of_block e7) e3' (λi hi=>(e10 i hi).1) (λj hj=> ?_) (λj hj=>e9 j ah) (λi j x hi hx=>((e10 i hi).2 j x hx).later S.later)
  .rintro(hX|⟨j,o,lj,h1,h2,h3,h4⟩)
   .exact H.uL b ⟨k,_,l,hget,trivial,hm,hbl⟩ hX
   .rcases aas ks h j with⟨q1,q2⟩|q1|q1
    .rw[q1]at h1;have:=H.inj j k o _ lj l b h1 hget h2 trivial h3 hm h4 hbl;subst this;exact q2 hk
    .rw[q1]at h1;cases h1;exact h2.elim
    .rw[q1]at h1;cases h1
  .rw[nM,cell_of_row w b j vs T (0,0) e7,Jo (show j<vs.size by omega)];simp[Array.getD,show j<vs.size by omega]
def Qv:Nat->List CV->List (Nat×AV)
 |_,[]=> []
 |j,v::r=>(j,.s (.c v))::Qv (j+1) r
theorem apW(H:fJ X w m h){KS:List Nat}:∀{l:List (Nat×AV)} {j:Nat} {ks:List Nat} {qs:List (Nat×Value)},Jl j l=some ks->(∀k∈ks,k∈KS)->(∀k∈ks,Jk (eB h k)=true)→
  jY (λ(a:Nat×AV) (b:Nat×Value)=>a.1=b.1/\jo w m (MX X m h) a.2 b.2) l qs→
  jY (λ(a:Nat×AV) (b:Nat×Value)=>a.1=b.1/\jo w m (MX X m (eX h (Bl KS))) a.2 b.2) (Qv j (ks.map λk=>Fb (eB h k))) qs
 | [],j,ks,qs,ho,_,_,hq=>by simp only[Jl,lu]at ho;subst ho;cases hq;exact .nil
 | (i, a)::l,j,ks,qs,ho,hK,hA,hq=>by cases a with
  |agg cs=>simp[Jl]at ho
  | s x => cases x with
   |own k=>
    simp only[Jl]at ho;rcases hb:Nat.beq i j with _|_;rw[hb]at ho;cases ho;rw[hb]at ho;simp only[aY]at ho;have hb:=eG hb;subst hb;split at ho
    .rename_i r hr;cases ho;cases hq with
     |cons hh ht=>obtain⟨h1,h2⟩:=hh;have ha:=hA k qb;cases hg:eB h k with
      |arr z n f=>refine .cons ⟨h1,?_⟩ (apW H hr (λq hq=>hK q (ou _ hq)) (λq hq=>hA q (ou _ hq)) ht);simp only[hg,Fb];exact .c (aJ0 H (hK k qb) hg h2)
      |box cs=>rw[hg]at ha;cases ha
      |ra z1 n1 cs1=>rw[hg]at ha;cases ha
      |ms es1=>rw[hg]at ha;cases ha
      |dead=>rw[hg]at ha;cases ha
    .cases ho
   |_=>simp[Jl]at ho
theorem apM{sz:Nat}(hs:sz=1){zs:List SC}(hz:zs.length=1):∀(vs:List CV) (done:List SC) (r:Nat),vs.length=r->(∀v∈vs,(SC.c v).scalar=true)→
  vN (λk=>some (k*sz,sz)) (done++rep zs r) (Qv done.length vs)=some (done++vs.map .c)
 | [],done,r,hr,_=>by subst hr;simp[Qv,vN,rep]
 |v::vs,done,r,hr,hv=>by
  subst hr;subst hs;have hlen:(rep zs vs.length).length=vs.length:=by rw[OM];simp[hz]
  obtain⟨z0,rfl⟩:∃z0,zs=[z0]:=by rcases zs with _|⟨a,b⟩;simp at hz;rcases b with _|⟨_,_⟩;exact⟨a,rfl⟩;simp at hz
  simp only[Qv,vN,kP,yQ,xW,Gt];have c1:Nat.beq (0+1) 1=true:=rfl;have c2:Nat.ble (done.length+1) (done++rep [z0] (vs.length+1)).length=true:=by apply Vr;simp[rep]
  have c3: [SC.c v].all SC.scalar=true:=by simp[hv v qb]
  rw[c1,c2,c3];simp only[Ad,aY];have e:splice (done++rep [z0] (vs.length+1)) done.length [SC.c v]=(done++ [SC.c v])++rep [z0] vs.length:=by unfold splice;rw[aiN];simp[rep,List.drop_append]
  have e2:done.length+1=(done++ [SC.c v]).length:=aj
  rw[e,e2];have:=apM (sz:=1) rfl (zs:=[z0]) rfl vs (done++ [SC.c v]) vs.length rfl (λq hq=>hv q (ou _ hq));simp only[Gt]at this;rw[this];simp
theorem aH1(vs:List CV):tJ (vs.map .c)=some vs:=by induction vs with|nil=>rfl|cons v vs ih=>simp[tJ,ih]
theorem aHB(H:fJ X w m h){id:Nat}(hid:h[id]? =some .dead)(hm:m id=none){t:TypeId}{n:Nat}{ps:List (Nat×AV)}{qs:Array (Nat×Value)}{bK:Eff}
  (hq:jY (λ(a:Nat×AV) (b:Nat×Value)=>a.1=b.1/\jo w m (MX X m h) a.2 b.2) ps qs.toList) (he:PO P t id (eB h) n ps=some bK):
  ∃v w' m',(Instr.buildSlice t n qs).run P w=.ok v w'/\Stp X w m h w' m' (eX h bK.ws)/\eZ w' m' (MX X m' (eX h bK.ws)) bK.r v:=by
 unfold PO at he;split at he
 .rename_i ks hks;unfold VZ at he;rcases jF:qJ P t with _|q;rw[jF]at he;cases he;obtain⟨e,i,z⟩:=q;rw[jF]at he;simp only at he;cases hb:(Nat.beq i.size 1&&Nat.beq ks.length n&&Nat.ble (n*i.size) 16777216&&ks.all (λk=>Jk (eB h k)))with
  |false=>rw[hb]at he;cases he
  |true=>
   rw[hb]at he;cases he;simp only[dQ]at hb;obtain⟨⟨⟨b1,b2⟩,b3⟩,b4⟩:=hb;have b1:=eG b1;have b2:=eG b2;have hall:=j6.1 b4;have S:=Stp.kills ks H;obtain⟨hu,hi,⟨zv,hz,hzc⟩,hzs,hz1,hpos,Bj⟩:=DK jF;have hq':=apW H (KS:=ks) hks (λ_ h=>h) (λk hk=>hall k hk) hq;have aME:(eX h (Bl ks))[id]? =some .dead:=by
    rcases aas ks h id with⟨q1,_⟩|q1|q1
    .rw[q1];exact hid
    .exact q1
    .have hlen:∀(a:List (Nat×aU)) (h:List aU),(eX h a).length=h.length:=(by intro a;induction a with|nil=>intro h;rfl|cons x a ih=>intro h;obtain⟨k,o⟩:=x;show(eX (h.set k o) a).length=_;rw[ih];simp);have h1:=iF hid;rw[ark,hlen]at q1;omega
   have asC:=apM (sz:=i.size) b1 (zs:=vals z.toList) (by simp[vals];omega) (ks.map λk=>Fb (eB h k)) [] n (by simp[b2]) (λv hv=>by
    obtain⟨k,hk,rfl⟩:=qw.1 hv;have:=hall k hk;revert this
    cases eB h k<;>intro h<;>first|rfl|cases h)
   simp only[zq,xW]at asC;have hbs:Ou P t id n (Qv 0 (ks.map λk=>Fb (eB h k)))=some {r:=.one (.s (.own id)),ws:=[(id,.arr i.size n (λj=>((ks.map λk=>Fb (eB h k)).drop (j*i.size)).take i.size))]}:=(by unfold Ou;rw[jF];simp only;rw[b3];simp only[aY];rw[asC];simp only;rw[aH1]);obtain⟨v,w',m',hr,hS,hs⟩:=am4 (P:=P) S.rel aME hm hq' hbs;refine⟨v,w',m',hr,?_,?_⟩
   .rw[agd];refine S.trans' hS (λk h1 h2 h3=>hS.nw k ?_ h2 h3);rcases aas ks h k with⟨q1,_⟩|q1|q1
    .rw[q1];exact h1
    .exact q1
    .have hlen:∀(a:List (Nat×aU)) (h:List aU),(eX h a).length=h.length:=(by intro a;induction a with|nil=>intro h;rfl|cons x a ih=>intro h;obtain⟨k,o⟩:=x;show(eX (h.set k o) a).length=_;rw[ih];simp);have h1:=iF h1;rw[ark,hlen]at q1;omega
   .rw[agd];exact hs
 .exact am4 (P:=P) H hid hm hq he
end
section
variable {o:Oper}{a:Act}{bK:Eff}{v:Value}
def Yields(P:Program)(X:Mu)(w:World)(m:gV)(h:List aU)(o:Oper)(a:Act)(ws:List (Nat×aU))(r:SV):Prop:=
 ∃nx w' m' v,(execOp a.eval o).run P w=.ok nx w'/\(nx=.value v\/(nx=.skip/\v=undef))/\Stp X w m h w' m' (eX h ws)/\eZ w' m' (MX X m' (eX h ws)) r v
section
variable {P:Program} {X:Mu} {w:World} {m:gV} {h:List aU}
theorem Yields.pure(H:fJ X w m h)(hr:(execOp a.eval o).run P w=.ok (.value v) w)(hw:bK.ws=[])(hs:eZ w m (MX X m h) bK.r v):
  Yields P X w m h o a bK.ws bK.r:=
 ⟨_,w,m,v,hr,.inl rfl,by rw[hw];exact Stp.refl H,by rw[hw];exact hs⟩
theorem aIv(H:fJ X w m h){src dst e:TypeId}{k z n:Nat}{f:Nat->List CV}
  (hs:P.underlying src=some (.slice e)) (hd:P.underlying dst=some .string) (he:P.underlying e=some (.int .u8))
  (ho:eB h k=.arr z n f) (hz:z=1) (hall:∀i,i<n->acu (f i)=true) (hv:eZ w m (MX X m h) (.one (.s (.own k))) v):
  (convert src dst v).run P w=.ok (.string (Vx n f)) w:=by
 subst hz;cases hv with
 |own _ l hk=>
 obtain⟨l',e1,e2,⟨e3,e3'⟩,e4,e5⟩:=H.obj k _ (oP ho trivial);rw[hk]at e1;cases e1;subst e3;have aL1:(convert src dst (.slice l.base l.n l.cap)).run P w=(Conv.bytesToString (.slice l.base l.n l.cap)).run P w:=by simp[convert,run_underlying hs,run_underlying hd,run_underlying he]
 rw[aL1]
 have hb0:∀ns:List Int,(∀i,i<l.n->u8v (f i)=UInt8.ofNat (ns.getD i 0).toNat)->ns.length=l.n→
   ns.foldl (λr n=>r.push (UInt8.ofNat n.toNat)) ByteArray.empty=Vx l.n f:=by
  intro ns h1 h2;have:ns=(List.range l.n).map λi=>ns.getD i 0:=by apply aa1 (by simp[h2]);intro i h3 h4;simp[fD,jR h3]
  rw[this,List.foldl_map];unfold Vx;have:∀(xs:List Nat) (r:ByteArray),(∀i∈xs,i<l.n)->xs.foldl (λr i=>r.push (UInt8.ofNat (ns.getD i 0).toNat)) r=xs.foldl (λr i=>r.push (u8v (f i))) r:=by intro xs;induction xs with|nil=>intro r _;rfl|cons x xs ih=>intro r hx;simp only[Py];rw[h1 x (hx x qb)];exact ih _ λi hi=>hx i (ou _ hi)
  exact this _ _ λi hi=>zZ.1 hi
 cases hbl:l.blk with
 |none=>
  have hc0:=e4 hbl;have hn0:l.n=0:=ah
  have:=hb0 [] (λi hi=>ah) (by simp[hn0]);rw[<-this,hn0];rcases l.base with _|a;rfl;simpa using run_bytesToString (P:=P) w a 0 l.cap [] (by simp[loadCells,loadCellsFrom])
 |some b=>
  obtain⟨e6,T,vs,e7,e8,e9,e10⟩:=e5 b hbl;rw[e6];have hint:∀i,i<l.n→∃q:Int,f i=[.val (.int .u8 q)]/\vs.getD i undef=.int .u8 q:=by
   intro i hi;have h1:=hall i hi;obtain⟨h2,h3⟩:=e10 i hi;unfold acu at h1;split at h1
   .rename_i q hq;rw[hq]at h3;have:=h3 0 _ rfl;simp only[Gt,vk]at this;generalize hg:vs.getD i undef=g at this;cases this;exact⟨q,hq,rfl⟩
   .cases h1
  have hns:∃ns:List Int,ns.length=l.n∧∀i,i<l.n->f i=[.val (.int .u8 (ns.getD i 0))]/\vs.getD i undef=.int .u8 (ns.getD i 0):=by refine⟨(List.range l.n).map λi=>match f i with| [.val (.int .u8 q)]=>q|_=>0,aj,λi hi=> ?_⟩;obtain⟨q,h1,h2⟩:=hint i hi;have:((List.range l.n).map λi=>match f i with| [.val (.int .u8 q)]=>q|_=>(0:Int)).getD i 0=q:=(by simp[fD,hi,h1]);rw[this];exact⟨h1,h2⟩
  obtain⟨ns,hl,hns⟩:=hns;rw[run_bytesToString (P:=P) w ⟨b,0,none⟩ l.n l.cap ns,hb0 ns (λi hi=>by rw[(hns i hi).1];rfl) hl];have hcell:∀j,j<l.n->w.cell? ((⟨b,0,none⟩:Addr).add j)=some (.int .u8 (ns.getD j 0)):=by intro j hj;rw[addr_add,nM,<-(hns j hj).2];rw[cell_of_row w b j vs T (0,0) e7,Jo (show j<vs.size by rw[e8];omega)];simp[Array.getD,show j<vs.size by rw[e8];omega]
  rw[run_loadCells w _ l.n _ hcell];congr 2;rw[aiI (g:=λi=>Value.int .u8 (ns.getD i 0)) (λ_ _=>rfl)];apply aa1 (by simp[hl]);intro i h3 h4;simp only[kQ,List.length_range]at h3;simp[fD,jR (show i<ns.length by omega)]
theorem agj(H:fJ X w m h){id:Nat}(hid:h[id]? =some .dead)(hm:m id=none){ρ:Operand->Option SV}
  (hρ:∀x s,ρ x=some s->eZ w m (MX X m h) s (a.eval x))  (he:evalOp P id ρ (eB h) o.op=some bK) (hc:∀q∈bK.bs,q=true):
  Yields P X w m h o a bK.ws bK.r:=by
 obtain⟨dst,op,type,pos,after,guard⟩:=o;cases op with
 |move x=>simp only[evalOp]at he;rcases hx:ρ x with _|s;rw[hx]at he;cases he;rw[hx]at he;cases he;exact Yields.pure H (bK:={r:=s}) (by simp[execOp]) rfl (hρ x s hx)
 |assign x=>simp only[evalOp]at he;rcases hx:ρ x with _|s;rw[hx]at he;cases he;rw[hx]at he;cases he;exact Yields.pure H (bK:={r:=s}) (by simp[execOp]) rfl (hρ x s hx)
 |pick c x y=>
  simp only[evalOp]at he;split at he
  .rename_i hcv;have hb:=hρ c _ hcv;generalize hec:a.eval c=vc at hb;cases hb with|c hb=>cases hb;rcases hx:ρ x with _|s;rw[hx]at he;cases he;rw[hx]at he;cases he;exact Yields.pure H (bK:={r:=s}) (by simp[execOp,hec,asBool]) rfl (hρ x s hx)
  .rename_i hcv;have hb:=hρ c _ hcv;generalize hec:a.eval c=vc at hb;cases hb with|c hb=>cases hb;rcases hx:ρ y with _|s;rw[hx]at he;cases he;rw[hx]at he;cases he;exact Yields.pure H (bK:={r:=s}) (by simp[execOp,hec,asBool]) rfl (hρ y s hx)
  .cases he
 |alloc T=>simp only[evalOp]at he;rcases hi:P.info? T with _|i;rw[hi]at he;cases he;rw[hi]at he;simp only at he;rcases hz:i.zero with _|z;rw[hz]at he;cases he;rw[hz]at he;simp only at he;rcases hb:z.cells.all Value.oneCell' with _|_;rw[hb]at he;cases he;rw[hb]at he;simp only[aY]at he;cases he;obtain⟨m',hS,hs⟩:=Stp.arV H hid hm T (UU z.cells.toList) (ahU hb);refine⟨.value _,_,m',_,?_,.inl rfl,hS,hs⟩;simp[execOp,Instr.alloc,FX hi hz,newVar,newRow]
 |box T x=>
  simp only[evalOp]at he;split at he
  .rename_i v hx;rcases hb:(kP v).all SC.scalar with _|_;rw[hb]at he;cases he;rw[hb]at he;simp only[aY]at he;cases he;obtain⟨hL,h1⟩:=jo.cells (hρ x _ hx) hb
   obtain⟨m',hS,hs⟩:=Stp.arV H hid hm T hL (λi hi=>by
    have:=h1 ((a.eval x).cells[i]) aj
    simpa[Array.getD,hi]using this)
   refine⟨.value _,_,m',_,?_,.inl rfl,hS,hs⟩;simp[execOp,Instr.box,newVar,newRow]
  .cases he
 |build t ps=>simp only[evalOp]at he;rcases hp:partsOf ρ ps.toList with _|l;rw[hp]at he;cases he;rw[hp]at he;simp only at he;have hq:=Zz hρ hp;obtain⟨v,hr,hw,_,hs⟩:=aGF (P:=P) (qs:=ps.map λ(i,x)=>(i,a.eval x)) (aD hq) he;exact Yields.pure H (by simp[execOp,hr]) hw hs
 |buildSlice t n ps=>simp only[evalOp]at he;rcases hp:partsOf ρ ps.toList with _|l;rw[hp]at he;cases he;rw[hp]at he;simp only at he;have hq:=Zz hρ hp;obtain⟨v,w',m',hr,hS,hs⟩:=aHB (P:=P) H hid hm (qs:=ps.map λ(i,x)=>(i,a.eval x)) (aD hq) he;exact⟨.value v,w',m',v,by simp[execOp,hr],.inl rfl,hS,hs⟩
 |load T x=>
  simp only[evalOp]at he;split at he
  .rename_i p hx;obtain⟨u,hr,hw,hs⟩:=aHC H (hρ x _ hx) he;exact Yields.pure H (by simp[execOp,hr]) hw hs
  .cases he
 |store T x y=>
  simp only[evalOp]at he;split at he
  .rename_i p v hx hy;obtain⟨w',hr,hw,hS⟩:=aGM H (hρ x _ hx) (hρ y _ hy) he;refine⟨.skip,w',m,undef,by simp[execOp,hr],.inr ⟨rfl,rfl⟩,hS,?_⟩;rw[hw];exact .c (.val _)
  .cases he
 |nilCheck x=>
  simp only[evalOp]at he;split at he
  .rename_i p hx;rcases hb:asE p with _|_;rw[hb]at he;cases he;rw[hb]at he;simp only[aY]at he;cases he;have hp:=hρ x _ hx;have hv:∃q,a.eval x=.pointer (some q):=by generalize a.eval x=v at hp;cases p with
    |pb k off=>cases hp with|pb=>exact⟨_,rfl⟩
    |pe k i off=>cases hp with|pe=>exact⟨_,rfl⟩
    |rp cs=>cases hp with|rp=>exact⟨_,rfl⟩
    |_=>cases hb
   obtain⟨q,hq⟩:=hv;exact Yields.pure H (bK:={r:=.one (.s p)}) (by simp only[execOp,hq,Sem.run_pure];rfl) rfl (by rw[<-hq];exact hp)
  .cases he
 |binOp op t x y t'=>
  simp only[evalOp]at he;split at he
  .rename_i sx sy hx hy;obtain⟨v,hr,hw,hs⟩:=aIx (xo:=x) (yo:=y) (hρ x _ hx) (hρ y _ hy) he hc;exact Yields.pure H (by simp only[execOp,Sem.run_bind]at hr⊢;rw[hr];rfl) hw hs
  .cases he
 |unOp op t x=>
  simp only[evalOp]at he;split at he
  .rename_i v hx;have hv:=hρ x _ hx;generalize hev:a.eval x=v' at hv;cases hv with
   |c hv=>
    cases hv;rcases hu:ajU op v with _|u;rw[hu]at he;cases he;rw[hu]at he;cases he;refine Yields.pure H (v:=u) ?_ rfl (.c (.val u));cases op<;>cases v<;>first|(cases hu;done)|skip
    all_goals (simp only[ajU,lu]at hu;subst hu;simp[execOp,hev,Op.unary,Op.intArith])
  .cases he
 |convert s d x=>
  simp only[evalOp]at he;split at he
  .rename_i k1 k k2 n hs' hd hx;cases he;have hv:=hρ x _ hx;generalize hev:a.eval x=v' at hv;cases hv with|c hv=>cases hv;exact Yields.pure H (v:=.int k (k.wrap n)) (by simp[execOp,hev,convert,run_underlying hs',run_underlying hd,Conv.intToInt]) rfl (.c (.val _))
  .rename_i b hs' hd hx;cases he;have hv:=hρ x _ hx;generalize hev:a.eval x=v' at hv;cases hv with|c hv=>cases hv;exact Yields.pure H (v:=.string b) (by simp[execOp,hev,convert,run_underlying hs',run_underlying hd]) rfl (.c (.val _))
  .rename_i e k hs' hd hx;have hv:=hρ x _ hx;cases ho:eB h k with
   |box=>rw[ho]at he;cases he
   |ra z1 n1 cs1=>rw[ho]at he;cases he
   |ms es1=>rw[ho]at he;cases he
   |dead=>rw[ho]at he;cases he
   |arr z n f=>
    rw[ho]at he;unfold aqE at he;simp only at he;split at he
    .rename_i hu;rcases hz:Nat.beq z 1 with _|_;rw[hz]at he;cases he;rw[hz]at he;simp only[aY]at he;cases he;have hall:∀i,i<n->acu (f i)=true:=λi hi=>j6.1 (hc _ (oV.2 rfl)) i (zZ.2 hi);exact Yields.pure H (v:=.string (Vx n f)) (by simp only[execOp];rw[Sem.run_bind,aIv H hs' hd hu ho (eG hz) hall hv];rfl) rfl (.c (.val _))
    .cases he
  .cases he
 |makeFunc f first caps=>
  simp only[evalOp]at he;split at he
  .rename_i f' ks hk;rcases hb:Nat.beq first.size 0 with _|_;rw[hb]at he;cases he;rw[hb]at he;cases he;have hf0:first= #[]:=ab5 (eG hb)
   subst hf0;obtain⟨q1,q2⟩:=aog hρ hk;refine Yields.pure H (v:=.func (.func f') #[] (caps.map a.eval)) (by simp[execOp,Instr.makeFunc]) rfl ?_;refine .fn f' ks _ (aD q1) (λi k hi=> ?_);obtain⟨l,b,e1,e2,e3⟩:=q2 i k hi;exact⟨l,b,e1,e2,aD e3⟩
  .cases he
 |makeSlice t l c=>
  simp only[evalOp]at he;split at he
  .rename_i k1 n1 k2 n2 h1 h2;have hv1:=hρ l _ h1;have hv2:=hρ c _ h2;generalize akf:a.eval l=v1 at hv1;generalize aMD:a.eval c=v2 at hv2;cases hv1 with|c hv1=>cases hv1;cases hv2 with|c hv2=>cases hv2;obtain⟨v,w',m',hr,hS,hs⟩:=aHD (P:=P) (k1:=k1) (k2:=k2) H hid hm he hc;exact⟨.value v,w',m',v,by simp[execOp,akf,aMD,hr],.inl rfl,hS,hs⟩
  .cases he
 |slice t x lo hi mx=>
  simp only[evalOp]at he;split at he
  .rename_i p lo' hi' mx' hx h1 h2 h3;obtain⟨u,hr,hw,hs⟩:=aGL H (hρ x _ hx) (agK hρ h1) (agK hρ h2) (agK hρ h3) he hc;exact Yields.pure H (by simp[execOp,hr]) hw hs
  .cases he
 |fieldAddr s x f=>
  simp only[evalOp]at he;split at he
  .rename_i p hx;obtain⟨u,hr,hw,hs⟩:=aDD (P:=P) (hρ x _ hx) he;exact Yields.pure H (by simp[execOp,hr]) hw hs
  .cases he
 |field s x f=>
  simp only[evalOp]at he;split at he
  .rename_i cs o' t' hx hf;rcases hl:yu P t' cs o' with _|v;rw[hl]at he;cases he;rw[hl]at he;cases he;obtain⟨vs,hev,hL⟩:=hρ x _ hx;obtain⟨fs,fl,i,hu,hfl,hi,h0,rfl,rfl⟩:=anY hf;obtain⟨u,hr,hs⟩:=aqb (P:=P) hL hl;exact Yields.pure H (v:=u) (by simp[execOp,Instr.field,run_underlying hu,hfl,hev,asAgg,hr]) rfl hs
  .cases he
 |indexAddr t x i=>
  simp only[evalOp]at he;split at he
  .rename_i p k n hx hi;have hv:=hρ i _ hi;generalize hev:a.eval i=v' at hv;cases hv with|c hv=>cases hv;obtain⟨u,hr,hw,hs⟩:=aDE (k:=k) H (hρ x _ hx) he hc;exact Yields.pure H (by simp[execOp,hev,hr]) hw hs
  .cases he
 |index t x i=>
  simp only[evalOp]at he;split at he
  .rename_i s k n hu hx hi;cases he;have hn:0<=n/\n<s.size:=iX (hc _ aj);have hsx:=hρ x _ hx;have hsi:=hρ i _ hi;generalize hex:a.eval x=vx at hsx;generalize jF:a.eval i=vi at hsi;cases hsx with|c hsx=>cases hsi with|c hsi=>cases hsx;cases hsi;have hlt:n.toNat<s.size:=ah;refine Yields.pure H (bK:={r:=fP (.int .u8 (((s.data.toList.getD n.toNat 0).toNat:Nat):Int))}) (v:=.int .u8 (((s.data.toList.getD n.toNat 0).toNat:Nat):Int)) ?_ rfl (.c (.val _));have hg:s[n.toNat]? =some s[n.toNat]:=(by simp[hlt]);have hd:s.data.toList.getD n.toNat 0=s[n.toNat]:=(by have:n.toNat<s.data.size:=hlt;rw[fD,Array.getElem?_toList,Jo this];rfl);rw[hd];simp[execOp,hex,jF,Instr.index,asIntOf,run_underlying hu,hn.1,hg]
  .cases he
 |extract x i=>
  simp only[evalOp]at he;split at he
  .rename_i vs hx;rcases hv:vs[i]? with _|v;rw[hv]at he;cases he;rw[hv]at he;cases he;obtain⟨us,hev,hz,hs⟩:=hρ x _ hx;have hi:i<us.size:=(by rw[hz];exact iF hv);refine Yields.pure H (v:=us[i]) (by simp[execOp,hev,Instr.extract,hi]) rfl ?_;have:=hs i v hv;have e:us.getD i undef=us[i]:=(by simp[Array.getD,hi]);rw[e]at this;exact this
  .cases he
 |call c=>obtain⟨callee,args,argTypes⟩:=c;simp only[evalOp]at he;cases callee with
  |value f=>cases he
  |invoke r n=>cases he
  |builtin b=>
   simp only at he;unfold I6 at he;have hrun:∀{r:Result Value} {u:Value} {w':World},r=.ok u w'->True:=λ_=>trivial;split at he
   .rename_i _ _ _ x t ts ha ht;rcases hx:ρ x with _|v;rw[hx]at he;cases he;rw[hx]at he;simp only at he;obtain⟨u,hr,hw,hs⟩:=aIy (P:=P) H (ty:=type) (ts:=ts) (hρ x _ hx) he;have e1:args= #[x]:=(by cases args;simp_all);have e2:argTypes=(t::ts).toArray:=(by cases argTypes;simp_all);subst e1;subst e2;exact Yields.pure H (by simp only[execOp,resolve,Sem.run_bind,Sem.run_pure,Result.andThen_ok,invoke,builtin];simp only[Jg,mH,yR];rw[hr];rfl) hw hs
   .rename_i _ _ _ s x t u' ha ht;split at he
    .rename_i sv xv e' hsv hxv hu';obtain⟨u,w',m',hr,hS,hs⟩:=aFN (P:=P) (ty:=type) H hid hm hu' (hρ s _ hsv) (hρ x _ hxv) he hc;have e1:args= #[s,x]:=(by cases args;simp_all);have e2:argTypes= #[t,u']:=(by cases argTypes;simp_all);subst e1;subst e2;exact⟨.value u,w',m',u,by simp only[execOp,resolve,Sem.run_bind,Sem.run_pure,Result.andThen_ok,invoke,builtin];simp only[Jg,mH,yR];rw[hr];rfl,.inl rfl,hS,hs⟩
    .rename_i kx n q hsv hxv hu';have h1:=hρ s _ hsv;have h2:=hρ x _ hxv;generalize hes:a.eval s=vs at h1;generalize hex:a.eval x=vx at h2;cases h1 with|c h1=>cases h1;cases h2 with|c h2=>cases h2;obtain⟨u,w',m',hr,hS,hs⟩:=aHy (P:=P) (ty:=type) (k:=kx) H hid hm hu' he hc;have e1:args= #[s,x]:=(by cases args;simp_all);have e2:argTypes= #[t,u']:=(by cases argTypes;simp_all);subst e1;subst e2;exact⟨.value u,w',m',u,by simp only[execOp,resolve,Sem.run_bind,Sem.run_pure,Result.andThen_ok,invoke,builtin];simp only[Jg,mH,yR,hes,hex];rw[hr];rfl,.inl rfl,hS,hs⟩
    .cases he
   .rename_i _ _ _ s x t ts ha ht;split at he
    .rename_i sv xv hsv hxv;have e1:args= #[s,x]:=(by cases args;simp_all);have e2:argTypes=(t::ts).toArray:=(by cases argTypes;simp_all);subst e1;subst e2;obtain⟨u,w',hr,hS,hs⟩:=aHx (P:=P) (ty:=type) (u:=t) H (hρ s _ hsv) (hρ x _ hxv) he hc;have hr':(Builtin.copy_ (t::ts).toArray type #[a.eval s,a.eval x]).run P w=.ok u w':=(by rw[<-hr];simp[Builtin.copy_]);exact⟨.value u,w',m,u,by simp only[execOp,resolve,Sem.run_bind,Sem.run_pure,Result.andThen_ok,invoke,builtin];simp only[Jg,mH,yR];rw[hr'];rfl,.inl rfl,hS,hs⟩
    .cases he
   .rename_i _ _ _ s t ts ha ht;split at he
    .rename_i sv hsv;have e1:args= #[s]:=(by cases args;simp_all);have e2:argTypes=(t::ts).toArray:=(by cases argTypes;simp_all);subst e1;subst e2;obtain⟨u,w',hr,hS,hs⟩:=aGG (P:=P) (ty:=type) (ts:=ts) H (hρ s _ hsv) he hc;exact⟨.value u,w',m,u,by simp only[execOp,resolve,Sem.run_bind,Sem.run_pure,Result.andThen_ok,invoke,builtin];simp only[Jg,mH,yR];rw[hr];rfl,.inl rfl,hS,hs⟩
    .cases he
   .rename_i _ _ _ x t ts ha ht;split at he
    .rename_i e' hxv hu';have h1:=hρ x _ hxv;generalize hex:a.eval x=vx at h1;cases h1 with|c h1=>cases h1;have e1:args= #[x]:=(by cases args;simp_all);have e2:argTypes=(t::ts).toArray:=(by cases argTypes;simp_all);subst e1;subst e2;cases he;exact Yields.pure H (bK:={r:=fP (.int .i64 0)}) (by simp only[execOp,resolve,Sem.run_bind,Sem.run_pure,Result.andThen_ok,invoke,builtin];simp only[Jg,mH,yR,hex];rw[aGE hu'];rfl) rfl (.c (.val _))
    .cases he
   .rcases hv:Cg ρ args.toList with _|vs;rw[hv]at he;cases he;rw[hv]at he;simp only at he;rcases hmn:acw vs with _|v;rw[hmn]at he;cases he;rw[hmn]at he;cases he;have hr:=aKx (P:=P) (w:=w) hmn argTypes type;have e1:args.map a.eval=vs.toArray:=(by apply LK;rw[Array.toList_map];exact agq hρ hv);exact Yields.pure H (by simp only[execOp,resolve,Sem.run_bind,Sem.run_pure,Result.andThen_ok,invoke,builtin,e1,hr]) rfl (.c (.val v))
   .rcases hv:Cg ρ args.toList with _|vs;rw[hv]at he;cases he;rw[hv]at he;simp only at he;rcases hmn:acv vs with _|v;rw[hmn]at he;cases he;rw[hmn]at he;cases he;have hr:=aKw (P:=P) (w:=w) hmn argTypes type;have e1:args.map a.eval=vs.toArray:=(by apply LK;rw[Array.toList_map];exact agq hρ hv);exact Yields.pure H (by simp only[execOp,resolve,Sem.run_bind,Sem.run_pure,Result.andThen_ok,invoke,builtin,e1,hr]) rfl (.c (.val v))
   .cases he
 |_=>cases he
end
end
def A9:TypeDesc->Value->Bool
 | .int k,.int k' _=>k'==k
 | .string,.string _=>true
 |_,_=>false
def ajK:AV->Option Value
 | .s (.c (.val v))=>some v
 | .agg cs=>match tJ cs with
  |some xs=>match xs.mapM (λx=>match x with| .val v=>some v|_=>none)with
   |some vs=>some (.agg vs.toArray)
   |none=>none
  |none=>none
 |_=>none
def Wz(P:Program)(t:TypeId):Option (TypeDesc×Value):=
 match P.underlying t with
 |some (.map k e)=>match P.underlying k,P.info? e with
  |some d,some i=>match i.zero with
   |some z=>some (d,z)
   |none=>none
  |_,_=>none
 |_=>none
def QL(e:MapEntry):Value×Value:=(e.key,e.val)
def lkS(d:TypeDesc)(z n:Value)(es:List (Value×Value))(ok:Bool):Option Eff:=
 match z,n,ok with
 | .bool false,.int .i64 i,false=>bif A9 d n then some {r:=fP (.bool (wU es i)),bs:=[tN es]}else none
 |_,_,_=>bif A9 d n then
   some {r:=bif ok then .mY [Jt z,.s (.c (.val (.bool false)))]else .one (Jt z),bs:=[es.isEmpty]}else none
def ptS(d:TypeDesc)(k:Nat)(n u:Value)(es:List (Value×Value)):Option Eff:=
 match n,u with
 | .int .i64 i,.bool b=>bif A9 d n then some {r:=fP undef,ws:=[(k,.ms (vW es i b))],bs:=[tN es]}else none
 |_,_=>bif A9 d n then some {r:=fP undef,ws:=[(k,.ms [(n,u)])],bs:=[es.isEmpty]}else none
def aaS(P:Program)(get:Nat->aU)(t:TypeId)(x i:SC)(ok:Bool):Option Eff:=
 match Wz P t with
 |some (d,z)=>match x,i with
  | .mp k,.c (.val n)=>match get k with
   | .ms es=>lkS d z n es ok
   |_=>none
  |_,_=>none
 |none=>none
def abx(P:Program)(get:Nat->aU)(t:TypeId)(x i:SC)(v:AV):Option Eff:=
 match Wz P t with
 |some (d,_)=>match x,i,ajK v with
  | .mp k,.c (.val n),some u=>match get k with
   | .ms es=>ptS d k n u es
   |_=>none
  |_,_,_=>none
 |none=>none
def PN(P:Program)(get:Nat->aU)(t:TypeId)(x:SC):Option Eff:=
 match P.underlying t,x with
 |some (.map _ _),.mp k=>match get k with
  | .ms es=>some {r:=fP (.int .i64 (es.length:Int))}
  |_=>none
 |_,_=>none
def ah5(P:Program)(t:TypeId)(id:Nat):Option Eff:=
 match Wz P t with
 |some _=>some {r:=.one (.s (.mp id)),ws:=[(id,.ms [])]}
 |none=>none
section
variable {P:Program} {X:Mu} {w:World} {m:gV} {h:List aU}
theorem ao6{t:TypeId}{d:TypeDesc}{z:Value}(ht:Wz P t=some (d,z)):∃k e i,P.underlying t=some (.map k e)/\P.underlying k=some d/\P.info? e=some i/\i.zero=some z:=by
 unfold Wz at ht;split at ht
 .rename_i k e h1;split at ht
  .rename_i d' i h2 h3;split at ht
   .rename_i z' h4;cases ht;exact⟨k,e,i,h1,h2,h3,h4⟩
   .cases ht
  .cases ht
 .cases ht
theorem Zw{d:TypeDesc}{n:Value}(h:A9 d n=true):MapKept.IsKey d n:=by
 unfold A9 at h;split at h
 .exact(by simpa using h:_=_)
 .trivial
 .cases h
theorem aqi{M:Mu}(v:Value):jo w m M (Jt v) v:=by
 unfold Jt;split
 .rename_i cs;exact⟨cs,rfl,by have:=UU (w:=w) (m:=m) (M:=M) cs.toList;simpa[vals]using this⟩
 .exact .c (.val v)
theorem aIs{M:Mu}{a:AV}{u v:Value}(hu:ajK a=some u)(hs:jo w m M a v):v=u:=by cases a with
 |s x=>cases x with
  |c y=>cases y with
   |val q=>cases hu;cases hs with|c hs=>cases hs;rfl
   |_=>cases hu
  |_=>cases hu
 | agg cs=>
  simp only[ajK]at hu;split at hu
  .rename_i xs hx;split at hu
   .rename_i vs hvs;cases hu;obtain⟨ws,rfl,hL⟩:=hs;have hcs:=UZ hx;subst hcs;have:∀(xs:List CV) (vs:List Value),xs.mapM (λx=>match x with| .val v=>some v|_=>none)=some vs->xs=vs.map .val:=by intro xs;induction xs with
     |nil=>intro vs h;simp at h;subst h;rfl
     |cons x xs ih=>intro vs h;simp only[aa6,Option.bind_eq_bind,Option.bind_eq_some_iff]at h;obtain⟨v,h1,vs',h2,h3⟩:=h;cases x with|val q=>simp at h1;subst h1;simp at h3;subst h3;rw[ih _ h2];rfl|_=>simp at h1
    have hxs:=this xs vs hvs;subst hxs;obtain⟨h1,h2⟩:=hL;congr 1;apply LK;apply aa1 (aD h1);intro i h3 h4;have h5:i<vs.length:=(aD h4);have:=h2 i (.c (.val vs[i])) (by simp[h5]);generalize hg:ws.getD i undef=g at this;cases this with|c hc=>cases hc;have h6:i<ws.size:=(aD h3);have:ws.getD i undef=ws[i]:=(by simp[Array.getD,h6]);rw[this]at hg;simpa using hg
   .cases hu
  .cases hu
theorem aIe{p:Value×Value}(h:Qt p=true):∃a b,p=(.int .i64 a,.bool b):=by
 obtain⟨x,y⟩:=p;unfold Qt at h;split at h
 .rename_i a b e;exact⟨a,b,e⟩
 .cases h
theorem agJ{n:Int}:∀(rows:List MapEntry) (es:List (Value×Value)) (i:Nat),rows.map QL=es->tN es=true→
  (Instr.findNow (.int .i64) (.int .i64 n) rows i=some none/\wU es n=false∧∀u,vW es n u=es++ [(.int .i64 n,.bool u)])∨
  ∃j e v,Instr.findNow (.int .i64) (.int .i64 n) rows i=some (some (i+j,.bool v))/\rows[j]? =some e/\e.key=.int .i64 n/\wU es n=v∧
   ∀u,(rows.modify j λe=>{e with key:=.int .i64 n,val:=.bool u}).map QL=vW es n u
 | [],[],i,_,_=> .inl ⟨rfl,rfl,λ_=>rfl⟩
 | [],_::_,i,h,_=>by simp at h
 |_::_,[],i,h,_=>by simp at h
 |e ::rows,p::es,i,h,hb=>by
  have hb0:Qt p=true/\tN es=true:=by simpa only[tN,wS,dQ]using hb
  obtain⟨a,b,rfl⟩:=aIe hb0.1;simp only[mH,List.cons.injEq]at h;obtain⟨h1,h2⟩:=h;have hk:e.key=.int .i64 a:=(Prod.mk.inj h1).1;have hv:e.val=.bool b:=(Prod.mk.inj h1).2;have hb':tN es=true:=hb0.2;by_cases ha:a=n
  .subst ha;refine .inr ⟨0,e,b,?_,rfl,hk,by simp[wU],λu=> ?_⟩
   .simp[Instr.findNow,Instr.sameNow,hk,hv]
   .simp[List.modify,vW,QL,h2]
  .rcases agJ (n:=n) rows es (i+1) h2 hb' with⟨q1,q2,q3⟩|⟨j,e',v,q1,q2,q3,q4,q5⟩
   .refine .inl ⟨?_,by simp[wU,ha,q2],λu=>by simp[vW,ha,q3 u]⟩;have:(n==a)=false:=sG.2 λh=>ha h.symm;simp[Instr.findNow,Instr.sameNow,hk,this,q1]
   .refine .inr ⟨j+1,e',v,?_,aD q2,q3,by simp[wU,ha,q4],λu=> ?_⟩
    .have:(n==a)=false:=sG.2 λh=>ha h.symm;simp[Instr.findNow,Instr.sameNow,hk,this,q1,wN,PD 1 j]
    .have:=q5 u;simp only[vW,ha,decide_false,aX,mH,List.modify_succ_cons,h1,this]
theorem aGJ(H:fJ X w m h){t:TypeId}{ok:Bool}{sx si:SC}{x i:Value}{bK:Eff}(hx:dU w m (MX X m h) sx x)(hi:dU w m (MX X m h) si i)
  (he:aaS P (eB h) t sx si ok=some bK) (hc:∀q∈bK.bs,q=true):∃v,(Instr.lookup t x i ok).run P w=.ok v w/\bK.ws=[]/\eZ w m (MX X m h) bK.r v:=by
 unfold aaS at he;split at he
 .rename_i d z ht;split at he
  .rename_i k n;split at he
   .rename_i es hg;cases hx with
    |mp _ b l hk hb=>cases hi with
    |c h2=>
    cases h2;obtain⟨kt,et,inf,u1,u2,u3,u4⟩:=ao6 ht;obtain⟨l',b',rows,clock,e1,e2,e3,e4⟩:=H.obj k _ (oP hg trivial);rw[hk]at e1;cases e1;rw[hb]at e2;cases e2;unfold lkS at he;split at he
    .rename_i i0;cases hk0:A9 d (.int .i64 i0)with
     |false=>rw[hk0]at he;cases he
     |true=>
      rw[hk0]at he;cases he;have hib:tN es=true:=hc _ aj;have e4':rows.toList.map QL=es:=e4;have u2':d=.int .i64:=(by cases d<;>simp[A9]at hk0;rw[hk0]);subst u2';rcases agJ (n:=i0) rows.toList es 0 e4' hib with⟨q1,q2,_⟩|⟨j,e,v,q1,q2,q3,q4,_⟩
      .refine⟨.bool false,?_,rfl,?_⟩
       .simp[Instr.lookup,run_underlying u1,MapKept.run_getObj_map e3,MapKept.run_checkKey u2 (Zw hk0),MapKept.run_findKey u2 q1,FX u3 u4,Result.andThen]
       .rw[q2];exact .c (.val _)
      .refine⟨.bool v,?_,rfl,?_⟩
       .simp[Instr.lookup,run_underlying u1,MapKept.run_getObj_map e3,MapKept.run_checkKey u2 (Zw hk0),MapKept.run_findKey u2 q1,Result.andThen]
       .rw[q4];exact .c (.val _)
    .rcases hk0:A9 d _ with _|_;rw[hk0]at he;cases he;rw[hk0]at he;cases he;have hes:es=[]:=(by have:=hc es.isEmpty aj;simpa using this);subst hes;have hr0:rows= #[]:=(aD e4);subst hr0;refine⟨if ok then .tuple #[z,.bool false]else z,?_,rfl,?_⟩
     .simp[Instr.lookup,run_underlying u1,MapKept.run_getObj_map e3,MapKept.run_checkKey u2 (Zw hk0),MapKept.run_findKey (l:=[]) (a:=none) u2 rfl,FX u3 u4,Result.andThen]
     .rcases ok with _|_;exact aqi z;refine⟨#[z,.bool false],rfl,rfl,λi a ha=> ?_⟩
      match i,ha with
      |0,ha=>cases ha;exact aqi z
      |1,ha=>cases ha;exact .c (.val _)
      |i+2,ha=>simp at ha
   .cases he
  .cases he
 .cases he
theorem aHE(H:fJ X w m h){t:TypeId}{sx si:SC}{sv:AV}{x i v:Value}{bK:Eff}(hx:dU w m (MX X m h) sx x)(hi:dU w m (MX X m h) si i)(hv:jo w m (MX X m h) sv v)
  (he:abx P (eB h) t sx si sv=some bK) (hc:∀q∈bK.bs,q=true):
  ∃w',(Instr.mapUpdate t x i v).run P w=.ok () w'/\bK.r=fP undef/\Stp X w m h w' m (eX h bK.ws):=by
 unfold abx at he;split at he
 .rename_i d z ht;split at he
  .rename_i k n u hu;split at he
   .rename_i es hg;cases hx with
    |mp _ b l hk hb=>cases hi with
    |c h2=>
    cases h2;have hvu:=aIs hu hv;subst hvu;obtain⟨kt,et,inf,u1,u2,u3,u4⟩:=ao6 ht;have hget:=oP hg trivial;obtain⟨l',b',rows,clock,e1,e2,e3,e4⟩:=H.obj k _ hget;rw[hk]at e1;cases e1;rw[hb]at e2;cases e2;unfold ptS at he;split at he
    .rename_i i0 b0;cases hk0:A9 d (.int .i64 i0)with
     |false=>rw[hk0]at he;cases he
     |true=>
      rw[hk0]at he;cases he;have hib:tN es=true:=hc _ aj;have e4':rows.toList.map QL=es:=e4;have u2':d=.int .i64:=(by cases d<;>simp[A9]at hk0;rw[hk0]);subst u2';have hkey:MapKept.IsKey (.int .i64) (.int .i64 i0):=rfl
      have write:∀(rows':Array MapEntry) (c':Nat),rows'.toList.map QL=vW es i0 b0→
        Stp X w m h {w with heap:=w.heap.setIfInBounds b (.map rows' c')} m (eX h [(k,.ms (vW es i0 b0))]):=by
       intro rows' c' hr;refine Stp.write H hget trivial hk hb rfl rfl ⟨rfl,λ_=>gy _⟩ aj (λc _ hc=>(MapKept.heap_set e3).2 c hc) (λkG=> ?_);exact⟨l,b,rows',c',hk,hb,(MapKept.heap_set e3).1,hr⟩
      rcases agJ (n:=i0) rows.toList es 0 e4' hib with⟨q1,_,q2⟩|⟨j,e,v',q1,q2,q3,q4,q5⟩
      .refine⟨_,?_,rfl,write (rows.push {key:=.int .i64 i0,val:=.bool b0,born:=clock}) (clock+1) ?_⟩
       .simp[Instr.mapUpdate,run_underlying u1,MapKept.run_getObj_map e3,MapKept.run_checkKey u2 hkey,MapKept.run_findKey u2 q1,MapKept.run_setObj_map _ e3,Result.andThen]
       .rw[q2 b0,Array.toList_push,Pz,e4'];rfl
      .have hj:rows[j]? =some e:=(aD q2);refine⟨_,?_,rfl,write (rows.modify j λe=>{e with key:=.int .i64 i0,val:=.bool b0}) clock ?_⟩
       .simp[Instr.mapUpdate,run_underlying u1,MapKept.run_getObj_map e3,MapKept.run_checkKey u2 hkey,MapKept.run_findKey u2 q1,hj,q3,MapKept.run_keyThatStays hkey,MapKept.run_setObj_map _ e3,Result.andThen]
       .rw[Array.toList_modify];exact q5 b0
    .rcases hk0:A9 d i with _|_;rw[hk0]at he;cases he;rw[hk0]at he;cases he;have hes:es=[]:=(by have:=hc es.isEmpty aj;simpa using this);subst hes;have hr0:rows= #[]:=(aD e4);subst hr0;refine⟨{w with heap:=w.heap.setIfInBounds b (.map #[{key:=i,val:=v,born:=clock}] (clock+1))},?_,rfl,?_⟩
     .simp[Instr.mapUpdate,run_underlying u1,MapKept.run_getObj_map e3,MapKept.run_checkKey u2 (Zw hk0),MapKept.run_findKey (l:=[]) (a:=none) u2 rfl,MapKept.run_setObj_map _ e3,Result.andThen]
     .refine Stp.write H hget trivial hk hb rfl rfl ⟨rfl,λ_=>gy _⟩ aj (λc _ hc=>(MapKept.heap_set e3).2 c hc) (λkG=> ?_);exact⟨l,b,_,_,hk,hb,(MapKept.heap_set e3).1,rfl⟩
   .cases he
  .cases he
 .cases he
theorem aHz(H:fJ X w m h){t ty:TypeId}{ts:List TypeId}{x:SC}{v:Value}{bK:Eff}(hx:dU w m (MX X m h) x v)(he:PN P (eB h) t x=some bK):
  ∃u,(Builtin.len_ (t::ts).toArray ty #[v]).run P w=.ok u w/\bK.ws=[]/\eZ w m (MX X m h) bK.r u:=by
 unfold PN at he;split at he
 .rename_i k0 e0 k hu;split at he
  .rename_i es hg;cases he;cases hx with|mp _ b l hk hb=>obtain⟨l',b',rows,clock,e1,e2,e3,e4⟩:=H.obj k _ (oP hg trivial);rw[hk]at e1;cases e1;rw[hb]at e2;cases e2;refine⟨_,?_,rfl,.c (.val _)⟩;have:es.length=rows.size:=(by rw[<-e4];simp);simp[Builtin.len_,run_underlying hu,goInt,MapKept.run_getObj_map e3,Result.andThen,this]
  .cases he
 .cases he
theorem aGK(H:fJ X w m h){id:Nat}(hid:h[id]? =some .dead)(hm:m id=none){t:TypeId}{bK:Eff}(he:ah5 P t id=some bK):
  ∃w' m' v,(Instr.makeMap t none).run P w=.ok v w'/\Stp X w m h w' m' (eX h bK.ws)/\eZ w' m' (MX X m' (eX h bK.ws)) bK.r v:=by
 unfold ah5 at he;split at he
 .cases he;let l:Loc:=⟨some ⟨w.heap.size,0,none⟩,0,0,some w.heap.size,0⟩
  refine⟨w.alloc (.map #[] 0),mX m id l,.map (some w.heap.size),by simp[Instr.makeMap,Result.andThen],?_,?_⟩
  .refine Stp.make H hid hm none l (.ms []) trivial rfl rfl ⟨rfl,λ_=>gy _⟩ aj (λb hb=> .inl (TN w _ b hb)) (λb hb=> ?_) (λkG=> ?_)
   .cases hb;exact .inl (gy _)
   .exact⟨l,w.heap.size, #[],0,by simp[mX],rfl,UL w _,rfl⟩
  .exact dU.mp id w.heap.size l (by simp[mX]) rfl
 .cases he
end
end Go.AM
