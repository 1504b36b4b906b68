/- What the small functions compute, in plain words, for the program and for the reference. -/
import Derived.Test.YtodbmegkcniehaaGreatP4f6d9a545
set_option linter.unusedVariables false
set_option linter.unusedSimpArgs false
namespace Go.CP
open Go
theorem idx_eq [Fuel] {α:Type} [Inhabited α] {xs:List α} {i:Int} (h:0<=i/\i<(xs.length:Int)):idx xs i=some (xs.getD i.toNat default):=by
 unfold idx;rw [decide_eq_true h];rfl
theorem uX [Fuel] {α:Type} [Inhabited α] {xs:List α} {i:Nat} (h:i<xs.length):xs.getD i default∈xs:=by
 simp [List.getD_eq_getElem?_getD,h]
theorem acG [Fuel] {x:Int} (h1:0<=x) (h2:x<18446744073709551616):IntKind.u64.wrap x=x:=by
 simp only [IntKind.wrap,IntKind.signed,IntKind.bits,Bool.false_and,Bool.false_eq_true,if_false,show(2:Int)^64=18446744073709551616 from rfl]
 omega
def dw (c:ak) (i:Int):Int:=
 if 0<=i/\i<(c.Cells.length:Int)then(c.kT.getD (c.Cells.getD i.toNat default).Zone.toNat default).Region else -1
def hasB (set i:Int):Bool:=decide (0<=i/\i<62)&&decide (set / 2^i.toNat%2=1)
def Ou (c:ak) (t cell:Int):Bool:=decide (0<=t/\t<(c.ah.length:Int))&&hasB (c.ah.getD t.toNat default).Allowed (dw c cell)
def zn (c:ak) (a b:Int):Bool:=decide (0<=dw c a)&&decide (0<=dw c b)&&(dw c a !=dw c b)
def dF (c:ak) (a b:Int):Bool:=decide (0<=a)&&decide (0<=b)&& !(zn c a b)
section
variable {c:ak}
theorem aad [Fuel] (h:VC c) {i:Int} (hi:0<=i/\i<(c.Cells.length:Int)):0<=(c.Cells.getD i.toNat default).Zone/\(c.Cells.getD i.toNat default).Zone<(c.kT.length:Int):=
 let⟨a,b,_⟩:=h.cel _ (uX (by omega:i.toNat<c.Cells.length));⟨a,b⟩
theorem afA [Fuel] (h:VC c) (i:Int): -1<=dw c i/\dw c i<c.bK:=by
 have hr:=h.reg
 unfold dw
 split
 ·rename_i hi
  have hz:=aad h hi
  have:=h.z _ (uX (by omega:((c.Cells.getD i.toNat default).Zone).toNat<c.kT.length))
  omega
 ·omega
theorem QX [Fuel] (h:VC c) (i:Int):r9 c i=some (dw c i):=by
 unfold r9 QW dw;(try simp only [iQ,dZ])
 by_cases hi:0<=i/\i<(c.Cells.length:Int)
 ·have hz:=aad h hi
  have e1:(decide (i<0)||decide (((c.Cells.length:Nat):Int)<=i))=false:=by simp;omega
  rw [e1,if_pos hi]
  simp only [cond_false,idx_eq hi,Option.bind_some]
  rw [decide_eq_false (by omega)]
  simp only [cond_false,idx_eq hz,Option.bind_some]
 ·have e1:(decide (i<0)||decide (((c.Cells.length:Nat):Int)<=i))=true:=by simp;omega
  rw [e1,if_neg hi]
  rfl
theorem JV [Fuel] (h:VC c) {i:Int}:j6 c i=some (dw c i):=by
 have hcl:=h.cl
 have hzl:=h.zl
 unfold j6 Bw Fh dH dw;(try simp only [iQ,dZ])
 rw [bA (by omega) (by omega),bA (by omega) (by omega)]
 by_cases hi:0<=i/\i<(c.Cells.length:Int)
 ·have hz:=aad h hi
  have e1:(decide (0<=i)&&decide (i<=((c.Cells.length:Nat):Int) - 1))=true:=by simp;omega
  rw [if_pos hi]
  simp only [Option.bind_some,e1,Bool.not_true,cond_false,idx_eq hi]
  have e2:(decide (0<=(c.Cells.getD i.toNat default).Zone)&&decide ((c.Cells.getD i.toNat default).Zone<=((c.kT.length:Nat):Int) - 1))=true:=by simp only [Bool.and_eq_true,decide_eq_true_eq];omega
  simp only [e2,Bool.not_true,cond_false,idx_eq hz,Option.bind_some]
 ·have e1:(decide (0<=i)&&decide (i<=((c.Cells.length:Nat):Int) - 1))=false:=by simp;omega
  rw [if_neg hi]
  simp only [Option.bind_some,e1,Bool.not_false,cond_true]
  rfl
theorem fdiv_pow [Fuel] {s:Int} (_:0<=s) (n:Nat):s.fdiv (2^n)=s / 2^n:=Int.fdiv_eq_ediv_of_nonneg _ (Int.le_of_lt (Int.pow_pos (by decide)))
theorem QY [Fuel] {s i:Int} (hs:0<=s):GY s i=some (hasB s i):=by
 unfold GY hasB;(try simp only [iQ,dZ])
 by_cases hi:0<=i/\i<62
 ·have e:(decide (0<=i)&&decide (i<62))=true:=by simp;omega
  rw [e,acG hi.1 (by omega),decide_eq_true hi.1,decide_eq_true hi]
  simp only [Bool.not_true,Bool.or_true,chk,cond_true,Bool.true_and,oI,IntKind.bits]
  rw [Nat.min_eq_left (by omega),fdiv_pow hs,Int.tmod_eq_emod_of_nonneg (Int.ediv_nonneg hs (Int.le_of_lt (Int.pow_pos (by decide))))]
  have hm:=Int.emod_two_eq (s / 2^i.toNat)
  rcases hm with hm|hm<;>rw [hm]<;>rfl
 ·have e:(decide (0<=i)&&decide (i<62))=false:=by simp;omega
  rw [e,decide_eq_false hi]
  rfl
theorem and_one [Fuel] {s:Int} (h0:0<=s) (h1:s<9223372036854775808):jK .i64 s 1=s%2:=by
 unfold jK
 have e1:(BitVec.ofInt IntKind.i64.bits s&&&BitVec.ofInt IntKind.i64.bits 1).toNat=s.toNat%2:=by
  show(BitVec.ofInt 64 s&&&BitVec.ofInt 64 1).toNat=_
  rw [BitVec.toNat_and,BitVec.toNat_ofInt,BitVec.toNat_ofInt]
  have:(s%((2:Nat)^64:Nat)).toNat=s.toNat:=by
   have:s%((2:Nat)^64:Nat)=s:=Int.emod_eq_of_lt h0 (by simp;omega)
   rw [this]
  rw [this]
  have h2:((1:Int)%((2:Nat)^64:Nat)).toNat=1:=rfl
  rw [h2,Nat.and_one_is_mod]
 rw [e1]
 have:IntKind.i64.wrap ((s.toNat%2:Nat):Int)=((s.toNat%2:Nat):Int):=bA (by omega) (by omega)
 rw [this];omega
end
section
variable {c:ak}
theorem Vv [Fuel] (h:VC c) {t:Int} (ht:0<=t/\t<(c.ah.length:Int)):0<=(c.ah.getD t.toNat default).Allowed/\(c.ah.getD t.toNat default).Allowed<8:=by
 have hv:=h.t _ (uX (by omega:t.toNat<c.ah.length))
 have:=hv.allowed
 have:=apZ h.reg
 omega
theorem QZ [Fuel] (h:VC c) (t cell:Int):DN c t cell=some (Ou c t cell):=by
 unfold DN Ou;(try simp only [iQ,dZ])
 by_cases ht:0<=t/\t<(c.ah.length:Int)
 ·have e:(decide (0<=t)&&decide (t<((c.ah.length:Nat):Int)))=true:=by simp;omega
  have ha:=Vv h ht
  rw [e,decide_eq_true ht]
  simp only [am1 ht,cond_true,QX h,QY ha.1,Bool.true_and,Option.bind_some]
 ·have e:(decide (0<=t)&&decide (t<((c.ah.length:Nat):Int)))=false:=by simp;omega
  rw [e,decide_eq_false ht]
  rfl
theorem aae [Fuel] (h:VC c) (a b:Int):JQ c a b=some (zn c a b):=by
 unfold JQ zn;(try simp only [iQ,dZ])
 simp only [QX h,Option.bind_some]
theorem aaf [Fuel] (h:VC c) (a b:Int):pR c a b=some (dF c a b):=by
 unfold pR dF;(try simp only [iQ,dZ])
 cases (decide (0<=a)&&decide (0<=b))with
 |true=>simp only [cond_true,aae h,Option.bind_some]
 |false=>rfl
theorem Q0 [Fuel] (h:VC c) (a b:Int):Cg c a b=some (zn c a b):=by
 unfold Cg zn;(try simp only [iQ,dZ])
 simp only [JV h,Option.bind_some]
theorem aag [Fuel] (h:VC c) {s:aB} (hs:0<=s.bg) (i:Int):yt c s i=some (hasB s.bg (dw c i)):=by
 unfold yt;(try simp only [iQ,dZ])
 simp only [QX h,Option.bind_some,QY hs]
end
def Xe (l:List Int) (i n:Int):List Int:=if 0<=i/\i<(l.length:Int)then l.set i.toNat (l.getD i.toNat 0+n)else l
def book1 (l:List Int) (t:ay) (d:aW):List Int:=
 if t.Placed then
  let l:=if t.Aa then l else Xe (Xe l t.Home d.Load) t.Target d.Load
  Xe (Xe l t.aN d.pJ) t.Next d.pJ
 else l
def Je (c:ak) (ts:List ay):Nat->List Int->List Int
 |0,l=>l
 |k+1,l=>book1 (Je c ts k l) (ts.getD k default) (c.ah.getD k default)
def LQ (c:ak) (s:aB):List Int:=Je c s.ah s.ah.length (List.replicate c.Cells.length 0)
theorem DZ [Fuel] (l:List Int) (i n:Int):(Xe l i n).length=l.length:=by unfold Xe;split<;>simp
theorem am5 [Fuel] (l:List Int) (t:ay) (d:aW):(book1 l t d).length=l.length:=by
 unfold book1;split
 ·split<;>simp [DZ]
 ·rfl
theorem afB [Fuel] (c:ak) (ts:List ay) (k:Nat) (l:List Int):(Je c ts k l).length=l.length:=by
 induction k with
 |zero=>rfl
 |succ k ih=>rw [Je,am5,ih]
theorem acH [Fuel] (c:ak) (s:aB):(LQ c s).length=c.Cells.length:=by unfold LQ;rw [afB];simp
def Bd (l:List Int) (b:Int):Prop:=∀x∈l,0<=x/\x<=b
theorem xk [Fuel] {l:List Int} {b i n:Int} (h:Bd l b) (hn:0<=n/\n<=65536):Bd (Xe l i n) (b+65536):=by
 unfold Xe
 split
 ·rename_i hi
  intro x hx
  rcases List.mem_or_eq_of_mem_set hx with h1|h1
  ·have:=h x h1;omega
  ·have hm:=h _ (uX (by omega:i.toNat<l.length))
   have e:l.getD i.toNat 0=l.getD i.toNat default:=rfl
   rw [e]at h1;omega
 ·intro x hx;have:=h x hx;omega
theorem aoV [Fuel] {l:List Int} {b:Int} {t:ay} {d:aW} (h:Bd l b) (hd:0<=d.Load/\d.Load<=65536/\0<=d.pJ/\d.pJ<=65536):Bd (book1 l t d) (b+262144):=by
 unfold book1
 split
 ·split
  ·intro x hx;have:=xk (xk h ⟨hd.2.2.1,hd.2.2.2⟩) ⟨hd.2.2.1,hd.2.2.2⟩ x hx;omega
  ·intro x hx;have:=xk (xk (xk (xk h ⟨hd.1,hd.2.1⟩) ⟨hd.1,hd.2.1⟩) ⟨hd.2.2.1,hd.2.2.2⟩) ⟨hd.2.2.1,hd.2.2.2⟩ x hx;omega
 ·intro x hx;have:=h x hx;omega
theorem Vw [Fuel] {c:ak} (h:VC c) {k:Nat} (hk:k<c.ah.length):0<=(c.ah.getD k default).Load/\(c.ah.getD k default).Load<=65536/\0<=(c.ah.getD k default).pJ/\(c.ah.getD k default).pJ<=65536:=by
 have hv:=h.t _ (uX hk)
 have h1:=hv.load
 have h2:=hv.shadow
 omega
theorem ai2 [Fuel] {c:ak} (h:VC c) {ts:List ay} {l:List Int} (hl:Bd l 0):∀k,k<=c.ah.length->Bd (Je c ts k l) (262144*k)
 |0,_=>by simpa [Je]using hl
 |k+1,hk=>by
  have:=aoV (t:=ts.getD k default) (ai2 h (ts:=ts) hl k (by omega)) (Vw h (by omega:k<c.ah.length))
  intro x hx
  have:=this x hx
  push_cast
  omega
theorem YM [Fuel] {l:List Int} {b i n:Int} (h:Bd l b) (hb:b<=1000000000) (hn:0<=n/\n<=65536):JR l i n=some (Xe l i n)/\NM l i n=some (Xe l i n):=by
 unfold JR NM Xe;(try simp only [iQ,dZ])
 by_cases hi:0<=i/\i<(l.length:Int)
 ·have e:(decide (0<=i)&&decide (i<((l.length:Nat):Int)))=true:=by simp;omega
  have hm:=h _ (uX (by omega:i.toNat<l.length))
  rw [e,if_pos hi]
  have e0:l.getD i.toNat 0=l.getD i.toNat default:=rfl
  simp only [cond_true,idx_eq hi,Option.bind_some]
  rw [bA (by omega) (by omega),e0]
  exact⟨rfl,rfl⟩
 ·have e:(decide (0<=i)&&decide (i<((l.length:Nat):Int)))=false:=by simp;omega
  rw [e,if_neg hi]
  exact⟨rfl,rfl⟩
section
variable {c:ak} {s:aB}
theorem aah [Fuel] (h:VC c) (hl:s.ah.length=c.ah.length) {l0:List Int} (h0:Bd l0 0) {k:Nat} (hk:k<s.ah.length):Bd (Je c s.ah k l0) 8388608:=by
 have htl:=h.tl
 intro x hx
 have:=ai2 h (ts:=s.ah) h0 k (by omega) x hx
 omega
theorem TA [Fuel] (h:VC c) (hl:s.ah.length=c.ah.length) {l0:List Int} (h0:Bd l0 0):
  ∀(m k:Nat),s.ah.length - k<m->k<=s.ah.length->nO c s m (Je c s.ah k l0) (k:Int)=some (Je c s.ah s.ah.length l0)
 |0,_,hm,_=>absurd hm (Nat.not_lt_zero _)
 | m +1,k,hm,hk=>by
  have htl:=h.tl
  rw [nO];(try simp only [iQ,dZ])
  by_cases hlt:k<s.ah.length
  ·rw [decide_eq_true (show(k:Int)<((s.ah.length:Nat):Int)by omega)]
   have i1:0<=(k:Int)/\(k:Int)<((s.ah.length:Nat):Int):=by omega
   have i2:0<=(k:Int)/\(k:Int)<((c.ah.length:Nat):Int):=by omega
   simp only [cond_true,idx_eq i1,idx_eq i2,Option.bind_some,Int.toNat_natCast]
   have hb:=aah h hl h0 hlt
   have hd:=Vw h (by omega:k<c.ah.length)
   have next:nO c s m (Je c s.ah (k+1) l0) (w64 ((k:Int)+1))=some (Je c s.ah s.ah.length l0):=by
    rw [bA (by omega) (by omega)]
    have:=TA h hl h0 m (k+1) (by omega) (by omega)
    simpa using this
   simp only [Je]at next
   generalize hT:s.ah.getD k default=t at next⊢
   generalize hD:c.ah.getD k default=d at next hd⊢
   generalize hL:Je c s.ah k l0=l at next hb⊢
   unfold book1 at next
   unfold DX DW;(try simp only [iQ,dZ])
   cases hp:t.Placed with
   |false=>simp only [hp,Bool.not_false,cond_true,Bool.false_eq_true,if_false]at next⊢;exact next
   | true=>
    simp only [hp,Bool.not_true,cond_false,if_true]at next⊢
    cases hs:t.Aa with
    |true=>
     simp only [hs,Bool.not_true,cond_false,if_true]at next⊢
     have a1:=(YM (i:=t.aN) hb (by omega) ⟨hd.2.2.1,hd.2.2.2⟩).1
     have b1:=xk (i:=t.aN) hb ⟨hd.2.2.1,hd.2.2.2⟩
     have a2:=(YM (i:=t.Next) b1 (by omega) ⟨hd.2.2.1,hd.2.2.2⟩).1
     simp only [a1,a2,Option.bind_some,DZ,decide_true,chk,cond_true]
     exact next
    |false=>
     simp only [hs,Bool.not_false,cond_true,Bool.false_eq_true,if_false]at next⊢
     have a1:=(YM (i:=t.Home) hb (by omega) ⟨hd.1,hd.2.1⟩).1
     have b1:=xk (i:=t.Home) hb ⟨hd.1,hd.2.1⟩
     have a2:=(YM (i:=t.Target) b1 (by omega) ⟨hd.1,hd.2.1⟩).1
     have b2:=xk (i:=t.Target) b1 ⟨hd.1,hd.2.1⟩
     have a3:=(YM (i:=t.aN) b2 (by omega) ⟨hd.2.2.1,hd.2.2.2⟩).1
     have b3:=xk (i:=t.aN) b2 ⟨hd.2.2.1,hd.2.2.2⟩
     have a4:=(YM (i:=t.Next) b3 (by omega) ⟨hd.2.2.1,hd.2.2.2⟩).1
     simp only [a1,a2,a3,a4,Option.bind_some,DZ,decide_true,chk,cond_true]
     exact next
  ·rw [decide_eq_false (show¬(k:Int)<((s.ah.length:Nat):Int)by omega)]
   have:k=s.ah.length:=by omega
   subst this
   rfl
theorem Vx [Fuel] (h:VC c) (hl:s.ah.length=c.ah.length) {l0:List Int} (h0:Bd l0 0):
  ∀(m k:Nat),s.ah.length - k<m->k<=s.ah.length->pO c s ((s.ah.length:Nat):Int) m (Je c s.ah k l0) (k:Int)=some (Je c s.ah s.ah.length l0)
 |0,_,hm,_=>absurd hm (Nat.not_lt_zero _)
 | m +1,k,hm,hk=>by
  have htl:=h.tl
  rw [pO];(try simp only [iQ,dZ])
  by_cases hlt:k<s.ah.length
  ·rw [decide_eq_true (show(k:Int)<((s.ah.length:Nat):Int)by omega)]
   have i1:0<=(k:Int)/\(k:Int)<((s.ah.length:Nat):Int):=by omega
   have i2:0<=(k:Int)/\(k:Int)<((c.ah.length:Nat):Int):=by omega
   simp only [cond_true,idx_eq i1,idx_eq i2,Option.bind_some,Int.toNat_natCast]
   have hb:=aah h hl h0 hlt
   have hd:=Vw h (by omega:k<c.ah.length)
   have next:pO c s ((s.ah.length:Nat):Int) m (Je c s.ah (k+1) l0) (w64 ((k:Int)+1))=some (Je c s.ah s.ah.length l0):=by
    rw [bA (by omega) (by omega)]
    have:=Vx h hl h0 m (k+1) (by omega) (by omega)
    simpa using this
   simp only [Je]at next
   generalize hT:s.ah.getD k default=t at next⊢
   generalize hD:c.ah.getD k default=d at next hd⊢
   generalize hL:Je c s.ah k l0=l at next hb⊢
   unfold book1 at next
   unfold F8 F7 Um;(try simp only [iQ,dZ])
   cases hp:t.Placed with
   |false=>simp only [hp,Bool.not_false,cond_true,Bool.false_eq_true,if_false]at next⊢;exact next
   | true=>
    simp only [hp,Bool.not_true,cond_false,if_true,Option.bind_some,Bool.true_and]at next⊢
    cases hs:t.Aa with
    |true=>
     simp only [hs,Bool.not_true,cond_false,if_true]at next⊢
     have a1:=(YM (i:=t.aN) hb (by omega) ⟨hd.2.2.1,hd.2.2.2⟩).2
     have b1:=xk (i:=t.aN) hb ⟨hd.2.2.1,hd.2.2.2⟩
     have a2:=(YM (i:=t.Next) b1 (by omega) ⟨hd.2.2.1,hd.2.2.2⟩).2
     simp only [a1,a2,Option.bind_some,DZ,decide_true,chk,cond_true]
     exact next
    |false=>
     simp only [hs,Bool.not_false,cond_true,Bool.false_eq_true,if_false]at next⊢
     have a1:=(YM (i:=t.Home) hb (by omega) ⟨hd.1,hd.2.1⟩).2
     have b1:=xk (i:=t.Home) hb ⟨hd.1,hd.2.1⟩
     have a2:=(YM (i:=t.Target) b1 (by omega) ⟨hd.1,hd.2.1⟩).2
     have b2:=xk (i:=t.Target) b1 ⟨hd.1,hd.2.1⟩
     have a3:=(YM (i:=t.aN) b2 (by omega) ⟨hd.2.2.1,hd.2.2.2⟩).2
     have b3:=xk (i:=t.aN) b2 ⟨hd.2.2.1,hd.2.2.2⟩
     have a4:=(YM (i:=t.Next) b3 (by omega) ⟨hd.2.2.1,hd.2.2.2⟩).2
     simp only [a1,a2,a3,a4,Option.bind_some,DZ,decide_true,chk,cond_true]
     exact next
  ·rw [decide_eq_false (show¬(k:Int)<((s.ah.length:Nat):Int)by omega)]
   have:k=s.ah.length:=by omega
   subst this
   rfl
theorem am6 [Fuel] (n:Nat):Bd (List.replicate n 0) 0:=by intro x hx;rw [List.eq_of_mem_replicate hx];omega
theorem afC [Fuel] (h:VC c) (hl:s.ah.length=c.ah.length):K6 c s=some (LQ c s):=by
 have hcl:=h.cl
 have htl:=h.tl
 unfold K6 LQ;(try simp only [iQ,dZ])
 rw [decide_eq_true (by omega)]
 have:=TA h hl (am6 c.Cells.length) fuel 0 (by rw [lX];omega) (by omega)
 simpa [chk,Je]using this
theorem ahB [Fuel] (h:VC c) (hl:s.ah.length=c.ah.length):NN c s=some (LQ c s):=by
 have hcl:=h.cl
 have htl:=h.tl
 unfold NN LQ W9;(try simp only [iQ,dZ])
 rw [decide_eq_true (by omega)]
 have:=Vx h hl (am6 c.Cells.length) fuel 0 (by rw [lX];omega) (by omega)
 simpa [chk,Je,Qq,hl]using this
end
def LU (c:ak) (b:List Int):Nat->List Int
 |0=> []
 |k+1=>if(c.Cells.getD k default).kS<b.getD k 0 then LU c b k++ [(k:Int)]else LU c b k
def JW (c:ak) (s:aB):List Int:=LU c (LQ c s) c.Cells.length
theorem aai [Fuel] (c:ak) (b:List Int):∀k,(LU c b k).length<=k
 |0=>Nat.le_refl 0
 |k+1=>by
  have:=aai c b k
  rw [LU];split
  ·simp;omega
  ·omega
section
variable {c:ak} {b:List Int}
theorem XU [Fuel] (h:VC c) (hl:b.length=c.Cells.length):∀(m k:Nat),c.Cells.length - k<m->k<=c.Cells.length->uW c b m (LU c b k) (k:Int)=some (LU c b c.Cells.length)
 |0,_,hm,_=>absurd hm (Nat.not_lt_zero _)
 | m+1,k,hm,hk=>by
  have hcl:=h.cl
  have hol:=aai c b k
  rw [uW];(try simp only [iQ,dZ])
  by_cases hlt:k<c.Cells.length
  ·rw [decide_eq_true (show(k:Int)<((b.length:Nat):Int)by omega)]
   have i1:0<=(k:Int)/\(k:Int)<((b.length:Nat):Int):=by omega
   have i2:0<=(k:Int)/\(k:Int)<((c.Cells.length:Nat):Int):=by omega
   simp only [cond_true,idx_eq i1,idx_eq i2,Option.bind_some,Int.toNat_natCast]
   have next:uW c b m (LU c b (k+1)) (w64 ((k:Int)+1))=some (LU c b c.Cells.length):=by
    rw [bA (by omega) (by omega)]
    have:=XU h hl m (k+1) (by omega) (by omega)
    simpa using this
   simp only [LU]at next
   unfold I8;(try simp only [iQ,dZ])
   have e0:b.getD k 0=b.getD k default:=rfl
   rw [e0]at next
   by_cases hc:(c.Cells.getD k default).kS<b.getD k default
   ·rw [if_pos hc]at next
    rw [decide_eq_true hc,decide_eq_true (show((LU c b k).length+ [(k:Int)].length)*8<=140737488355328 by simp;omega)]
    exact next
   ·rw [if_neg hc]at next
    rw [decide_eq_false hc]
    exact next
  ·rw [decide_eq_false (show¬(k:Int)<((b.length:Nat):Int)by omega)]
   have:k=c.Cells.length:=by omega
   subst this
   rfl
theorem akH [Fuel] (h:VC c) {s:aB} (hl:s.ah.length=c.ah.length):Sm c s=some (JW c s):=by
 have hcl:=h.cl
 unfold Sm JW;(try simp only [iQ,dZ])
 rw [afC h hl]
 have:=XU h (acH c s) fuel 0 (by rw [lX];omega) (by omega)
 simpa [LU]using this
end
end Go.CP
namespace Go.CP
open Go
def tOk (c:ak) (e:aA):Prop:=0<=e.aD/\e.aD<(c.ah.length:Int)
def cOk (c:ak) (e:aA):Prop:=0<=e.Cell/\e.Cell<(c.Cells.length:Int)
def oN (e:aA):Prop:=e.Other= -1
def eN (e:aA):Prop:=e.Epoch=0/\e.From=0/\e.Until=0
def vOk (c:ak) (e:aA):Prop:=0<=e.N/\e.N<(c.bf.length:Int)
inductive JX (c:ak) (e:aA):Prop
 |place (k:e.Kind=1) (t:tOk c e) (ce:cOk c e) (o: -1<=e.Other/\e.Other<(c.Cells.length:Int)/\e.Other≠e.Cell) (w:eN e) (n:e.N=0)
 |grant (k:e.Kind=2) (t:tOk c e) (ce:cOk c e) (o:oN e) (ep:1<=e.Epoch/\e.Epoch<=1048576) (w:0<=e.From/\e.From<=1073741824/\0<=e.Until/\e.Until<=1073741824) (n:vOk c e)
 |cut (k:e.Kind=3) (t:tOk c e) (ce:e.Cell= -1) (o:oN e) (ep:1<=e.Epoch/\e.Epoch<=1048576) (w:e.From=0/\e.Until=0) (n:e.N=0)
 |JY (k:e.Kind=4) (t:tOk c e) (ce: -1<=e.Cell/\e.Cell<(c.Cells.length:Int)) (o:oN e) (w:eN e) (n:e.N=0)
 |ready (k:e.Kind=5) (t:tOk c e) (ce:cOk c e) (o:oN e) (w:eN e) (n:e.N=0)
 |migrate (k:e.Kind=6) (t:tOk c e) (ce:cOk c e) (o:oN e) (w:eN e) (n:e.N=0)
 |abandon (k:e.Kind=7) (t:tOk c e) (ce:e.Cell= -1) (o:oN e) (w:eN e) (n:e.N=0)
 |shed (k:e.Kind=8) (t:tOk c e) (ce:e.Cell= -1) (o:oN e) (w:eN e) (n:e.N=0\/e.N=1)
 |mode (k:e.Kind=9) (t:e.aD= -1) (ce:cOk c e) (o:oN e) (w:eN e) (n:1<=e.N/\e.N<=3)
 |want (k:e.Kind=10) (t:e.aD= -1) (ce:cOk c e) (o:oN e) (w:eN e) (n:vOk c e)
 |runs (k:e.Kind=11) (t:e.aD= -1) (ce:cOk c e) (o:oN e) (w:eN e) (n:vOk c e)
 |prove (k:e.Kind=12) (t:e.aD= -1) (ce:e.Cell= -1) (o:oN e) (w:eN e) (n:vOk c e)
 |XW (k:e.Kind=13) (t:e.aD= -1) (ce:e.Cell= -1) (o:0<=e.Other/\e.Other<c.bK) (w:eN e) (n:e.N=0\/e.N=1)
 |expand (k:e.Kind=14) (t:e.aD= -1) (ce:e.Cell= -1) (o:oN e) (w:eN e) (n:e.N=0)
 |contract (k:e.Kind=15) (t:e.aD= -1) (ce:e.Cell= -1) (o:oN e) (w:eN e) (n:e.N=0)
 |note (k:e.Kind=16) (t:e.aD= -1) (ce:e.Cell= -1) (o:oN e) (w:eN e) (n:0<=e.N/\e.N<=1073741824)
def ai3 (c:ak) (e:aA):Prop:=(0<=e.Tick/\e.Tick<=1073741824)/\JX c e
section
variable {c:ak} {e:aA}
def avw (k:Int):List Int:=([[],[116,99,111],[116,99,101,119,118],[116,101],[116,67],[116,99],[116,99],[116],[116,98],[99,109],[99,118],[99,118],[118],[114,98],[],[],[110]]:List (List Int)).getD k.toNat []
def qm (k b:Int):Bool:=(avw k).contains b
theorem am7 [Fuel] {k:Int} (h:1<=k/\k<=16):k=1\/k=2\/k=3\/k=4\/k=5\/k=6\/k=7\/k=8\/k=9\/k=10\/k=11\/k=12\/k=13\/k=14\/k=15\/k=16:=by omega
theorem aq4 [Fuel] {k b:Int} {r:Option Bool} (h:((Xd k).bind λx=>K4 b x 18446744073709551616 0)=r):jL k b=r:=by
 unfold jL;rw [lX];exact h
theorem aaj [Fuel] {k:Int} (h:1<=k/\k<=16) {b:Int} (hb:b=116\/b=99\/b=67\/b=111\/b=114\/b=101\/b=119\/b=118\/b=98\/b=109\/b=110):jL k b=some (qm k b):=by
 rcases am7 h with rfl|rfl|rfl|rfl|rfl|rfl|rfl|rfl|rfl|rfl|rfl|rfl|rfl|rfl|rfl|rfl<;>rcases hb with rfl|rfl|rfl|rfl|rfl|rfl|rfl|rfl|rfl|rfl|rfl<;>exact aq4 rfl
def inB (x a b:Int):Bool:=decide (a<=x)&&decide (x<=b)
theorem aAY [Fuel] (x a b:Int):rM x a b=some (inB x a b):=rfl
def plB (c:ak) (e:aA) (t g G o r:Bool):Bool:=
 !(!(t==(e.aD !=(-1)))||(t&& !inB e.aD 0 (((c.ah.length:Nat):Int) - 1)))&& !(g&& !inB e.Cell 0 (((c.Cells.length:Nat):Int) - 1))&& !(G&& !inB e.Cell (-1) (((c.Cells.length:Nat):Int) - 1))&& !((!g&& !G)&&(e.Cell !=(-1)))
  && !(o&&(!inB e.Other (-1) (((c.Cells.length:Nat):Int) - 1)||(e.Other==e.Cell)))&& !(r&& !inB e.Other 0 (c.bK - 1))&& !((!o&& !r)&&(e.Other !=(-1)))
def lastB (c:ak) (e:aA) (v b m n:Bool):Bool:=bif v then inB e.N 0 (((c.bf.length:Nat):Int) - 1)else bif b then inB e.N 0 1 else bif m then inB e.N 1 3 else bif n then inB e.N 0 1073741824 else(e.N==0)
def nuB (c:ak) (e:aA) (p w v b m n:Bool):Bool:=
 !(p&& !inB e.Epoch 1 1048576)&& !(!p&&(e.Epoch !=0))&& !(w&&(!inB e.From 0 1073741824|| !inB e.Until 0 1073741824))&& !(!w&&((e.From !=0)||(e.Until !=0)))&&lastB c e v b m n
def adB (c:ak) (e:aA) (t g G o r p w v b m n:Bool):Bool:=plB c e t g G o r&&nuB c e p w v b m n
theorem aoW [Fuel] (h:VC c) (hk:1<=e.Kind/\e.Kind<=16):Co e ((c.ah.length:Nat):Int) ((c.Cells.length:Nat):Int) c.bK=some (plB c e (qm e.Kind 116) (qm e.Kind 99) (qm e.Kind 67) (qm e.Kind 111) (qm e.Kind 114)):=by
 have htl:=h.tl;have hcl:=h.cl;have aa4:=h.reg
 unfold Co yj yh plB
 rw [bA (x:=((c.ah.length:Nat):Int) - 1) (by omega) (by omega),bA (x:=((c.Cells.length:Nat):Int) - 1) (by omega) (by omega),bA (x:=c.bK - 1) (by omega) (by omega)]
 rw [aaj hk (b:=116) (by simp),aaj hk (b:=99) (by simp),aaj hk (b:=67) (by simp),aaj hk (b:=111) (by simp),aaj hk (b:=114) (by simp)]
 simp only [aAY]
 generalize qm e.Kind 116=f1
 generalize qm e.Kind 99=f2
 generalize qm e.Kind 67=f3
 generalize qm e.Kind 111=f4
 generalize qm e.Kind 114=f5
 generalize (e.aD !=(-1))=a0
 generalize inB e.aD 0 (((c.ah.length:Nat):Int) - 1)=a1
 generalize inB e.Cell 0 (((c.Cells.length:Nat):Int) - 1)=a2
 generalize inB e.Cell (-1) (((c.Cells.length:Nat):Int) - 1)=a3
 generalize (e.Cell !=(-1))=a4
 generalize inB e.Other (-1) (((c.Cells.length:Nat):Int) - 1)=a5
 generalize (e.Other==e.Cell)=a6
 generalize inB e.Other 0 (c.bK - 1)=a7
 generalize (e.Other !=(-1))=a8
 revert f1 f2 f3 f4 f5 a0 a1 a2 a3 a4 a5 a6 a7 a8
 decide+kernel
theorem am8 [Fuel] (h:VC c) (hk:1<=e.Kind/\e.Kind<=16):yU e ((c.bf.length:Nat):Int)=some (nuB c e (qm e.Kind 101) (qm e.Kind 119) (qm e.Kind 118) (qm e.Kind 98) (qm e.Kind 109) (qm e.Kind 110)):=by
 have hvl:=h.vl
 have k1:∀x:Bool,vW e ((c.bf.length:Nat):Int) e.Kind x=some (!x&&lastB c e (qm e.Kind 118) (qm e.Kind 98) (qm e.Kind 109) (qm e.Kind 110)):=by
  intro x
  unfold vW lastB
  rw [bA (x:=((c.bf.length:Nat):Int) - 1) (by omega) (by omega)]
  rw [aaj hk (b:=118) (by simp),aaj hk (b:=98) (by simp),aaj hk (b:=109) (by simp),aaj hk (b:=110) (by simp)]
  generalize qm e.Kind 118=f1
  generalize qm e.Kind 98=f2
  generalize qm e.Kind 109=f3
  generalize qm e.Kind 110=f4
  cases x<;>cases f1<;>cases f2<;>cases f3<;>cases f4<;>rfl
 unfold yU Bo nuB
 simp only [k1]
 rw [aaj hk (b:=101) (by simp),aaj hk (b:=119) (by simp)]
 simp only [aAY]
 generalize qm e.Kind 101=f1
 generalize qm e.Kind 119=f2
 generalize lastB c e (qm e.Kind 118) (qm e.Kind 98) (qm e.Kind 109) (qm e.Kind 110)=a0
 generalize inB e.Epoch 1 1048576=a1
 generalize (e.Epoch !=0)=a2
 generalize inB e.From 0 1073741824=a3
 generalize inB e.Until 0 1073741824=a4
 generalize (e.From !=0)=a5
 generalize (e.Until !=0)=a6
 revert f1 f2 a0 a1 a2 a3 a4 a5 a6
 decide+kernel
theorem tB [Fuel] (b:Bool):(true==b)=b:=by cases b<;>rfl
theorem fB [Fuel] (b:Bool):(false==b)= !b:=by cases b<;>rfl
theorem aq5 [Fuel]:(e.Kind=1->(adB c e true true false true false false false false false false false=true ↔ JX c e))∧
  (e.Kind=2->(adB c e true true false false false true true true false false false=true ↔ JX c e))∧
  (e.Kind=3->(adB c e true false false false false true false false false false false=true ↔ JX c e))∧
  (e.Kind=4->(adB c e true false true false false false false false false false false=true ↔ JX c e))∧
  (e.Kind=5->(adB c e true true false false false false false false false false false=true ↔ JX c e))∧
  (e.Kind=6->(adB c e true true false false false false false false false false false=true ↔ JX c e))∧
  (e.Kind=7->(adB c e true false false false false false false false false false false=true ↔ JX c e))∧
  (e.Kind=8->(adB c e true false false false false false false false true false false=true ↔ JX c e))∧
  (e.Kind=9->(adB c e false true false false false false false false false true false=true ↔ JX c e))∧
  (e.Kind=10->(adB c e false true false false false false false true false false false=true ↔ JX c e))∧
  (e.Kind=11->(adB c e false true false false false false false true false false false=true ↔ JX c e))∧
  (e.Kind=12->(adB c e false false false false false false false true false false false=true ↔ JX c e))∧
  (e.Kind=13->(adB c e false false false false true false false false true false false=true ↔ JX c e))∧
  (e.Kind=14->(adB c e false false false false false false false false false false false=true ↔ JX c e))∧
  (e.Kind=15->(adB c e false false false false false false false false false false false=true ↔ JX c e))∧
  (e.Kind=16->(adB c e false false false false false false false false false false true=true ↔ JX c e)):=by
 refine⟨λhk=> ?_,λhk=> ?_,λhk=> ?_,λhk=> ?_,λhk=> ?_,λhk=> ?_,λhk=> ?_,λhk=> ?_,λhk=> ?_,λhk=> ?_,λhk=> ?_,λhk=> ?_,λhk=> ?_,λhk=> ?_,λhk=> ?_,λhk=> ?_⟩<;>unfold adB plB nuB lastB inB<;>
  simp only [Bool.and_eq_true,decide_eq_true_eq,Bool.not_eq_true',bne_iff_ne,ne_eq,beq_iff_eq,beq_eq_false_iff_ne,bne_eq_false_iff_eq,Bool.true_and,Bool.false_and,Bool.and_true,Bool.not_true,Bool.not_false,Bool.or_false,Bool.false_or,cond_true,cond_false,Bool.or_eq_false_iff,Bool.not_eq_false',tB,fB,true_and,and_true]<;>constructor<;>intro q
 ·refine .place hk ?_ ?_ ?_ ?_ ?_<;>first|(simp only [tOk,cOk,oN,eN,vOk];omega)|omega
 ·cases q<;>simp only [tOk,cOk,oN,eN,vOk]at* <;>omega
 ·refine .grant hk ?_ ?_ ?_ ?_ ?_ ?_<;>first|(simp only [tOk,cOk,oN,eN,vOk];omega)|omega
 ·cases q<;>simp only [tOk,cOk,oN,eN,vOk]at* <;>omega
 ·refine .cut hk ?_ ?_ ?_ ?_ ?_ ?_<;>first|(simp only [tOk,cOk,oN,eN,vOk];omega)|omega
 ·cases q<;>simp only [tOk,cOk,oN,eN,vOk]at* <;>omega
 ·refine .JY hk ?_ ?_ ?_ ?_ ?_<;>first|(simp only [tOk,cOk,oN,eN,vOk];omega)|omega
 ·cases q<;>simp only [tOk,cOk,oN,eN,vOk]at* <;>omega
 ·refine .ready hk ?_ ?_ ?_ ?_ ?_<;>first|(simp only [tOk,cOk,oN,eN,vOk];omega)|omega
 ·cases q<;>simp only [tOk,cOk,oN,eN,vOk]at* <;>omega
 ·refine .migrate hk ?_ ?_ ?_ ?_ ?_<;>first|(simp only [tOk,cOk,oN,eN,vOk];omega)|omega
 ·cases q<;>simp only [tOk,cOk,oN,eN,vOk]at* <;>omega
 ·refine .abandon hk ?_ ?_ ?_ ?_ ?_<;>first|(simp only [tOk,cOk,oN,eN,vOk];omega)|omega
 ·cases q<;>simp only [tOk,cOk,oN,eN,vOk]at* <;>omega
 ·refine .shed hk ?_ ?_ ?_ ?_ ?_<;>first|(simp only [tOk,cOk,oN,eN,vOk];omega)|omega
 ·cases q<;>simp only [tOk,cOk,oN,eN,vOk]at* <;>omega
 ·refine .mode hk ?_ ?_ ?_ ?_ ?_<;>first|(simp only [tOk,cOk,oN,eN,vOk];omega)|omega
 ·cases q<;>simp only [tOk,cOk,oN,eN,vOk]at* <;>omega
 ·refine .want hk ?_ ?_ ?_ ?_ ?_<;>first|(simp only [tOk,cOk,oN,eN,vOk];omega)|omega
 ·cases q<;>simp only [tOk,cOk,oN,eN,vOk]at* <;>omega
 ·refine .runs hk ?_ ?_ ?_ ?_ ?_<;>first|(simp only [tOk,cOk,oN,eN,vOk];omega)|omega
 ·cases q<;>simp only [tOk,cOk,oN,eN,vOk]at* <;>omega
 ·refine .prove hk ?_ ?_ ?_ ?_ ?_<;>first|(simp only [tOk,cOk,oN,eN,vOk];omega)|omega
 ·cases q<;>simp only [tOk,cOk,oN,eN,vOk]at* <;>omega
 ·refine .XW hk ?_ ?_ ?_ ?_ ?_<;>first|(simp only [tOk,cOk,oN,eN,vOk];omega)|omega
 ·cases q<;>simp only [tOk,cOk,oN,eN,vOk]at* <;>omega
 ·refine .expand hk ?_ ?_ ?_ ?_ ?_<;>first|(simp only [tOk,cOk,oN,eN,vOk];omega)|omega
 ·cases q<;>simp only [tOk,cOk,oN,eN,vOk]at* <;>omega
 ·refine .contract hk ?_ ?_ ?_ ?_ ?_<;>first|(simp only [tOk,cOk,oN,eN,vOk];omega)|omega
 ·cases q<;>simp only [tOk,cOk,oN,eN,vOk]at* <;>omega
 ·refine .note hk ?_ ?_ ?_ ?_ ?_<;>first|(simp only [tOk,cOk,oN,eN,vOk];omega)|omega
 ·cases q<;>simp only [tOk,cOk,oN,eN,vOk]at* <;>omega
theorem aoX [Fuel] (h:VC c) (hk:1<=e.Kind/\e.Kind<=16):∃b,(Option.bind (Co e ((c.ah.length:Nat):Int) ((c.Cells.length:Nat):Int) c.bK) λx8=>Option.bind (bif x8 then yU e ((c.bf.length:Nat):Int)else some default) λx9=>some (x8&&x9))=some b/\(b=true ↔ JX c e):=by
 rw [aoW h hk,am8 h hk]
 refine⟨adB c e (qm e.Kind 116) (qm e.Kind 99) (qm e.Kind 67) (qm e.Kind 111) (qm e.Kind 114) (qm e.Kind 101) (qm e.Kind 119) (qm e.Kind 118) (qm e.Kind 98) (qm e.Kind 109) (qm e.Kind 110),?_,?_⟩
 ·unfold adB
  rw [Option.bind_some]
  cases plB c e (qm e.Kind 116) (qm e.Kind 99) (qm e.Kind 67) (qm e.Kind 111) (qm e.Kind 114)<;>rfl
 ·obtain⟨h1,h2,h3,h4,h5,h6,h7,h8,h9,h10,h11,h12,h13,h14,h15,h16⟩:= @aq5 _ c e
  rcases am7 hk with hk|hk|hk|hk|hk|hk|hk|hk|hk|hk|hk|hk|hk|hk|hk|hk<;>rw [hk]
  ·exact h1 hk
  ·exact h2 hk
  ·exact h3 hk
  ·exact h4 hk
  ·exact h5 hk
  ·exact h6 hk
  ·exact h7 hk
  ·exact h8 hk
  ·exact h9 hk
  ·exact h10 hk
  ·exact h11 hk
  ·exact h12 hk
  ·exact h13 hk
  ·exact h14 hk
  ·exact h15 hk
  ·exact h16 hk
theorem JX.range [Fuel] (h:JX c e):1<=e.Kind/\e.Kind<=16:=by cases h<;>omega
theorem ahC [Fuel] (h:VC c):∃b,FE c e=some b/\(b=true ↔ ai3 c e):=by
 have htl:=h.tl;have hcl:=h.cl;have hvl:=h.vl;have aa4:=h.reg
 have m1:Qq ((c.ah.length:Nat):Int) 32=((c.ah.length:Nat):Int):=by unfold Qq;split<;>omega
 have m2:Qq ((c.Cells.length:Nat):Int) 16=((c.Cells.length:Nat):Int):=by unfold Qq;split<;>omega
 have m3:Qq c.bK 4=c.bK:=by unfold Qq;split<;>omega
 have m4:Qq ((c.bf.length:Nat):Int) 30=((c.bf.length:Nat):Int):=by unfold Qq;split<;>omega
 unfold FE Ut rM;(try simp only [iQ,dZ])
 simp only [m1,m2,m3,m4,Option.bind_some]
 by_cases hk:1<=e.Kind/\e.Kind<=16
 ·have ek:(decide (1<=e.Kind)&&decide (e.Kind<=16))=true:=by simp;omega
  by_cases ht:0<=e.Tick/\e.Tick<=1073741824
  ·have et:(decide (0<=e.Tick)&&decide (e.Tick<=1073741824))=true:=by simp;omega
   obtain⟨b,hb,hiff⟩:=aoX h hk
   simp only [ek,et,cond_true,Bool.true_and,Option.bind_some]
   refine⟨b,?_,by rw [hiff];exact⟨λq=>⟨ht,q⟩,λq=>q.2⟩⟩
   generalize Co e ((c.ah.length:Nat):Int) ((c.Cells.length:Nat):Int) c.bK=A at hb⊢
   cases A with
   |none=>cases hb
   |some x=>simp only [Option.bind_some]at hb⊢;rw [<-hb];cases x<;>cases yU e ((c.bf.length:Nat):Int)<;>rfl
  ·have et:(decide (0<=e.Tick)&&decide (e.Tick<=1073741824))=false:=by simp;omega
   simp only [ek,et,cond_true,cond_false,Bool.and_false,Bool.false_and,Option.bind_some]
   exact⟨false,rfl,λq=>Bool.noConfusion q,λq=>absurd q.1 ht⟩
 ·have ek:(decide (1<=e.Kind)&&decide (e.Kind<=16))=false:=by simp;omega
  simp only [ek,cond_false,Bool.false_and,Option.bind_some]
  exact⟨false,rfl,λq=>Bool.noConfusion q,λq=>absurd q.2.range hk⟩
end
end Go.CP
namespace Go.CP
open Go
def aq6:aB:={Tick:=0,Count:=0,ah:= [],Cells:= [],jV:=0,bg:=0,Low:=0,High:=0}
def noS (e:Int):aB×Int:=(aq6,e)
def Vy (c:ak) (s:aB):aB×Int:=bif decide (0<(((JW c s).length:Nat):Int))then noS 10 else(s,0)
def tAt (s:aB) (i:Int):ay:=s.ah.getD i.toNat default
def cAt (s:aB) (i:Int):aH:=s.Cells.getD i.toNat default
def Bq (s:aB) (i:Int) (t:ay):aB:={s with ah:=s.ah.set i.toNat t}
def adC (s:aB) (i:Int) (t:aH):aB:={s with Cells:=s.Cells.set i.toNat t}
def Zd (c:ak) (s:aB) (i:Int):Bool:=hasB s.bg (dw c i)
structure TS (c:ak) (x:ay):Prop where
 home: -1<=x.Home/\x.Home<(c.Cells.length:Int)
 sb: -1<=x.aN/\x.aN<(c.Cells.length:Int)
 nx: -1<=x.Next/\x.Next<(c.Cells.length:Int)
 tg: -1<=x.Target/\x.Target<(c.Cells.length:Int)
 wc: -1<=x.Window.Cell/\x.Window.Cell<(c.Cells.length:Int)
 pl:x.Placed=true->0<=x.Home
 sh:x.Aa=true->x.Placed=true
 ep:0<=x.Epoch/\x.Epoch<=1048576
 we:0<=x.Window.Epoch/\x.Window.Epoch<=1048576
 wv:0<=x.Window.Version/\x.Window.Version<(c.bf.length:Int)
 wf:0<=x.Window.From/\x.Window.From<=x.Window.Until/\x.Window.Until<=1073741824
structure CS (c:ak) (x:aH):Prop where
 mode:1<=x.Mode/\x.Mode<=3
 run:0<=x.Running/\x.Running<(c.bf.length:Int)
 wan:0<=x.Wanted/\x.Wanted<(c.bf.length:Int)
 sin:0<=x.Since/\x.Since<=1073741824
structure VS (c:ak) (s:aB):Prop where
 tl:s.ah.length=c.ah.length
 cl:s.Cells.length=c.Cells.length
 t:∀x∈s.ah,TS c x
 cel:∀x∈s.Cells,CS c x
 tick:0<=s.Tick/\s.Tick<=1073741824
 cnt:0<=s.Count/\s.Count<=4096
 aln:0<=s.jV/\s.jV<1073741824
 XW:0<=s.bg/\s.bg<8
 lh:0<=s.Low/\s.Low<=s.High/\s.High<=30
section
variable {α:Type} [Inhabited α]
theorem iC [Fuel] {xs:List α} {i:Nat} {a:α} (h:i<xs.length):(xs.set i a).getD i default=a:=by
 simp [List.getD_eq_getElem?_getD,h]
end
theorem Xf [Fuel] {α:Type} {xs:List α} {i:Nat} {a:α}:(xs.set i a).length=xs.length:=List.length_set
theorem Q5 [Fuel] (e:Int):dY e=some (noS e):=rfl
theorem kG [Fuel] {α:Type} (b:Bool) (x y:α):(bif b then some x else some y)=some (bif b then x else y):=by cases b<;>rfl
theorem afD [Fuel] {α β:Type} (x:α×β):(x.1,x.2)=x:=rfl
section
variable {c:ak} {s:aB} {e:aA}
theorem atn [Fuel] (h:VC c) (hl:s.ah.length=c.ah.length):DY c s=some (Vy c s):=by
 unfold DY Vy;(try simp only [iQ,dZ])
 rw [akH h hl]
 simp only [Option.bind_some]
 rw [<-kG]
 rfl
def TD (c:ak) (s:aB) (e:aA):aB×Int:=
 bif(tAt s e.aD).Placed then noS 4
 else bif((cAt s e.Cell).Mode !=1)||(decide (0<=e.Other)&&((cAt s e.Other).Mode !=1))then noS 6
 else bif Zd c s e.Cell||(decide (0<=e.Other)&&Zd c s e.Other)then noS 12
 else bif !Ou c e.aD e.Cell||(decide (0<=e.Other)&&(!Ou c e.aD e.Other||dF c e.Cell e.Other))then noS 11
 else Vy c (Bq s e.aD {tAt s e.aD with Placed:=true,Home:=e.Cell,aN:=e.Other})
theorem UN [Fuel] (hv:VS c s) (ht:tOk c e):0<=e.aD/\e.aD<((s.ah.length:Nat):Int):=by have:=hv.tl;unfold tOk at ht;omega
theorem abl [Fuel] (hv:VS c s) (ht:cOk c e):0<=e.Cell/\e.Cell<((s.Cells.length:Nat):Int):=by have:=hv.cl;unfold cOk at ht;omega
theorem Xg [Fuel] (h:VC c) (hv:VS c s) (i:Nat) (t:ay):DY c {s with ah:=s.ah.set i t}=some (Vy c {s with ah:=s.ah.set i t}):=
 atn h (by show(s.ah.set i t).length=_;rw [Xf,hv.tl])
theorem ac1 [Fuel] (h:VC c) (hv:VS c s) (ht:tOk c e) (hc:cOk c e) (ho: -1<=e.Other/\e.Other<(c.Cells.length:Int)):Oh c s e=some (TD c s e):=by
 have h1:=UN hv ht
 have h2:=abl hv hc
 have hcl:=hv.cl
 have hn:e.aD.toNat<s.ah.length:=by omega
 have h3:∀{b:Bool},(b&&decide (0<=e.Other))=true->0<=e.Other/\e.Other<((s.Cells.length:Nat):Int):=λq=>by simp only [Bool.and_eq_true,decide_eq_true_eq]at q;omega
 unfold Oh TD Zd tAt cAt Bq;(try simp only [iQ,dZ])
 simp only [idx_eq h1,cond_true,Option.bind_some,Q5,afD,idx_eq h2,am0 h3,aag h hv.XW.1,QZ h,aaf h,iC hn,Xf,List.set_set,Xg h hv,kG]
 cases decide (0<=e.Other)<;>cases Ou c e.aD e.Other<;>cases Ou c e.aD e.Cell<;>cases hasB s.bg (dw c e.Cell)<;>rfl
def Gl (c:ak) (s:aB) (e:aA):Int:=
 let x4:=tAt s e.aD
 let x5:=cAt s e.Cell
 bif((x5.Mode==3)||((x5.Mode==2)&&(!(e.Cell==x4.Home))))then 6
 else bif((((e.Cell==x4.Home)&&(e.Epoch !=x4.Epoch))&&(e.Epoch !=x4.Epoch+1))||((!(e.Cell==x4.Home))&&(e.Epoch !=x4.Epoch+1)))then 7
 else bif((e.N !=x5.Running)||(x5.Running !=x5.Wanted))then 8
 else bif(((((decide (e.From<e.Tick))||(decide (e.Tick+c.Lease<e.From)))||(decide (e.Until<=e.From)))||(decide (c.Lease<e.Until - e.From)))||(decide (e.From<x4.Window.Until)))then 9
 else bif((!(e.Cell==x4.Home))&&(decide (e.Tick<x4.Window.Until)))then 9
 else 0
theorem Q6 [Fuel] (hv:VS c s) {i:Int} (h:0<=i/\i<((s.ah.length:Nat):Int)):TS c (tAt s i):=hv.t _ (uX (by omega))
theorem am9 [Fuel] (hv:VS c s) {i:Int} (h:0<=i/\i<((s.Cells.length:Nat):Int)):CS c (cAt s i):=hv.cel _ (uX (by omega))
theorem akI [Fuel] (h:VC c) (hv:VS c s) (ht:tOk c e) (hc:cOk c e) (hk:0<=e.Tick/\e.Tick<=1073741824) (hw:0<=e.From/\e.From<=1073741824/\0<=e.Until/\e.Until<=1073741824):I9 c s e=some (Gl c s e):=by
 have h1:=UN hv ht
 have h2:=abl hv hc
 have hle:=h.adA
 have hT:=Q6 hv h1
 have hep:=hT.ep
 unfold tAt at hep
 unfold I9 Gl tAt cAt;(try simp only [iQ,dZ])
 rw [idx_eq h1,idx_eq h2]
 simp only [Option.bind_some]
 rw [bA (x:=(s.ah.getD e.aD.toNat default).Epoch+1) (by omega) (by omega),bA (x:=e.Tick+c.Lease) (by omega) (by omega),bA (x:=e.Until - e.From) (by omega) (by omega)]
 simp only [kG]
def yY (t:ay) (e:aA):ay:=
 let u:={t with Window:={Cell:=e.Cell,Epoch:=e.Epoch,Version:=e.N,From:=e.From,Until:=e.Until:aT},Epoch:=e.Epoch}
 bif e.Cell==t.Home then u
 else bif e.Cell==t.aN then {u with Home:=e.Cell,aN:= -1,Next:= -1,Target:= -1,Aa:=false}
 else {u with Home:=e.Cell,Target:= -1}
def TF (c:ak) (s:aB) (e:aA):aB×Int:=
 let t:=tAt s e.aD
 bif(!t.Placed)||(t.Aa&&(e.Cell !=t.aN))then noS 4
 else bif((e.Cell !=t.Home)&&(e.Cell !=t.aN))&&(e.Cell !=t.Target)then noS 5
 else bif Gl c s e !=0 then noS (Gl c s e)
 else Vy c (Bq s e.aD (yY t e))
theorem aoY [Fuel] (h:VC c) (hv:VS c s) (ht:tOk c e) (hc:cOk c e) (hk:0<=e.Tick/\e.Tick<=1073741824) (hw:0<=e.From/\e.From<=1073741824/\0<=e.Until/\e.Until<=1073741824):Oi c s e=some (TF c s e):=by
 have h1:=UN hv ht
 have hn:e.aD.toNat<s.ah.length:=by omega
 unfold Oi Az TF tAt Bq;(try simp only [iQ,dZ])
 simp only [idx_eq h1,cond_true,Option.bind_some,Q5,afD,akI h hv ht hc hk hw,iC hn,Xf,List.set_set,Xg h hv,kG]
 unfold yY
 cases (e.Cell==(s.ah.getD e.aD.toNat default).Home)<;>cases (e.Cell==(s.ah.getD e.aD.toNat default).aN)<;>rfl
def adD (w:aT) (tick:Int):aT:={w with From:=Qq w.From (Qq w.Until (tick+1)),Until:=Qq w.Until (tick+1)}
def an9 (s:aB) (e:aA):aB×Int:=
 let t:=tAt s e.aD
 bif !t.Placed then noS 4 else bif e.Epoch !=t.Epoch then noS 7 else(Bq s e.aD {t with Window:=adD t.Window e.Tick},0)
theorem ato [Fuel] (hv:VS c s) (ht:tOk c e) (hk:0<=e.Tick/\e.Tick<=1073741824):Vs s e=some (an9 s e):=by
 have h1:=UN hv ht
 unfold Vs aac an9 tAt Bq adD;(try simp only [iQ,dZ])
 rw [bA (x:=e.Tick+1) (by omega) (by omega)]
 simp only [idx_eq h1,cond_true,Option.bind_some,Q5,afD,kG]
def Gm (c:ak) (s:aB) (e:aA):aB×Int:=
 let t:=tAt s e.aD
 let ok:=Vy c (Bq s e.aD {t with Next:=e.Cell})
 bif !t.Placed then noS 4
 else bif decide (e.Cell<0)then ok
 else bif((e.Cell==t.Home)||(e.Cell==t.aN))||(e.Cell==t.Target)then noS 5
 else bif(cAt s e.Cell).Mode !=1 then noS 6
 else bif Zd c s e.Cell then noS 12
 else bif(!Ou c e.aD e.Cell||dF c e.Cell t.Home)||dF c e.Cell t.Target then noS 11
 else ok
theorem akJ [Fuel] (h:VC c) (hv:VS c s) (ht:tOk c e) (hc: -1<=e.Cell/\e.Cell<(c.Cells.length:Int)):Ja c s e=some (Gm c s e):=by
 have h1:=UN hv ht
 have hcl:=hv.cl
 unfold Ja Bp Gm tAt cAt Bq Zd;(try simp only [iQ,dZ])
 by_cases h0:e.Cell<0
 ·rw [decide_eq_true h0]
  simp only [idx_eq h1,cond_true,Option.bind_some,Q5,afD,Xg h hv,kG]
 ·have h2:0<=e.Cell/\e.Cell<((s.Cells.length:Nat):Int):=by omega
  rw [decide_eq_false h0]
  simp only [idx_eq h1,cond_true,cond_false,Option.bind_some,Q5,afD,idx_eq h2,aag h hv.XW.1,QZ h,aaf h,Xg h hv,kG]
  cases Ou c e.aD e.Cell<;>cases dF c e.Cell (s.ah.getD e.aD.toNat default).Home<;>rfl
def TG (s:aB) (e:aA):aB×Int:=
 let t:=tAt s e.aD
 bif !t.Placed then noS 4 else bif e.Cell !=t.Next then noS 5 else bif(cAt s e.Cell).Mode==3 then noS 6
 else(Bq s e.aD {t with aN:=e.Cell,Next:= -1},0)
theorem ready_eq [Fuel] (hv:VS c s) (ht:tOk c e) (hc:cOk c e):Oj s e=some (TG s e):=by
 have h1:=UN hv ht
 have h2:=abl hv hc
 have hn:e.aD.toNat<s.ah.length:=by omega
 unfold Oj TG tAt cAt Bq;(try simp only [iQ,dZ])
 simp only [idx_eq h1,cond_true,Option.bind_some,Q5,afD,idx_eq h2,iC hn,List.set_set,kG]
def Gn (c:ak) (s:aB) (e:aA):aB×Int:=
 let t:=tAt s e.aD
 bif((!t.Placed)||t.Aa)||decide (0<=t.Target)then noS 4
 else bif((e.Cell==t.Home)||(e.Cell==t.aN))||(e.Cell==t.Next)then noS 5
 else bif(cAt s e.Cell).Mode !=1 then noS 6
 else bif Zd c s e.Cell then noS 12
 else bif(!Ou c e.aD e.Cell||dF c e.Cell t.aN)||dF c e.Cell t.Next then noS 11
 else Vy c (Bq s e.aD {t with Target:=e.Cell})
theorem akK [Fuel] (h:VC c) (hv:VS c s) (ht:tOk c e) (hc:cOk c e):Jb c s e=some (Gn c s e):=by
 have h1:=UN hv ht
 have h2:=abl hv hc
 unfold Jb Gn tAt cAt Bq Zd;(try simp only [iQ,dZ])
 simp only [idx_eq h1,cond_true,Option.bind_some,Q5,afD,idx_eq h2,aag h hv.XW.1,QZ h,aaf h,Xg h hv,kG]
 cases Ou c e.aD e.Cell<;>cases dF c e.Cell (s.ah.getD e.aD.toNat default).aN<;>rfl
def Gp (s:aB) (e:aA):aB×Int:=
 let t:=tAt s e.aD
 bif(!t.Placed)||decide (t.Target<0)then noS 4 else(Bq s e.aD {t with Target:= -1},0)
theorem akL [Fuel] (hv:VS c s) (ht:tOk c e):Jc s e=some (Gp s e):=by
 have h1:=UN hv ht
 unfold Jc Gp tAt Bq;(try simp only [iQ,dZ])
 simp only [idx_eq h1,cond_true,Option.bind_some,Q5,afD,kG]
def abm (c:ak) (s:aB) (e:aA):aB×Int:=
 let t:=tAt s e.aD
 bif e.N==1 then
  (bif(!t.Placed)||t.Aa then noS 4 else bif decide (e.Tick<t.Window.Until)then noS 9 else(Bq s e.aD {t with Aa:=true,Target:= -1},0))
 else bif !t.Aa then noS 4 else bif(cAt s t.Home).Mode==3 then noS 6 else Vy c (Bq s e.aD {t with Aa:=false})
theorem aq7 [Fuel] (h:VC c) (hv:VS c s) (ht:tOk c e):Sn c s e=some (abm c s e):=by
 have h1:=UN hv ht
 have hn:e.aD.toNat<s.ah.length:=by omega
 have hT:=Q6 hv h1
 have hcl:=hv.cl
 unfold Sn abm tAt cAt Bq;(try simp only [iQ,dZ])
 unfold tAt at hT
 simp only [idx_eq h1,cond_true,Option.bind_some,Q5,afD,iC hn,List.set_set,kG]
 cases hN:(e.N==1)with
 |true=>rfl
 | false=>
  simp only [cond_false]
  cases hs:(s.ah.getD e.aD.toNat default).Aa with
  |false=>rfl
  |true=>
   have hp:=hT.pl (hT.sh hs)
   have hh:=hT.home
   have h2:0<=(s.ah.getD e.aD.toNat default).Home/\(s.ah.getD e.aD.toNat default).Home<((s.Cells.length:Nat):Int):=by omega
   simp only [Bool.not_true,cond_false,idx_eq h2,Option.bind_some,Xg h hv,kG]
end
end Go.CP
namespace Go.CP
open Go
theorem drop_cons [Fuel] {α:Type} [Inhabited α] {xs:List α} {k:Nat} (h:k<xs.length):xs.drop k=xs.getD k default::xs.drop (k+1):=by
 rw [List.drop_eq_getElem_cons h]
 simp [List.getD_eq_getElem?_getD,h]
def wO (s:aB) (v:Int):Bool:=hasB s.jV v
def aak (s:aB) (i:Int):Bool:= !wO s (cAt s i).Running|| !wO s (cAt s i).Wanted
def wP (s:aB) (cell:Int):Nat->Int
 |0=>0
 |k+1=>bif((k:Int) !=cell)&&aak s k then wP s cell k+1 else wP s cell k
theorem acI [Fuel] (s:aB) (cell:Int):∀k,0<=wP s cell k/\wP s cell k<=k
 |0=>by simp [wP]
 |k+1=>by
  have:=acI s cell k
  rw [wP]
  cases ((k:Int) !=cell)&&aak s k<;>simp only [cond_true,cond_false]<;>omega
section
variable {c:ak} {s:aB} {e:aA}
theorem Vz [Fuel] (hv:VS c s) (v:Int):rP s v=some (wO s v):=by
 unfold rP wO;(try simp only [iQ,dZ]);rw [QY hv.aln.1];rfl
theorem aq8 [Fuel] (hv:VS c s) {i:Int} (h:0<=i/\i<((s.Cells.length:Nat):Int)):Sq s i=some (aak s i):=by
 unfold Sq aak cAt;(try simp only [iQ,dZ])
 rw [idx_eq h]
 simp only [Option.bind_some,Vz hv,kG,am1 h]
 cases wO s (s.Cells.getD i.toNat default).Running<;>rfl
def aal (c:ak) (s:aB) (e:aA):aB×Int:=
 let x:=cAt s e.Cell
 let v:=c.bf.getD e.N.toNat default
 bif x.Wanted==e.N then noS 4
 else bif decide (s.Low<v.Low)||decide (v.High<s.High)then noS 13
 else bif((e.N !=x.Running)&& !wO s e.N)&&(s.bg !=0)then noS 12
 else bif((e.N !=x.Running)&& !wO s e.N)&&decide (c.Bu<=wP s e.Cell s.Cells.length)then noS 14
 else(adC s e.Cell {x with Wanted:=e.N},0)
theorem ap0 [Fuel] (h:VC c) (hv:VS c s) (hc:cOk c e):∀(m k:Nat),s.Cells.length - k<m->k<=s.Cells.length→
  yV c s e (c.bf.getD e.N.toNat default) e.Cell.toNat m (wP s e.Cell k) (k:Int)=some (aal c s e)
 |0,_,hm,_=>absurd hm (Nat.not_lt_zero _)
 | m+1,k,hm,hk=>by
  have hcl:=h.cl
  have hl:=hv.cl
  have hb:=acI s e.Cell k
  rw [yV];(try simp only [iQ,dZ])
  by_cases hlt:k<s.Cells.length
  ·rw [decide_eq_true (show(k:Int)<((s.Cells.length:Nat):Int)by omega)]
   have i1:0<=(k:Int)/\(k:Int)<((s.Cells.length:Nat):Int):=by omega
   simp only [cond_true,aq8 hv i1,kG,Option.bind_some]
   unfold Jd;(try simp only [iQ,dZ])
   rw [bA (x:=(k:Int)+1) (by omega) (by omega),bA (x:=wP s e.Cell k+1) (by omega) (by omega)]
   have next:=ap0 h hv hc m (k+1) (by omega) (by omega)
   rw [wP]at next
   have ec:((k+1:Nat):Int)=(k:Int)+1:=by omega
   rw [ec]at next
   cases hne:((k:Int) !=e.Cell)<;>cases ho:aak s k<;>simp only [hne,ho,cond_true,cond_false,Bool.true_and,Bool.false_and,Bool.and_true,Bool.and_false]at next⊢<;>exact next
  ·rw [decide_eq_false (show¬(k:Int)<((s.Cells.length:Nat):Int)by omega)]
   have:k=s.Cells.length:=by omega
   subst this
   unfold aal cAt adC
   simp only [cond_false,Option.bind_some,Q5,afD,Vz hv,kG]
   cases (e.N !=(s.Cells.getD e.Cell.toNat default).Running)<;>rfl
theorem aq9 [Fuel] (h:VC c) (hv:VS c s) (hc:cOk c e) (hn:vOk c e):Sr c s e=some (aal c s e):=by
 have h2:=abl hv hc
 have hl:=hv.cl
 have hcl:=h.cl
 unfold Sr;(try simp only [iQ,dZ])
 rw [idx_eq h2,idx_eq hn]
 simp only [Option.bind_some]
 have:=ap0 h hv hc fuel 0 (by rw [lX];omega) (by omega)
 simpa [wP]using this
def Xh (e:aA) (t:ay):Bool:=(t.Window.Cell==e.Cell)&&decide (e.Tick<t.Window.Until)
def abn (s:aB) (e:aA):aB×Int:=
 let x:=cAt s e.Cell
 bif(e.N !=x.Wanted)||(x.Running==x.Wanted)then noS 4
 else bif !wO s e.N&&(s.bg !=0)then noS 12
 else bif s.ah.any (Xh e)then noS 9
 else(adC s e.Cell {x with Running:=e.N,Since:=e.Tick},0)
theorem ap1 [Fuel] (h:VC c) (hv:VS c s) (hc:cOk c e):∀(m k:Nat),s.ah.length - k<m->k<=s.ah.length→
  yX s e e.Cell.toNat m (k:Int)=some (bif(s.ah.drop k).any (Xh e)then noS 9 else(adC s e.Cell {cAt s e.Cell with Running:=e.N,Since:=e.Tick},0))
 |0,_,hm,_=>absurd hm (Nat.not_lt_zero _)
 | m+1,k,hm,hk=>by
  have htl:=h.tl
  have hl:=hv.tl
  have h2:=abl hv hc
  have hn:e.Cell.toNat<s.Cells.length:=by omega
  rw [yX];(try simp only [iQ,dZ])
  by_cases hlt:k<s.ah.length
  ·rw [decide_eq_true (show(k:Int)<((s.ah.length:Nat):Int)by omega)]
   have i1:0<=(k:Int)/\(k:Int)<((s.ah.length:Nat):Int):=by omega
   simp only [cond_true,idx_eq i1,Option.bind_some,Int.toNat_natCast,Q5,afD]
   rw [drop_cons hlt,List.any_cons,bA (x:=(k:Int)+1) (by omega) (by omega)]
   have next:=ap1 h hv hc m (k+1) (by omega) (by omega)
   have ec:((k+1:Nat):Int)=(k:Int)+1:=by omega
   rw [ec]at next
   rw [next]
   unfold Xh
   cases ((s.ah.getD k default).Window.Cell==e.Cell)&&decide (e.Tick<(s.ah.getD k default).Window.Until)<;>rfl
  ·rw [decide_eq_false (show¬(k:Int)<((s.ah.length:Nat):Int)by omega)]
   have:k=s.ah.length:=by omega
   subst this
   unfold cAt adC
   simp only [cond_false,Option.bind_some,iC hn,List.set_set,List.drop_length,List.any_nil]
theorem ara [Fuel] (h:VC c) (hv:VS c s) (hc:cOk c e):Sv s e=some (abn s e):=by
 have h2:=abl hv hc
 have hl:=hv.tl
 have htl:=h.tl
 unfold Sv abn;(try simp only [iQ,dZ])
 rw [idx_eq h2]
 have:=ap1 h hv hc fuel 0 (by rw [lX];omega) (by omega)
 unfold cAt at this⊢
 simp only [List.drop_zero]at this
 simp only [chk,cond_true,Option.bind_some,Q5,afD,Vz hv,kG]
 have t2:yX s e e.Cell.toNat fuel 0=_:=this
 rw [t2]
 simp only [kG]
def MR (c:ak) (e:aA) (x:aH):Bool:=(((x.Mode !=3)&&(x.Running==e.N))&&(x.Wanted==e.N))&&decide (c.UL<=e.Tick - x.Since)
def TH (c:ak) (s:aB) (e:aA):aB×Int:=
 bif wO s e.N then noS 4 else bif s.Cells.any (MR c e)then({s with jV:=orK .i64 s.jV (CW .i64 1 (IntKind.u64.wrap e.N))},0)else noS 15
theorem ana [Fuel] (h:VC c) (hv:VS c s) (hn:vOk c e) (hk:0<=e.Tick/\e.Tick<=1073741824):∀(m k:Nat),s.Cells.length - k<m->k<=s.Cells.length→
  wC c s e m (k:Int)=some (bif(s.Cells.drop k).any (MR c e)then({s with jV:=orK .i64 s.jV (CW .i64 1 (IntKind.u64.wrap e.N))},0)else noS 15)
 |0,_,hm,_=>absurd hm (Nat.not_lt_zero _)
 | m+1,k,hm,hk2=>by
  have hcl:=h.cl
  have hvl:=h.vl
  have hl:=hv.cl
  unfold vOk at hn
  have hu:(0:Int)<=IntKind.u64.wrap e.N:=by rw [acG (by omega) (by omega)];omega
  rw [wC];(try simp only [iQ,dZ])
  by_cases hlt:k<s.Cells.length
  ·rw [decide_eq_true (show(k:Int)<((s.Cells.length:Nat):Int)by omega)]
   have i1:0<=(k:Int)/\(k:Int)<((s.Cells.length:Nat):Int):=by omega
   have hC:=am9 hv i1
   have aAZ:=hC.sin
   unfold cAt at aAZ
   simp only [Int.toNat_natCast]at aAZ
   simp only [cond_true,idx_eq i1,Option.bind_some,Int.toNat_natCast]
   rw [drop_cons hlt,List.any_cons,bA (x:=(k:Int)+1) (by omega) (by omega),bA (x:=e.Tick - (s.Cells.getD k default).Since) (by omega) (by omega),decide_eq_true hu]
   have next:=ana h hv (show vOk c e from hn) hk m (k+1) (by omega) (by omega)
   have ec:((k+1:Nat):Int)=(k:Int)+1:=by omega
   rw [ec]at next
   rw [next]
   unfold MR
   cases ((((s.Cells.getD k default).Mode !=3)&&((s.Cells.getD k default).Running==e.N))&&((s.Cells.getD k default).Wanted==e.N))&&decide (c.UL<=e.Tick - (s.Cells.getD k default).Since)<;>rfl
  ·rw [decide_eq_false (show¬(k:Int)<((s.Cells.length:Nat):Int)by omega)]
   have:k=s.Cells.length:=by omega
   subst this
   simp only [cond_false,Option.bind_some,Q5,afD,List.drop_length,List.any_nil]
theorem aoZ [Fuel] (h:VC c) (hv:VS c s) (hn:vOk c e) (hk:0<=e.Tick/\e.Tick<=1073741824):Ol c s e=some (TH c s e):=by
 have hl:=hv.cl
 have hcl:=h.cl
 unfold Ol TH;(try simp only [iQ,dZ])
 have:=ana h hv hn hk fuel 0 (by rw [lX];omega) (by omega)
 simp only [List.drop_zero]at this
 have t2:wC c s e fuel 0=_:=this
 simp only [Option.bind_some,Q5,afD,Vz hv,t2,kG]
def agH (c:ak) (s:aB) (x:aH):Bool:=decide ((c.bf.getD x.Running.toNat default).High<=s.High)||decide ((c.bf.getD x.Wanted.toNat default).High<=s.High)
def LV (c:ak) (s:aB):aB×Int:=
 bif decide (s.Low<s.High)then noS 4 else bif decide (30<=s.High)then noS 2 else bif s.Cells.any (agH c s)then noS 13 else({s with High:=s.High+1},0)
theorem ai4 [Fuel] (h:VC c) (hv:VS c s):∀(m k:Nat),s.Cells.length - k<m->k<=s.Cells.length→
  tJ c s m (k:Int)=some (bif(s.Cells.drop k).any (agH c s)then noS 13 else({s with High:=s.High+1},0))
 |0,_,hm,_=>absurd hm (Nat.not_lt_zero _)
 | m+1,k,hm,hk2=>by
  have hcl:=h.cl
  have hl:=hv.cl
  have hlh:=hv.lh
  rw [tJ];(try simp only [iQ,dZ])
  by_cases hlt:k<s.Cells.length
  ·rw [decide_eq_true (show(k:Int)<((s.Cells.length:Nat):Int)by omega)]
   have i1:0<=(k:Int)/\(k:Int)<((s.Cells.length:Nat):Int):=by omega
   have hC:=am9 hv i1
   have hr:=hC.run
   have hw:=hC.wan
   unfold cAt at hr hw
   simp only [Int.toNat_natCast]at hr hw
   simp only [cond_true,idx_eq i1,Option.bind_some,Int.toNat_natCast,idx_eq hr,am0 (λ_=>hw),Q5,afD]
   rw [drop_cons hlt,List.any_cons,bA (x:=(k:Int)+1) (by omega) (by omega)]
   have next:=ai4 h hv m (k+1) (by omega) (by omega)
   have ec:((k+1:Nat):Int)=(k:Int)+1:=by omega
   rw [ec]at next
   rw [next]
   unfold agH
   cases decide ((c.bf.getD (s.Cells.getD k default).Running.toNat default).High<=s.High)with
   |true=>rfl
   |false=>
    simp only [Bool.not_false,cond_true,Bool.false_or]
    cases decide ((c.bf.getD (s.Cells.getD k default).Wanted.toNat default).High<=s.High)<;>rfl
  ·rw [decide_eq_false (show¬(k:Int)<((s.Cells.length:Nat):Int)by omega)]
   have:k=s.Cells.length:=by omega
   subst this
   rw [bA (x:=s.High+1) (by omega) (by omega)]
   simp only [cond_false,List.drop_length,List.any_nil]
theorem anb [Fuel] (h:VC c) (hv:VS c s):K7 c s=some (LV c s):=by
 have hl:=hv.cl
 have hcl:=h.cl
 unfold K7 LV;(try simp only [iQ,dZ])
 have:=ai4 h hv fuel 0 (by rw [lX];omega) (by omega)
 simp only [List.drop_zero]at this
 have t2:tJ c s fuel 0=_:=this
 simp only [Option.bind_some,Q5,afD,t2,kG]
end
end Go.CP
namespace Go.CP
open Go
def VA [Fuel] (c:ak) (e:aA):Bool:=(FE c e).getD false
def bump (s:aB) (e:aA):aB:={s with Tick:=e.Tick,Count:=s.Count+1}
def afE (s:aB) (e:aA):aB×Int:=
 bif(cAt s e.Cell).Mode==e.N then noS 4 else(adC s e.Cell {cAt s e.Cell with Mode:=e.N,Since:=e.Tick},0)
def afF (s:aB) (e:aA):aB×Int:=
 bif hasB s.bg e.Other==(e.N==1)then noS 4 else({s with bg:=alc .i64 s.bg (CW .i64 1 (IntKind.u64.wrap e.Other))},0)
def G5 (s:aB):aB×Int:=bif s.High==s.Low then noS 4 else({s with Low:=s.High},0)
def adE (c:ak) (s:aB) (e:aA):aB×Int:=
 bif e.Kind==1 then TD c s e else bif e.Kind==2 then TF c s e else bif e.Kind==3 then an9 s e else bif e.Kind==4 then Gm c s e
 else bif e.Kind==5 then TG s e else bif e.Kind==6 then Gn c s e else bif e.Kind==7 then Gp s e else bif e.Kind==8 then abm c s e
 else bif e.Kind==9 then afE s e else bif e.Kind==10 then aal c s e else bif e.Kind==11 then abn s e else bif e.Kind==12 then TH c s e
 else bif e.Kind==13 then afF s e else bif e.Kind==14 then LV c s else bif e.Kind==15 then G5 s else(s,0)
def qo [Fuel] (c:ak) (s:aB) (e:aA):aB×Int:=
 bif !VA c e then noS 1 else bif decide (4096<=s.Count)then noS 2 else bif decide (e.Tick<s.Tick)then noS 3 else adE c (bump s e) e
section
variable {c:ak} {s:aB} {e:aA}
theorem valid_eq [Fuel] (h:VC c):FE c e=some (VA c e)/\(VA c e=true ↔ ai3 c e):=by
 obtain⟨b,h1,h2⟩:=ahC (e:=e) h
 have:VA c e=b:=by unfold VA;rw [h1];rfl
 rw [this];exact⟨h1,h2⟩
theorem VS.bump [Fuel] (hv:VS c s) (hk:0<=e.Tick/\e.Tick<=1073741824) (hc:s.Count<4096):VS c (bump s e):=
 ⟨hv.tl,hv.cl,hv.t,hv.cel,hk,by have:=hv.cnt;constructor<;>(show _<=_;simp only [CP.bump];omega),hv.aln,hv.XW,hv.lh⟩
theorem VS.Bq [Fuel] (hv:VS c s) {i:Int} {t:ay} (ht:TS c t):VS c (Bq s i t):=by
 refine⟨by show(s.ah.set _ _).length=_;rw [Xf,hv.tl],hv.cl,λx hx=> ?_,hv.cel,hv.tick,hv.cnt,hv.aln,hv.XW,hv.lh⟩
 rcases List.mem_or_eq_of_mem_set hx with h1|h1
 ·exact hv.t x h1
 ·rw [h1];exact ht
theorem VS.adC [Fuel] (hv:VS c s) {i:Int} {t:aH} (ht:CS c t):VS c (adC s i t):=by
 refine⟨hv.tl,by show(s.Cells.set _ _).length=_;rw [Xf,hv.cl],hv.t,λx hx=> ?_,hv.tick,hv.cnt,hv.aln,hv.XW,hv.lh⟩
 rcases List.mem_or_eq_of_mem_set hx with h1|h1
 ·exact hv.cel x h1
 ·rw [h1];exact ht
theorem ao0 [Fuel] (h:VC c) (hv:VS c s):Oo c s e=some (qo c s e):=by
 obtain⟨v1,v2⟩:=valid_eq (e:=e) h
 have hcnt:=hv.cnt
 have htl:=hv.tl
 have hcl:=hv.cl
 have ctl:=h.tl
 have ccl:=h.cl
 unfold Oo qo;(try simp only [iQ,dZ])
 simp only [v1,Option.bind_some,Q5,afD]
 cases hb:VA c e with
 |false=>rfl
 | true=>
  obtain⟨hk,hkind⟩:=v2.1 hb
  simp only [Bool.not_true,cond_false]
  by_cases h4:4096<=s.Count
  ·rw [decide_eq_true h4];rfl
  ·rw [decide_eq_false h4]
   by_cases h5:e.Tick<s.Tick
   ·rw [decide_eq_true h5];rfl
   ·rw [decide_eq_false h5]
    simp only [cond_false]
    have hcp:K5 s=some s:=by
     unfold K5;(try simp only [iQ,dZ])
     rw [decide_eq_true (show(([]:List ay).length+s.ah.length)*88<=140737488355328 by simp;omega),decide_eq_true (show(([]:List aH).length+s.Cells.length)*32<=140737488355328 by simp;omega)]
     rfl
    rw [hcp]
    simp only [Option.bind_some]
    rw [bA (x:=s.Count+1) (by omega) (by omega)]
    have hv':VS c (bump s e):=hv.bump hk (by omega)
    have hs:{s with Tick:=e.Tick,Count:=s.Count+1}=bump s e:=rfl
    have hc:{c with Cells:=c.Cells,ah:=c.ah}=c:=rfl
    rw [hs,hc]
    unfold adE
    cases hkind with
    |place k t ce o w n=>simp only [k,ac1 h hv' t ce ⟨o.1,o.2.1⟩];rfl
    |grant k t ce o ep w n=>simp only [k,aoY h hv' t ce hk w];rfl
    |cut k t ce o ep w n=>simp only [k,ato hv' t hk];rfl
    |JY k t ce o w n=>simp only [k,akJ h hv' t ce];rfl
    |ready k t ce o w n=>simp only [k,ready_eq hv' t ce];rfl
    |migrate k t ce o w n=>simp only [k,akK h hv' t ce];rfl
    |abandon k t ce o w n=>simp only [k,akL hv' t];rfl
    |shed k t ce o w n=>simp only [k,aq7 h hv' t];rfl
    |mode k t ce o w n=>
     have h2:=abl hv ce
     have hn:e.Cell.toNat<s.Cells.length:=by omega
     have h3:∀a,idx (s.Cells.set e.Cell.toNat a) e.Cell=some a:=λa=>by rw [idx_eq (by rw [Xf];exact h2),iC hn]
     rw [k]
     simp only [idx_eq h2,h3,cond_true,Option.bind_some,iC hn,List.set_set,kG]
     unfold nE;(try simp only [iQ,dZ])
     simp only [kG]
     rfl
    |want k t ce o w n=>simp only [k,aq9 h hv' ce n];rfl
    |runs k t ce o w n=>simp only [k,ara h hv' ce];rfl
    |prove k t ce o w n=>simp only [k,aoZ h hv' n hk];rfl
    |XW k t ce o w n=>
     have aa4:=h.reg
     have hu:(0:Int)<=IntKind.u64.wrap e.Other:=by rw [acG (by omega) (by omega)];omega
     unfold nE;(try simp only [iQ,dZ])
     rw [k,QY hv.XW.1,decide_eq_true hu]
     simp only [chk,cond_true,Option.bind_some,kG]
     rfl
    |expand k t ce o w n=>simp only [k,anb h hv'];rfl
    |contract k t ce o w n=>
     unfold nE;(try simp only [iQ,dZ])
     rw [k]
     simp only [kG]
     rfl
    |note k t ce o w n=>
     unfold nE;(try simp only [iQ,dZ])
     rw [k]
     rfl
end
end Go.CP
namespace Go.CP
open Go
def Good (c:ak) (r:aB×Int):Prop:=r.2=0->VS c r.1
section
variable {c:ak} {s:aB} {e:aA}
theorem Good.bif [Fuel] {b:Bool} {x y:aB×Int} (hx:b=true->Good c x) (hy:b=false->Good c y):Good c (bif b then x else y):=by
 cases b with
 |true=>exact hx rfl
 |false=>exact hy rfl
theorem Good.no [Fuel] {k:Int} (h:k≠0):Good c (noS k):=λq=>absurd q h
theorem Good.ok [Fuel] (h:VS c s):Good c (s,0):=λ_=>h
theorem Good.fit [Fuel] (h:VS c s):Good c (Vy c s):=Good.bif (λ_=>Good.no (by decide)) (λ_=>Good.ok h)
theorem VB [Fuel] {a:Int} (h0:0<=a) (h1:a<18446744073709551616):(BitVec.ofInt 64 a).toNat=a.toNat:=by
 rw [BitVec.toNat_ofInt]
 have:a%((2:Nat)^64:Nat)=a:=Int.emod_eq_of_lt h0 (by simpa using h1)
 rw [this]
theorem arb [Fuel] {n:Int} (h:0<=n/\n<62):CW .i64 1 (IntKind.u64.wrap n)=2^n.toNat:=by
 rw [acG h.1 (by omega)]
 unfold CW
 rw [show min n.toNat IntKind.i64.bits=n.toNat from Nat.min_eq_left (by show _<=64;omega),Int.one_mul]
 have hp:(0:Int)<2^n.toNat:=Int.pow_pos (by decide)
 have hlt:(2:Int)^n.toNat<9223372036854775808:=by
  have hh:(2:Nat)^n.toNat<=2^62:=Nat.pow_le_pow_right (by decide) (by omega)
  have e1:((2:Int)^n.toNat)=((2^n.toNat:Nat):Int):=by simp
  rw [e1]
  have:(2:Nat)^62=4611686018427387904:=rfl
  omega
 exact bA (by omega) hlt
theorem ao1 [Fuel] {a n:Int} (ha:0<=a/\a<1073741824) (hn:0<=n/\n<30):0<=orK .i64 a (CW .i64 1 (IntKind.u64.wrap n))/\orK .i64 a (CW .i64 1 (IntKind.u64.wrap n))<1073741824:=by
 rw [arb ⟨hn.1,by omega⟩]
 have hpn:(2:Nat)^n.toNat<2^30:=Nat.pow_lt_pow_right (by decide) (by omega)
 obtain⟨q,hq⟩:∃q:Nat,q=2^n.toNat:=⟨_,rfl⟩
 rw [<-hq]at hpn
 have e1:((2:Int)^n.toNat)=(q:Int):=by rw [hq];simp
 have h30:(2:Nat)^30=1073741824:=rfl
 rw [e1]
 unfold orK
 have e2:(BitVec.ofInt IntKind.i64.bits a|||BitVec.ofInt IntKind.i64.bits (q:Int)).toNat=a.toNat|||q:=by
  show(BitVec.ofInt 64 a|||BitVec.ofInt 64 (q:Int)).toNat=_
  rw [BitVec.toNat_or,VB ha.1 (by omega),VB (by omega) (by omega),Int.toNat_natCast]
 rw [e2]
 have hlt:a.toNat|||q<2^30:=Nat.or_lt_two_pow (by omega) hpn
 generalize a.toNat|||q=z at hlt⊢
 have hw:IntKind.i64.wrap (z:Int)=(z:Int):=bA (by omega) (by omega)
 rw [hw]
 omega
theorem anc [Fuel] {a n:Int} (ha:0<=a/\a<8) (hn:0<=n/\n<3):0<=alc .i64 a (CW .i64 1 (IntKind.u64.wrap n))/\alc .i64 a (CW .i64 1 (IntKind.u64.wrap n))<8:=by
 have h1:a=0\/a=1\/a=2\/a=3\/a=4\/a=5\/a=6\/a=7:=by omega
 have h2:n=0\/n=1\/n=2:=by omega
 rcases h1 with rfl|rfl|rfl|rfl|rfl|rfl|rfl|rfl<;>rcases h2 with rfl|rfl|rfl<;>decide
theorem avx [Fuel] {w:aT} {tick:Int} (h:0<=w.From/\w.From<=w.Until/\w.Until<=1073741824) (ht:0<=tick):0<=(adD w tick).From/\(adD w tick).From<=(adD w tick).Until/\(adD w tick).Until<=1073741824:=by
 unfold adD Qq
 simp only
 (repeat' split)<;>omega
theorem ane [Fuel] (h:VC c) (hv:VS c s) (hk:0<=e.Tick/\e.Tick<=1073741824) (hkind:JX c e):Good c (adE c s e):=by
 unfold adE
 have hcl:=hv.cl
 have hvl:=h.vl
 cases hkind with
 |place k t ce o w n=>
  rw [k]
  show Good c (TD c s e)
  unfold TD
  have hT:=Q6 hv (UN hv t)
  unfold cOk at ce
  refine Good.bif (λ_=>Good.no (by decide)) (λ_=>Good.bif (λ_=>Good.no (by decide)) (λ_=>Good.bif (λ_=>Good.no (by decide)) (λ_=>Good.bif (λ_=>Good.no (by decide)) (λ_=>Good.fit (hv.Bq ?_)))))
  exact⟨⟨by show _<=e.Cell;omega,ce.2⟩,⟨o.1,o.2.1⟩,hT.nx,hT.tg,hT.wc,λ_=>ce.1,λ_=>rfl,hT.ep,hT.we,hT.wv,hT.wf⟩
 | grant k t ce o ep w n=>
  rw [k]
  show Good c (TF c s e)
  unfold TF
  have hT:=Q6 hv (UN hv t)
  unfold cOk at ce
  unfold vOk at n
  refine Good.bif (λ_=>Good.no (by decide)) (aCS=>Good.bif (λ_=>Good.no (by decide)) (λ_=>Good.bif (λhg=>Good.no (by simpa using hg)) (λhg=>Good.fit (hv.Bq ?_))))
  have hg0:Gl c s e=0:=by simpa using hg
  have hwin:e.From<e.Until:=by
   unfold Gl at hg0
   simp only at hg0
   revert hg0
   cases ((cAt s e.Cell).Mode==3||(cAt s e.Cell).Mode==2&& !(e.Cell==(tAt s e.aD).Home))with
   |true=>intro q;cases q
   | false=>
    cases (((e.Cell==(tAt s e.aD).Home)&&(e.Epoch !=(tAt s e.aD).Epoch))&&(e.Epoch !=(tAt s e.aD).Epoch+1))||((!(e.Cell==(tAt s e.aD).Home))&&(e.Epoch !=(tAt s e.aD).Epoch+1))with
    |true=>intro q;cases q
    | false=>
     cases ((e.N !=(cAt s e.Cell).Running)||((cAt s e.Cell).Running !=(cAt s e.Cell).Wanted))with
     |true=>intro q;cases q
     |false=>
      simp only [cond_false]
      by_cases hu:e.Until<=e.From
      ·rw [decide_eq_true hu];simp
      ·intro _;omega
  have hpl':(tAt s e.aD).Placed=true:=by
   cases hp:(tAt s e.aD).Placed with
   |true=>rfl
   |false=>rw [hp]at hpl;cases hpl
  unfold yY
  simp only
  have hW:0<=e.From/\e.From<=e.Until/\e.Until<=1073741824:=by omega
  cases (e.Cell==(tAt s e.aD).Home)with
  |true=>exact⟨hT.home,hT.sb,hT.nx,hT.tg,⟨by show _<=e.Cell;omega,ce.2⟩,hT.pl,hT.sh,⟨by show 0<=e.Epoch;omega,ep.2⟩,⟨by show 0<=e.Epoch;omega,ep.2⟩,n,hW⟩
  |false=>
   cases (e.Cell==(tAt s e.aD).aN)with
   |true=>exact⟨⟨by show _<=e.Cell;omega,ce.2⟩,⟨by show(-1:Int)≤-1;decide,by show(-1:Int)<_;omega⟩,⟨by show(-1:Int)≤-1;decide,by show(-1:Int)<_;omega⟩,⟨by show(-1:Int)≤-1;decide,by show(-1:Int)<_;omega⟩,⟨by show _<=e.Cell;omega,ce.2⟩,λ_=>ce.1,(λq=>by cases q),⟨by show 0<=e.Epoch;omega,ep.2⟩,⟨by show 0<=e.Epoch;omega,ep.2⟩,n,hW⟩
   |false=>exact⟨⟨by show _<=e.Cell;omega,ce.2⟩,hT.sb,hT.nx,⟨by show(-1:Int)≤-1;decide,by show(-1:Int)<_;omega⟩,⟨by show _<=e.Cell;omega,ce.2⟩,λ_=>ce.1,hT.sh,⟨by show 0<=e.Epoch;omega,ep.2⟩,⟨by show 0<=e.Epoch;omega,ep.2⟩,n,hW⟩
 |cut k t ce o ep w n=>
  rw [k]
  show Good c (an9 s e)
  unfold an9
  have hT:=Q6 hv (UN hv t)
  refine Good.bif (λ_=>Good.no (by decide)) (λ_=>Good.bif (λ_=>Good.no (by decide)) (λ_=>Good.ok (hv.Bq ?_)))
  exact⟨hT.home,hT.sb,hT.nx,hT.tg,hT.wc,hT.pl,hT.sh,hT.ep,hT.we,hT.wv,avx hT.wf hk.1⟩
 |JY k t ce o w n=>
  rw [k]
  show Good c (Gm c s e)
  unfold Gm
  have hT:=Q6 hv (UN hv t)
  have hok:Good c (Vy c (CP.Bq s e.aD {tAt s e.aD with Next:=e.Cell})):=Good.fit (hv.Bq ⟨hT.home,hT.sb,ce,hT.tg,hT.wc,hT.pl,hT.sh,hT.ep,hT.we,hT.wv,hT.wf⟩)
  exact Good.bif (λ_=>Good.no (by decide)) (λ_=>Good.bif (λ_=>hok) (λ_=>Good.bif (λ_=>Good.no (by decide)) (λ_=>Good.bif (λ_=>Good.no (by decide)) (λ_=>Good.bif (λ_=>Good.no (by decide)) (λ_=>Good.bif (λ_=>Good.no (by decide)) (λ_=>hok))))))
 |ready k t ce o w n=>
  rw [k]
  show Good c (TG s e)
  unfold TG
  have hT:=Q6 hv (UN hv t)
  unfold cOk at ce
  refine Good.bif (λ_=>Good.no (by decide)) (λ_=>Good.bif (λ_=>Good.no (by decide)) (λ_=>Good.bif (λ_=>Good.no (by decide)) (λ_=>Good.ok (hv.Bq ?_))))
  exact⟨hT.home,⟨by show _<=e.Cell;omega,ce.2⟩,⟨by show(-1:Int)≤-1;decide,by show(-1:Int)<_;omega⟩,hT.tg,hT.wc,hT.pl,hT.sh,hT.ep,hT.we,hT.wv,hT.wf⟩
 |migrate k t ce o w n=>
  rw [k]
  show Good c (Gn c s e)
  unfold Gn
  have hT:=Q6 hv (UN hv t)
  unfold cOk at ce
  refine Good.bif (λ_=>Good.no (by decide)) (λ_=>Good.bif (λ_=>Good.no (by decide)) (λ_=>Good.bif (λ_=>Good.no (by decide)) (λ_=>Good.bif (λ_=>Good.no (by decide)) (λ_=>Good.bif (λ_=>Good.no (by decide)) (λ_=>Good.fit (hv.Bq ?_))))))
  exact⟨hT.home,hT.sb,hT.nx,⟨by show _<=e.Cell;omega,ce.2⟩,hT.wc,hT.pl,hT.sh,hT.ep,hT.we,hT.wv,hT.wf⟩
 |abandon k t ce o w n=>
  rw [k]
  show Good c (Gp s e)
  unfold Gp
  have hT:=Q6 hv (UN hv t)
  have:=h.cl
  refine Good.bif (λ_=>Good.no (by decide)) (λ_=>Good.ok (hv.Bq ?_))
  exact⟨hT.home,hT.sb,hT.nx,⟨by show(-1:Int)≤-1;decide,by show(-1:Int)<_;omega⟩,hT.wc,hT.pl,hT.sh,hT.ep,hT.we,hT.wv,hT.wf⟩
 | shed k t ce o w n=>
  rw [k]
  show Good c (abm c s e)
  unfold abm
  have hT:=Q6 hv (UN hv t)
  have:=h.cl
  refine Good.bif (λ_=>Good.bif (λ_=>Good.no (by decide)) (λhp=>Good.bif (λ_=>Good.no (by decide)) (λ_=>Good.ok (hv.Bq ?_)))) (λ_=>Good.bif (λ_=>Good.no (by decide)) (λ_=>Good.bif (λ_=>Good.no (by decide)) (λ_=>Good.fit (hv.Bq ?_))))
  ·have hpl:(tAt s e.aD).Placed=true:=by
    cases hq:(tAt s e.aD).Placed with
    |true=>rfl
    |false=>rw [hq]at hp;cases hp
   exact⟨hT.home,hT.sb,hT.nx,⟨by show(-1:Int)≤-1;decide,by show(-1:Int)<_;omega⟩,hT.wc,hT.pl,λ_=>hpl,hT.ep,hT.we,hT.wv,hT.wf⟩
  ·exact⟨hT.home,hT.sb,hT.nx,hT.tg,hT.wc,hT.pl,λq=>(by cases q),hT.ep,hT.we,hT.wv,hT.wf⟩
 |mode k t ce o w n=>
  rw [k]
  show Good c (afE s e)
  unfold afE
  have hC:=am9 hv (abl hv ce)
  exact Good.bif (λ_=>Good.no (by decide)) (λ_=>Good.ok (hv.adC ⟨n,hC.run,hC.wan,hk⟩))
 |want k t ce o w n=>
  rw [k]
  show Good c (aal c s e)
  unfold aal
  have hC:=am9 hv (abl hv ce)
  exact Good.bif (λ_=>Good.no (by decide)) (λ_=>Good.bif (λ_=>Good.no (by decide)) (λ_=>Good.bif (λ_=>Good.no (by decide)) (λ_=>Good.bif (λ_=>Good.no (by decide)) (λ_=>Good.ok (hv.adC ⟨hC.mode,hC.run,n,hC.sin⟩)))))
 |runs k t ce o w n=>
  rw [k]
  show Good c (abn s e)
  unfold abn
  have hC:=am9 hv (abl hv ce)
  exact Good.bif (λ_=>Good.no (by decide)) (λ_=>Good.bif (λ_=>Good.no (by decide)) (λ_=>Good.bif (λ_=>Good.no (by decide)) (λ_=>Good.ok (hv.adC ⟨hC.mode,n,hC.wan,hk⟩))))
 |prove k t ce o w n=>
  rw [k]
  show Good c (TH c s e)
  unfold TH
  unfold vOk at n
  have hb:=ao1 hv.aln ⟨n.1,by omega⟩
  exact Good.bif (λ_=>Good.no (by decide)) (λ_=>Good.bif (λ_=>Good.ok ⟨hv.tl,hv.cl,hv.t,hv.cel,hv.tick,hv.cnt,hb,hv.XW,hv.lh⟩) (λ_=>Good.no (by decide)))
 |XW k t ce o w n=>
  rw [k]
  show Good c (afF s e)
  unfold afF
  have aa4:=h.reg
  have hb:=anc hv.XW ⟨o.1,by omega⟩
  exact Good.bif (λ_=>Good.no (by decide)) (λ_=>Good.ok ⟨hv.tl,hv.cl,hv.t,hv.cel,hv.tick,hv.cnt,hv.aln,hb,hv.lh⟩)
 |expand k t ce o w n=>
  rw [k]
  show Good c (LV c s)
  unfold LV
  have hlh:=hv.lh
  refine Good.bif (λ_=>Good.no (by decide)) (λh1=>Good.bif (λ_=>Good.no (by decide)) (λh2=>Good.bif (λ_=>Good.no (by decide)) (λ_=>Good.ok ⟨hv.tl,hv.cl,hv.t,hv.cel,hv.tick,hv.cnt,hv.aln,hv.XW,?_⟩)))
  have h2:=of_decide_eq_false h2
  exact⟨hlh.1,by show s.Low<=s.High+1;omega,by show s.High+1<=30;omega⟩
 |contract k t ce o w n=>
  rw [k]
  show Good c (G5 s)
  unfold G5
  have hlh:=hv.lh
  exact Good.bif (λ_=>Good.no (by decide)) (λ_=>Good.ok ⟨hv.tl,hv.cl,hv.t,hv.cel,hv.tick,hv.cnt,hv.aln,hv.XW,by show 0<=s.High;omega,Int.le_refl _,hlh.2.2⟩)
 |note k t ce o w n=>rw [k];exact Good.ok hv
theorem acJ [Fuel] (h:VC c) (hv:VS c s):Good c (qo c s e):=by
 unfold qo
 refine Good.bif (λ_=>Good.no (by decide)) (λhb=>Good.bif (λ_=>Good.no (by decide)) (λh4=>Good.bif (λ_=>Good.no (by decide)) (λ_=> ?_)))
 have hV:=((valid_eq (e:=e) h).2).1 (by simpa using hb)
 have h4:=of_decide_eq_false h4
 exact ane h (hv.bump hV.1 (by omega)) hV.1 hV.2
end
end Go.CP
namespace Go.CP
open Go
structure TR (t0:aP) (t:aP) (b:Int):Prop where
 tb:TB t b
 l:t.L=t0.L
 at_:t0.At<=t.At
theorem TR.eta [Fuel] {t0 t:aP} {b:Int} (h:TR t0 t b):TR t0 {L:=t.L,At:=t.At} b:=h
theorem TR.up [Fuel] {t0 t:aP} {b b':Int} (h:TR t0 t b) (hb:b<=b'):TR t0 t b':=⟨h.tb.up hb,h.l,h.at_⟩
theorem afG [Fuel] {t:aP} {b n:Int} (h:TB t b) (h1:1<=n) (h2:n<=4611686018427387904) (hb:b<=1000000000) {r:Int×aP} (hr:bC t n=some r):
  r.2.L=t.L/\t.At<=r.2.At/\(t.L.length≠0->t.At+1<=r.2.At):=by
 have hlo:=h.lo
 have hhi:=h.hi
 unfold bC at hr;simp only [iQ,dZ]at hr
 by_cases h0:((t.L.length:Nat):Int)=0
 ·have:((((t.L.length:Nat):Int))==0)=true:=by simpa using h0
  rw [this]at hr
  cases hr
  exact⟨rfl,Int.le_refl _,λq=>absurd (by omega) q⟩
 ·have e:((((t.L.length:Nat):Int))==0)=false:=by simpa using h0
  rw [e]at hr
  simp only [cond_false]at hr
  obtain⟨_,hr⟩:=asr hr
  obtain⟨x,_,hr⟩:=Gy hr
  obtain⟨_,hr⟩:=asr hr
  obtain⟨y,_,hr⟩:=Gy hr
  obtain⟨z,_,hr⟩:=Gy hr
  have hr:=Option.some.inj hr
  subst hr
  rw [bA (x:=t.At+1) (by omega) (by omega)]
  exact⟨rfl,by show t.At<=t.At+1;omega,λ_=>Int.le_refl _⟩
section
variable {t0 t:aP} {b:Int}
theorem BQ [Fuel] {n:Int} (h:TR t0 t b) (h1:1<=n) (h2:n<=4611686018427387904) (hb:b<=1000000000):
  Ok (bC t n) (λr=>0<=r.1/\r.1<n/\TR t0 r.2 (b+1)):=by
 obtain⟨r,hr,q1,q2,q3⟩:=yx h.tb h1 h2 hb
 obtain⟨s1,s2,_⟩:=afG h.tb h1 h2 hb hr
 exact⟨r,hr,q1,q2,q3,by rw [s1,h.l],Int.le_trans h.at_ s2⟩
theorem ai5 [Fuel] {lo hi:Int} (h:TR t0 t b) (h1:lo<=hi) (h2: -1000000000<=lo) (h3:hi<=1000000000) (hb:b<=1000000000):
  Ok (gP t lo hi) (λr=>lo<=r.1/\r.1<=hi/\TR t0 r.2 (b+1)):=by
 unfold gP;(try simp only [iQ,dZ])
 rw [bA (x:=hi - lo) (by omega) (by omega),bA (x:=hi - lo+1) (by omega) (by omega)]
 refine Ok.bind (BQ h (by omega) (by omega) hb) (λr hr=>Ok.some ?_)
 rw [bA (by omega) (by omega)]
 exact⟨by show lo<=lo+r.1;omega,by show lo+r.1<=hi;omega,hr.2.2⟩
theorem aam [Fuel] {n:Int} (h:TR t0 t b) (h1:1<=n) (h2:n<=4611686018427387904) (hb:b<=1000000000):
  Ok (dV t n) (λr=>TR t0 r.2 (b+1)):=by
 unfold dV;(try simp only [iQ,dZ])
 exact Ok.bind (BQ h h1 h2 hb) (λr hr=>Ok.some hr.2.2)
theorem adF [Fuel] {l:List Int} (h:TR t0 t b) (hl:l.length<=1000) (hb:b<=1000000000):Ok (JO t l) (λr=>TR t0 r.2 (b+1)):=by
 unfold JO;(try simp only [iQ,dZ])
 refine Ok.cond (λ_=>Ok.some (h.up (by omega))) (λh0=> ?_)
 have:((l.length:Nat):Int)≠0:=by simpa using h0
 exact Ok.bind (BQ h (by omega) (by omega) hb) (λr hr=>Ok.idx ⟨hr.1,hr.2.1⟩ (λx _ _=>Ok.some hr.2.2))
end
section
variable {c:ak} {s:aB}
theorem ahD [Fuel] (h:VC c) (t:Int):∀(m k:Nat) (l:List Int),c.Cells.length - k<m->k<=c.Cells.length->l.length<=k->Ok (wB c t m l (k:Int)) (λr=>r.length<=c.Cells.length)
 |0,_,_,hm,_,_=>absurd hm (Nat.not_lt_zero _)
 |m+1,k,l,hm,hk,hl=>by
  have hcl:=h.cl
  rw [wB];(try simp only [iQ,dZ])
  refine Ok.cond (az6=> ?_) (λ_=>Ok.some (by omega))
  have hlt:=of_decide_eq_true hlt
  refine Ok.Vu (QZ h t k) ?_
  unfold Gj;(try simp only [iQ,dZ])
  rw [bA (x:=(k:Int)+1) (by omega) (by omega)]
  have ec:(k:Int)+1=((k+1:Nat):Int):=by omega
  rw [ec]
  exact Ok.cond (λ_=>Ok.chk (dT (by show _<=140737488355328;simp;omega)) (ahD h t m (k+1) _ (by omega) (by omega) (by simp;omega))) (λ_=>ahD h t m (k+1) _ (by omega) (by omega) (by omega))
theorem ai6 [Fuel] (h:VC c) (t:Int):Ok (JN c t) (λr=>r.length<=16):=by
 have hcl:=h.cl
 unfold JN;(try simp only [iQ,dZ])
 exact(ahD h t fuel 0 [] (by rw [lX];omega) (by omega) (by simp)).mono (λr hr=>by omega)
theorem Xi [Fuel] (h:VC c) (t hm0:Int):∀(m k:Nat) (l:List Int),c.Cells.length - k<m->k<=c.Cells.length->l.length<=k->Ok (p9 c t hm0 m l (k:Int)) (λr=>r.length<=c.Cells.length)
 |0,_,_,hm,_,_=>absurd hm (Nat.not_lt_zero _)
 |m+1,k,l,hm,hk,hl=>by
  have hcl:=h.cl
  rw [p9];(try simp only [iQ,dZ])
  refine Ok.cond (az6=> ?_) (λ_=>Ok.some (by omega))
  have hlt:=of_decide_eq_true hlt
  refine Ok.Vu (QZ h t k) ?_
  simp only [aae h,kG,Option.bind_some]
  unfold yS;(try simp only [iQ,dZ])
  rw [bA (x:=(k:Int)+1) (by omega) (by omega)]
  have ec:(k:Int)+1=((k+1:Nat):Int):=by omega
  rw [ec]
  exact Ok.cond (λ_=>Ok.chk (dT (by show _<=140737488355328;simp;omega)) (Xi h t hm0 m (k+1) _ (by omega) (by omega) (by simp;omega))) (λ_=>Xi h t hm0 m (k+1) _ (by omega) (by omega) (by omega))
theorem aan [Fuel] (h:VC c) (t hm0:Int):Ok (Ay c t hm0) (λr=>r.length<=16):=by
 have hcl:=h.cl
 unfold Ay;(try simp only [iQ,dZ])
 exact(Xi h t hm0 fuel 0 [] (by rw [lX];omega) (by omega) (by simp)).mono (λr hr=>by omega)
abbrev ER (t0:aP) (B b:Int) (r:aA×aP):Prop:=TR t0 r.2 b/\r.1.Tick<=B
theorem ahE [Fuel] (h:VC c) (hv:VS c s) {t0 t:aP} {b:Int} (hT:TR t0 t b) (hb:b<=1000000) (tick:Int) (htk:0<=tick/\tick<=1100000000):Ok (I6 t c s tick) (ER t0 (tick+10001) (b+3)):=by
 have hcl:=h.cl
 have hvl:=h.vl
 have hle:=h.adA
 have hba:=h.bake
 have aa4:=h.reg
 have hl:=hv.cl
 unfold I6 JM;(try simp only [iQ,dZ])
 refine Ok.Vu rfl (Ok.bind (BQ hT (by omega) (by omega) (by omega)) (λr6 q6=>Ok.idx ⟨q6.1,by omega⟩ (λx7 _ _=>Ok.bind (BQ q6.2.2 (by omega) (by omega) (by omega)) (λr8 q8=> ?_))))
 have k3:∀(x5:aA) (t':aP) (b':Int),TR t0 t' b'->b'<=b+3->x5.Tick<=tick+10001->Ok (ig t' x5) (ER t0 (tick+10001) (b+3)):=λx5 t' b' ht hb' hx=>Ok.some ⟨ht.up hb',hx⟩
 have q8':=q8.2.2
 have k1:∀(x5:aA) (g:Bool),x5.Tick<=tick+10001->Ok (qU c s tick x5 x7 r8.2 r6.1 r8.1 g) (ER t0 (tick+10001) (b+3)):=by
  intro x5 g hx
  unfold qU;(try simp only [iQ,dZ])
  refine Ok.cond (λ_=>Ok.bind (BQ q8' (by omega) (by omega) (by omega)) (λr q=>k3 _ _ _ q.2.2 (by omega) (by show w64 (tick+r.1)<=_;rw [bA (by omega) (by omega)];omega))) (λ_=> ?_)
  refine Ok.cond (λ_=> ?_) (λ_=> ?_)
  ·rw [bA (x:=c.UL+1) (by omega) (by omega)]
   exact Ok.bind (BQ q8' (by omega) (by omega) (by omega)) (λr q=>k3 _ _ _ q.2.2 (by omega) (by show w64 (tick+r.1)<=_;rw [bA (by omega) (by omega)];omega))
  ·refine Ok.cond (λ_=> ?_) (λ_=> ?_)
   ·refine Ok.bind (BQ q8' (by omega) (by omega) (by omega)) (λr q=>Ok.Vu (QY hv.XW.1) ?_)
    exact Ok.cond (λ_=>k3 _ _ _ q.2.2 (by omega) hx) (λ_=>k3 _ _ _ q.2.2 (by omega) hx)
   ·refine Ok.cond (λ_=> ?_) (λ_=> ?_)
    ·exact Ok.cond (λ_=>k3 _ _ _ q8' (by omega) hx) (λ_=>k3 _ _ _ q8' (by omega) hx)
    ·exact Ok.bind (BQ q8' (by omega) (by omega) (by omega)) (λr q=>k3 _ _ _ q.2.2 (by omega) hx)
 have k2:∀(x5:aA) (g:Bool),x5.Tick<=tick+10001->Ok (qV c s tick x5 x7 r8.2 r6.1 r8.1 g) (ER t0 (tick+10001) (b+3)):=by
  intro x5 g hx
  unfold qV;(try simp only [iQ,dZ])
  refine Ok.cond (λ_=>Ok.bind (BQ q8' (by omega) (by omega) (by omega)) (λr q=>k3 _ _ _ q.2.2 (by omega) hx)) (λ_=> ?_)
  exact Ok.cond (λ_=>k1 _ _ hx) (λ_=>Ok.cond (λ_=>k1 _ _ hx) (λ_=>k1 _ _ hx))
 refine Ok.cond (λ_=>Ok.bind (ai5 q8' (by omega) (by omega) (by omega) (by omega)) (λr q=>k3 _ _ _ q.2.2 (by omega) (by show tick<=_;omega))) (λ_=> ?_)
 refine Ok.cond (λ_=>k3 _ _ _ q8' (by omega) (by show tick<=_;omega)) (λ_=> ?_)
 exact Ok.cond (λ_=>k2 _ _ (by show tick<=_;omega)) (λ_=>Ok.cond (λ_=>k2 _ _ (by show tick<=_;omega)) (λ_=>k2 _ _ (by show tick<=_;omega)))
theorem ao2 [Fuel] (h:VC c) (hv:VS c s) {t0 t:aP} {b:Int} (hT:TR t0 t b) (hb:b<=1000000) {e:aA} (ht:tOk c e) (hp:(tAt s e.aD).Placed=true) {B:Int} (hB1:e.Tick<=B) (hB2:(tAt s e.aD).Window.Until<=B):Ok (Sk t c s e) (ER t0 B (b+9)):=by
 have hle:=h.adA
 have hl:=hv.cl
 have h1:=UN hv ht
 have hTS:=Q6 hv h1
 unfold Sk;(try simp only [iQ,dZ])
 refine Ok.Vu (idx_eq h1) ?_
 show Ok (Option.bind (bif(decide (0<=(tAt s e.aD).Target))then dV t 2 else some (default,t)) _) _
 have k1:∀(p4:aA) (t':aP) (b':Int),TR t0 t' b'->b'<=b+9->p4.Tick<=B->Ok (I7 t' p4) (ER t0 B (b+9)):=λ_ t' b' ht hb' hx=>Ok.some ⟨ht.up hb',hx⟩
 have k2:∀(p4:aA) (t':aP) (b':Int),0<=p4.Cell->p4.Cell<((s.Cells.length:Nat):Int)->TR t0 t' b'->b'<=b+6->p4.Tick<=B->Ok (DR c s t' p4) (ER t0 B (b+9)):=by
  intro p4 t' b' g1 g2 ht' hb' hx
  unfold DR;(try simp only [iQ,dZ])
  refine Ok.bind (ai5 ht' (by omega) (by omega) (by omega) (by omega)) (λr q=>Ok.idx ⟨g1,g2⟩ (λx _ _=>Ok.bind (aam q.2.2 (by omega) (by omega) (by omega)) (λr2 q2=> ?_)))
  exact Ok.cond (λ_=>Ok.bind (BQ q2 (by omega) (by omega) (by omega)) (λr3 q3=>k1 _ _ _ q3.2.2 (by omega) hx)) (λ_=>k1 _ _ _ q2 (by omega) hx)
 have k3:∀(p4:aA) (x5:ay) (t':aP) (b':Int),0<=p4.Cell->p4.Cell<((s.Cells.length:Nat):Int)->TR t0 t' b'->b'<=b+4->p4.Tick<=B->Ok (DT c s x5 t' p4) (ER t0 B (b+9)):=by
  intro p4 x5 t' b' g1 g2 ht' hb' hx
  unfold DT;(try simp only [iQ,dZ])
  refine Ok.bind (aam ht' (by omega) (by omega) (by omega)) (λr q=> ?_)
  exact Ok.cond (λ_=>Ok.bind (BQ q (by omega) (by omega) (by omega)) (λr3 q3=>k2 _ _ _ g1 g2 q3.2.2 (by omega) hx)) (λ_=>k2 _ _ _ g1 g2 q (by omega) hx)
 have k4:∀(p4:aA) (x5:ay) (t':aP) (b':Int),0<=p4.Cell->p4.Cell<((s.Cells.length:Nat):Int)->TR t0 t' b'->b'<=b+3->p4.Tick<=B->x5.Window.Until<=B->Ok (DU c s x5 t' p4) (ER t0 B (b+9)):=by
  intro p4 x5 t' b' g1 g2 ht' hb' hx hu
  unfold DU;(try simp only [iQ,dZ])
  have step:Ok (bif(p4.Cell !=x5.Home)then bC t' 4 else some (default,t')) (λr=>TR t0 r.2 (b'+1)):=
   Ok.cond (λ_=>(BQ ht' (by omega) (by omega) (by omega)).mono (λr q=>q.2.2)) (λ_=>Ok.some (ht'.up (by omega)))
  refine Ok.bind step (λr q=> ?_)
  exact Ok.cond (λ_=>k3 _ _ _ _ g1 g2 q (by omega) (by show UU _ _<=B;unfold UU;split<;>omega)) (λ_=>k3 _ _ _ _ g1 g2 q (by omega) hx)
 have k5:∀(p4:aA) (x5:ay) (t':aP) (b':Int),0<=p4.Cell->p4.Cell<((s.Cells.length:Nat):Int)->TR t0 t' b'->b'<=b+2->p4.Tick<=B->x5.Window.Until<=B->Ok (yT c s x5 t' p4) (ER t0 B (b+9)):=by
  intro p4 x5 t' b' g1 g2 ht' hb' hx hu
  unfold yT;(try simp only [iQ,dZ])
  have step:Ok (bif(!((p4.Cell !=x5.Home)||(x5.Epoch==0)))then dV t' 4 else some (default,t')) (λr=>TR t0 r.2 (b'+1)):=
   Ok.cond (λ_=>aam ht' (by omega) (by omega) (by omega)) (λ_=>Ok.some (ht'.up (by omega)))
  refine Ok.bind step (λr q=> ?_)
  exact Ok.cond (λ_=>k4 _ _ _ _ g1 g2 q (by omega) hx hu) (λ_=>k4 _ _ _ _ g1 g2 q (by omega) hx hu)
 have htg:=hTS.tg
 have hsb:=hTS.sb
 have hho:=hTS.home
 have hpl:=hTS.pl hp
 have step1:Ok (bif(decide (0<=(tAt s e.aD).Target))then dV t 2 else some (default,t)) (λr=>TR t0 r.2 (b+1)):=
  Ok.cond (λ_=>aam hT (by omega) (by omega) (by omega)) (λ_=>Ok.some (hT.up (by omega)))
 refine Ok.bind step1 (λr6 q6=> ?_)
 refine Ok.cond (λhc=> ?_) (λ_=> ?_)
 ·simp only [Bool.and_eq_true]at hc
  have:=of_decide_eq_true hc.1
  exact k5 _ _ _ _ this (by show(tAt s e.aD).Target<_;omega) q6 (by omega) hB1 hB2
 ·have step2:Ok (bif(decide (0<=(tAt s e.aD).aN))then dV r6.2 5 else some (default,r6.2)) (λr=>TR t0 r.2 (b+1+1)):=
   Ok.cond (λ_=>aam q6 (by omega) (by omega) (by omega)) (λ_=>Ok.some (q6.up (by omega)))
  refine Ok.bind step2 (λr7 q7=> ?_)
  refine Ok.cond (λhc=> ?_) (λ_=> ?_)
  ·simp only [Bool.and_eq_true]at hc
   have:=of_decide_eq_true hc.1
   exact k5 _ _ _ _ this (by show(tAt s e.aD).aN<_;omega) q7 (by omega) hB1 hB2
  ·exact k5 _ _ _ _ hpl (by show(tAt s e.aD).Home<_;omega) q7 (by omega) hB1 hB2
theorem aao [Fuel] (h:VC c) (hv:VS c s) {t0 t:aP} {b:Int} (hT:TR t0 t b) (hb:b<=100000) (tick:Int) (htk:0<=tick/\tick<=1100000000) {B:Int} (hB:tick+10001<=B) (hU:∀x∈s.ah,x.Window.Until<=B):Ok (DV c s t tick) (ER t0 B (b+12)):=by
 have htl:=hv.tl
 have ctl:=h.tl
 unfold DV;(try simp only [iQ,dZ])
 have step:Ok (bif(!(((c.ah.length:Nat):Int)==0))then dV t 4 else some (default,t)) (λr=>TR t0 r.2 (b+1)):=
  Ok.cond (λ_=>aam hT.eta (by omega) (by omega) (by omega)) (λ_=>Ok.some (hT.up (by omega)))
 refine Ok.bind step (λr9 q9=> ?_)
 refine Ok.cond (λ_=> ?_) (λhn=> ?_)
 ·exact Ok.bind (ahE h hv q9 (by omega) tick htk) (λr q=>Ok.some ⟨q.1.up (by omega),by have:=q.2;show r.1.Tick<=B;omega⟩)
 ·have hne:((c.ah.length:Nat):Int)≠0:=by
   simp only [Bool.or_eq_false_iff]at hn
   simpa using hn.1
  refine Ok.bind (BQ q9 (by omega) (by omega) (by omega)) (aCT q11=> ?_)
  have i1:0<=r11.1/\r11.1<((s.ah.length:Nat):Int):=by omega
  refine Ok.Vu (idx_eq i1) ?_
  show Ok (bif(!(tAt s r11.1).Placed)then _ else _) _
  refine Ok.cond (λ_=> ?_) (λhp=> ?_)
  ·unfold JM;(try simp only [iQ,dZ])
   refine Ok.Vu rfl (Ok.bind (ai6 h _) (aem q14=>Ok.bind (adF q11.2.2 (by omega) (by omega)) (ady q15=>Ok.bind (aan h _ _) (agG q16=>Ok.bind (adF q15 (by omega) (by omega)) (aiZ q17=>Ok.some ⟨q17.up (by omega),by show tick<=B;omega⟩)))))
  ·have hp:(tAt s r11.1).Placed=true:=by simpa using hp
   unfold JM;(try simp only [iQ,dZ])
   refine Ok.Vu rfl (Ok.bind (BQ q11.2.2 (by omega) (by omega) (by omega)) (aCU q19=> ?_))
   have ap2:=q19.2.2
   have k1:∀(x18:aA) (t':aP) (b':Int),TR t0 t' b'->b'<=b+12->x18.Tick<=B->Ok (pI t' x18) (ER t0 B (b+12)):=λ_ t' b' ht hb' hx=>Ok.some ⟨ht.up hb',hx⟩
   refine Ok.cond (λ_=>k1 _ _ _ ap2 (by omega) (by show tick<=B;omega)) (λ_=> ?_)
   refine Ok.cond (λ_=>Ok.bind (aan h _ _) (amZ q20=>Ok.bind (adF ap2 (by omega) (by omega)) (alk q21=>k1 _ _ _ q21 (by omega) (by show tick<=B;omega)))) (λ_=> ?_)
   refine Ok.cond (λ_=>k1 _ _ _ ap2 (by omega) (by show tick<=B;omega)) (λ_=> ?_)
   refine Ok.cond (λ_=>Ok.bind (ai6 h _) (amZ q20=>Ok.bind (adF ap2 (by omega) (by omega)) (alk q21=>k1 _ _ _ q21 (by omega) (by show tick<=B;omega)))) (λ_=> ?_)
   refine Ok.cond (λ_=>k1 _ _ _ ap2 (by omega) (by show tick<=B;omega)) (λ_=> ?_)
   refine Ok.cond (λ_=>Ok.cond (λ_=>k1 _ _ _ ap2 (by omega) (by show tick<=B;omega)) (λ_=>k1 _ _ _ ap2 (by omega) (by show tick<=B;omega))) (λ_=> ?_)
   exact Ok.bind (ao2 h hv ap2 (by omega) (show tOk c _ from⟨i1.1,by show r11.1<_;omega⟩) hp (B:=B) (by show tick<=B;omega) (hU _ (uX (by show r11.1.toNat<_;omega)))) (λr q=>Ok.some ⟨q.1.up (by omega),q.2⟩)
theorem ao3 [Fuel] (h:VC c) (hv:VS c s) {t:aP} {b:Int} (hT:TB t b) (hb:b<=10000) {B:Int} (hB:s.Tick+10004<=B) (hU:∀x∈s.ah,x.Window.Until<=B):Ok (Sl t c s) (λr=>TB r.2 (b+14)/\r.2.L=t.L/\(t.L.length≠0->t.At+1<=r.2.At)/\r.1.Tick<=B):=by
 have htk:=hv.tick
 unfold Sl;(try simp only [iQ,dZ])
 obtain⟨r4,e4,q4⟩:=yx hT (n:=4) (by omega) (by omega) (by omega)
 obtain⟨s1,s2,s3⟩:=afG hT (by omega) (by omega) (by omega) e4
 have hR:TR r4.2 r4.2 (b+1):=⟨q4.2.2,rfl,Int.le_refl _⟩
 have fin:∀r:aA×aP,ER r4.2 B (b+1+1+12) r->TB r.2 (b+14)/\r.2.L=t.L/\(t.L.length≠0->t.At+1<=r.2.At)/\r.1.Tick<=B:=by
  rintro r ⟨hr,hrt⟩
  refine⟨hr.tb.up (by omega),by rw [hr.l,s1],λhn=> ?_,hrt⟩
  have:=s3 hn
  have:=hr.at_
  omega
 refine Ok.Vu e4 (Ok.bind (aam hR (by omega) (by omega) (by omega)) (λr5 q5=> ?_))
 rw [bA (x:=s.Tick+r4.1) (by omega) (by omega),bA (x:=s.Tick - 1) (by omega) (by omega)]
 exact Ok.cond (λ_=>(aao h hv q5 (by omega) _ (by unfold UU;split<;>omega) (B:=B) (by unfold UU;split<;>omega) hU).mono fin) (λ_=>(aao h hv q5 (by omega) _ (by omega) (B:=B) (by omega) hU).mono fin)
end
end Go.CP
namespace Go.CP
open Go
def t0S:ay:={Placed:=false,Aa:=false,Home:=(-1),aN:=(-1),Next:=(-1),Target:=(-1),Epoch:=0,Window:={Cell:=(-1),Epoch:=0,Version:=0,From:=0,Until:=0:aT}}
def c0S:aH:={Mode:=1,Running:=0,Wanted:=0,Since:=0}
def newS (c:ak):aB:={Tick:=0,Count:=0,ah:=List.replicate c.ah.length t0S,Cells:=List.replicate c.Cells.length c0S,jV:=1,bg:=0,Low:=0,High:=0}
section
variable {c:ak} {s:aB}
theorem avy [Fuel] (h:VC c):TS c t0S:=by
 have hcl:=h.cl
 have hvl:=h.vl
 refine⟨?_,?_,?_,?_,?_,λq=>(by cases q),λq=>(by cases q),?_,?_,?_,?_⟩<;>simp only [t0S]<;>omega
theorem avz [Fuel] (h:VC c):CS c c0S:=by
 have hvl:=h.vl
 refine⟨?_,?_,?_,?_⟩<;>simp only [c0S]<;>omega
theorem anf [Fuel] (h:VC c):VS c (newS c):=by
 refine⟨by simp [newS],by simp [newS],λx hx=> ?_,λx hx=> ?_,?_,?_,?_,?_,?_⟩
 ·rw [List.eq_of_mem_replicate hx];exact avy h
 ·rw [List.eq_of_mem_replicate hx];exact avz h
 all_goals (simp only [newS];omega)
theorem afH [Fuel] {α:Type} (n:Nat) (a:α):List.replicate n a++ [a]=List.replicate (n+1) a:=by rw [List.replicate_succ']
theorem ap3 [Fuel] (h:VC c) (ts:List ay):∀(m k:Nat),c.Cells.length - k<m->k<=c.Cells.length→
  GV c m {Tick:=0,Count:=0,ah:=ts,Cells:=List.replicate k c0S,jV:=1,bg:=0,Low:=0,High:=0} (k:Int)=some {Tick:=0,Count:=0,ah:=ts,Cells:=List.replicate c.Cells.length c0S,jV:=1,bg:=0,Low:=0,High:=0}
 |0,_,hm,_=>absurd hm (Nat.not_lt_zero _)
 | m+1,k,hm,hk=>by
  have hcl:=h.cl
  rw [GV];dsimp only
  by_cases hlt:k<c.Cells.length
  ·rw [decide_eq_true (show(k:Int)<((c.Cells.length:Nat):Int)by omega),decide_eq_true (show((List.replicate k c0S).length+ [{Mode:=1,Running:=0,Wanted:=0,Since:=0:aH}].length)*32<=140737488355328 by simp;omega),bA (x:=(k:Int)+1) (by omega) (by omega)]
   have:=ap3 h ts m (k+1) (by omega) (by omega)
   rw [<-afH]at this
   simpa [chk,c0S]using this
  ·rw [decide_eq_false (show¬(k:Int)<((c.Cells.length:Nat):Int)by omega)]
   have:k=c.Cells.length:=by omega
   subst this;rfl
theorem ap4 [Fuel] (h:VC c):∀(m k:Nat),c.ah.length - k<m->k<=c.ah.length->GX c m {Tick:=0,Count:=0,ah:=List.replicate k t0S,Cells:= [],jV:=1,bg:=0,Low:=0,High:=0} (k:Int)=some (newS c)
 |0,_,hm,_=>absurd hm (Nat.not_lt_zero _)
 | m+1,k,hm,hk=>by
  have hcl:=h.cl
  have htl:=h.tl
  rw [GX];dsimp only
  by_cases hlt:k<c.ah.length
  ·rw [decide_eq_true (show(k:Int)<((c.ah.length:Nat):Int)by omega),decide_eq_true (show((List.replicate k t0S).length+ [{Placed:=false,Aa:=false,Home:= -1,aN:= -1,Next:= -1,Target:= -1,Epoch:=0,Window:={Cell:= -1,Epoch:=0,Version:=0,From:=0,Until:=0}:ay}].length)*88<=140737488355328 by simp;omega),bA (x:=(k:Int)+1) (by omega) (by omega)]
   have:=ap4 h m (k+1) (by omega) (by omega)
   rw [<-afH]at this
   simpa [chk,t0S]using this
  ·rw [decide_eq_false (show¬(k:Int)<((c.ah.length:Nat):Int)by omega)]
   have:k=c.ah.length:=by omega
   subst this
   have:=ap3 h (List.replicate c.ah.length t0S) fuel 0 (by rw [lX];omega) (by omega)
   simpa [newS]using this
theorem atp [Fuel] (h:VC c):Vr c=some (newS c):=by
 have htl:=h.tl
 unfold Vr;(try simp only [iQ,dZ])
 have:=ap4 h fuel 0 (by rw [lX];omega) (by omega)
 simpa using this
def ap5 [Fuel] (c:ak):aB->List aA->aB
 |s,[]=>s
 |s,e::r=>ap5 c (qo c s e).1 r
def okS [Fuel] (c:ak):aB->List aA->Prop
 |_,[]=>True
 |s,e::r=>(qo c s e).2=0/\okS c (qo c s e).1 r
theorem ao4 [Fuel] (l:List aA) (e:aA):∀s,ap5 c s (l++ [e])=(qo c (ap5 c s l) e).1:=by
 induction l with
 |nil=>intro s;rfl
 |cons a l ih=>intro s;exact ih _
theorem ard [Fuel] (l:List aA) (e:aA):∀s,okS c s l->(qo c (ap5 c s l) e).2=0->okS c s (l++ [e]):=by
 induction l with
 |nil=>intro s _ h;exact⟨h,trivial⟩
 |cons a l ih=>intro s h h2;exact⟨h.1,ih _ h.2 h2⟩
theorem ap6 [Fuel] (h:VC c) (l:List aA):∀s,VS c s->okS c s l->VS c (ap5 c s l):=by
 induction l with
 |nil=>intro s hv _;exact hv
 |cons a l ih=>intro s hv ho;exact ih _ (acJ h hv ho.1) ho.2
def Reached [Fuel] (c:ak) (s:aB):Prop:=∃l,okS c (newS c) l/\l.length<=1000/\ap5 c (newS c) l=s
theorem Reached.vs [Fuel] (h:VC c) (hr:Reached c s):VS c s:=by
 obtain⟨l,h1,h2,rfl⟩:=hr
 exact ap6 h l _ (anf h) h1
end
end Go.CP
namespace Go.CP
open Go
def ai7 (t:ay) (e:aA):ay:={t with Placed:=true,Home:=e.Cell,aN:=e.Other}
def atq (e:aA):aT:={Cell:=e.Cell,Epoch:=e.Epoch,Version:=e.N,From:=e.From,Until:=e.Until}
inductive Step (c:ak) (s:aB) (e:aA):aB->Prop
 | place (k:e.Kind=1) (t:tOk c e) (ce:cOk c e) (o: -1<=e.Other/\e.Other<(c.Cells.length:Int)/\e.Other≠e.Cell)
   (np:(tAt s e.aD).Placed=false) (m1:(cAt s e.Cell).Mode=1) (m2:0<=e.Other->(cAt s e.Other).Mode=1)
   (f1:Zd c s e.Cell=false) (f2:0<=e.Other->Zd c s e.Other=false)
   (y1:Ou c e.aD e.Cell=true) (y2:0<=e.Other->Ou c e.aD e.Other=true/\dF c e.Cell e.Other=false)
   (fit:JW c (Bq (bump s e) e.aD (ai7 (tAt s e.aD) e))= []):
   Step c s e (Bq (bump s e) e.aD (ai7 (tAt s e.aD) e))
 | grant (k:e.Kind=2) (t:tOk c e) (ce:cOk c e) (ep:1<=e.Epoch/\e.Epoch<=1048576) (w:0<=e.From/\e.From<=1073741824/\0<=e.Until/\e.Until<=1073741824) (n:vOk c e)
   (pl:(tAt s e.aD).Placed=true) (sh:(tAt s e.aD).Aa=true->e.Cell=(tAt s e.aD).aN)
   (cl:e.Cell=(tAt s e.aD).Home\/e.Cell=(tAt s e.aD).aN\/e.Cell=(tAt s e.aD).Target)
   (m1:(cAt s e.Cell).Mode≠3) (m2:(cAt s e.Cell).Mode=2->e.Cell=(tAt s e.aD).Home)
   (eq:(e.Cell=(tAt s e.aD).Home/\e.Epoch=(tAt s e.aD).Epoch)\/e.Epoch=(tAt s e.aD).Epoch+1)
   (v1:e.N=(cAt s e.Cell).Running) (v2:(cAt s e.Cell).Running=(cAt s e.Cell).Wanted)
   (w1:e.Tick<=e.From) (w2:e.From<=e.Tick+c.Lease) (w3:e.From<e.Until) (w4:e.Until - e.From<=c.Lease) (w5:(tAt s e.aD).Window.Until<=e.From)
   (w6:e.Cell≠(tAt s e.aD).Home->(tAt s e.aD).Window.Until<=e.Tick)
   (fit:JW c (Bq (bump s e) e.aD (yY (tAt s e.aD) e))= []):
   Step c s e (Bq (bump s e) e.aD (yY (tAt s e.aD) e))
 | cut (k:e.Kind=3) (t:tOk c e) (pl:(tAt s e.aD).Placed=true) (ep:e.Epoch=(tAt s e.aD).Epoch) (ep1:1<=e.Epoch):
   Step c s e (Bq (bump s e) e.aD {tAt s e.aD with Window:=adD (tAt s e.aD).Window e.Tick})
 | ai8 (k:e.Kind=4) (t:tOk c e) (ce:e.Cell= -1) (pl:(tAt s e.aD).Placed=true)
   (fit:JW c (Bq (bump s e) e.aD {tAt s e.aD with Next:=e.Cell})= []):
   Step c s e (Bq (bump s e) e.aD {tAt s e.aD with Next:=e.Cell})
 | JY (k:e.Kind=4) (t:tOk c e) (ce:cOk c e) (pl:(tAt s e.aD).Placed=true)
   (n1:e.Cell≠(tAt s e.aD).Home) (n2:e.Cell≠(tAt s e.aD).aN) (n3:e.Cell≠(tAt s e.aD).Target)
   (m1:(cAt s e.Cell).Mode=1) (f1:Zd c s e.Cell=false) (y1:Ou c e.aD e.Cell=true)
   (t1:dF c e.Cell (tAt s e.aD).Home=false) (t2:dF c e.Cell (tAt s e.aD).Target=false)
   (fit:JW c (Bq (bump s e) e.aD {tAt s e.aD with Next:=e.Cell})= []):
   Step c s e (Bq (bump s e) e.aD {tAt s e.aD with Next:=e.Cell})
 | ready (k:e.Kind=5) (t:tOk c e) (ce:cOk c e) (pl:(tAt s e.aD).Placed=true) (n1:e.Cell=(tAt s e.aD).Next) (m1:(cAt s e.Cell).Mode≠3):
   Step c s e (Bq (bump s e) e.aD {tAt s e.aD with aN:=e.Cell,Next:= -1})
 | migrate (k:e.Kind=6) (t:tOk c e) (ce:cOk c e) (pl:(tAt s e.aD).Placed=true) (sh:(tAt s e.aD).Aa=false) (tg:(tAt s e.aD).Target<0)
   (n1:e.Cell≠(tAt s e.aD).Home) (n2:e.Cell≠(tAt s e.aD).aN) (n3:e.Cell≠(tAt s e.aD).Next)
   (m1:(cAt s e.Cell).Mode=1) (f1:Zd c s e.Cell=false) (y1:Ou c e.aD e.Cell=true)
   (t1:dF c e.Cell (tAt s e.aD).aN=false) (t2:dF c e.Cell (tAt s e.aD).Next=false)
   (fit:JW c (Bq (bump s e) e.aD {tAt s e.aD with Target:=e.Cell})= []):
   Step c s e (Bq (bump s e) e.aD {tAt s e.aD with Target:=e.Cell})
 | abandon (k:e.Kind=7) (t:tOk c e) (pl:(tAt s e.aD).Placed=true) (tg:0<=(tAt s e.aD).Target):
   Step c s e (Bq (bump s e) e.aD {tAt s e.aD with Target:= -1})
 | shed (k:e.Kind=8) (t:tOk c e) (n:e.N=1) (pl:(tAt s e.aD).Placed=true) (sh:(tAt s e.aD).Aa=false) (w:(tAt s e.aD).Window.Until<=e.Tick):
   Step c s e (Bq (bump s e) e.aD {tAt s e.aD with Aa:=true,Target:= -1})
 | back (k:e.Kind=8) (t:tOk c e) (n:e.N=0) (sh:(tAt s e.aD).Aa=true) (m1:(cAt s (tAt s e.aD).Home).Mode≠3)
   (fit:JW c (Bq (bump s e) e.aD {tAt s e.aD with Aa:=false})= []):
   Step c s e (Bq (bump s e) e.aD {tAt s e.aD with Aa:=false})
 | mode (k:e.Kind=9) (ce:cOk c e) (n:1<=e.N/\e.N<=3) (m1:(cAt s e.Cell).Mode≠e.N):
   Step c s e (adC (bump s e) e.Cell {cAt s e.Cell with Mode:=e.N,Since:=e.Tick})
 | want (k:e.Kind=10) (ce:cOk c e) (n:vOk c e) (n1:(cAt s e.Cell).Wanted≠e.N)
   (v1:(c.bf.getD e.N.toNat default).Low<=s.Low) (v2:s.High<=(c.bf.getD e.N.toNat default).High)
   (f:e.N=(cAt s e.Cell).Running\/wO s e.N=true\/(s.bg=0/\wP s e.Cell s.Cells.length<c.Bu)):
   Step c s e (adC (bump s e) e.Cell {cAt s e.Cell with Wanted:=e.N})
 | runs (k:e.Kind=11) (ce:cOk c e) (n:vOk c e) (n1:e.N=(cAt s e.Cell).Wanted) (n2:(cAt s e.Cell).Running≠(cAt s e.Cell).Wanted)
   (f:wO s e.N=true\/s.bg=0) (w:s.ah.any (Xh e)=false):
   Step c s e (adC (bump s e) e.Cell {cAt s e.Cell with Running:=e.N,Since:=e.Tick})
 | prove (k:e.Kind=12) (n:vOk c e) (n1:wO s e.N=false) (b:s.Cells.any (MR c e)=true):
   Step c s e {bump s e with jV:=orK .i64 s.jV (CW .i64 1 (IntKind.u64.wrap e.N))}
 | XW (k:e.Kind=13) (o:0<=e.Other/\e.Other<c.bK) (n:e.N=0\/e.N=1) (n1:hasB s.bg e.Other≠(e.N==1)):
   Step c s e {bump s e with bg:=alc .i64 s.bg (CW .i64 1 (IntKind.u64.wrap e.Other))}
 | expand (k:e.Kind=14) (h1:s.High<=s.Low) (h2:s.High<30) (h3:s.Cells.any (agH c s)=false):
   Step c s e {bump s e with High:=s.High+1}
 |contract (k:e.Kind=15) (h1:s.High≠s.Low):Step c s e {bump s e with Low:=s.High}
 |note (k:e.Kind=16):Step c s e (bump s e)
section
variable {c:ak} {s:aB} {e:aA}
theorem noB [Fuel] {b:Bool} {k:Int} {y:aB×Int} (hk:k≠0) (h:(bif b then noS k else y).2=0):b=false/\(bif b then noS k else y)=y/\y.2=0:=by
 cases b with
 |true=>exact absurd h hk
 |false=>exact⟨rfl,rfl,h⟩
theorem asj [Fuel] {s:aB} (h:(Vy c s).2=0):JW c s= []/\Vy c s=(s,0):=by
 unfold Vy at h⊢
 obtain⟨h1,h2,h3⟩:=noB (by decide) h
 have:(JW c s).length=0:=by have:=of_decide_eq_false h1;omega
 exact⟨List.eq_nil_of_length_eq_zero this,h2⟩
theorem atr [Fuel] {s:aB} (h:JW c s= []):Vy c s=(s,0):=by unfold Vy;rw [h];rfl
theorem Uv [Fuel] (s:aB) (e:aA) (cell:Int):∀n,wP (bump s e) cell n=wP s cell n
 |0=>rfl
 |n+1=>by
  have ih:=Uv s e cell n
  unfold wP
  rw [ih];rfl
theorem ang [Fuel] (hkind:JX c e) (hz:(adE c (bump s e) e).2=0):Step c s e (adE c (bump s e) e).1:=by
 unfold adE at hz⊢
 cases hkind with
 |place k t ce o w n=>
  rw [k]at hz⊢
  change (TD c (bump s e) e).2=0 at hz
  show Step c s e (TD c (bump s e) e).1
  unfold TD at hz⊢
  obtain⟨b1,e1,hz⟩:=noB (by decide) hz
  obtain⟨b2,e2,hz⟩:=noB (by decide) hz
  obtain⟨b3,e3,hz⟩:=noB (by decide) hz
  obtain⟨b4,e4,hz⟩:=noB (by decide) hz
  obtain⟨f,e5⟩:=asj hz
  rw [e1,e2,e3,e4,e5]
  simp only [Bool.or_eq_false_iff,Bool.and_eq_false_imp,bne_eq_false_iff_eq,decide_eq_true_eq,Bool.not_eq_false']at b2 b3 b4
  exact .place k t ce o b1 b2.1 b2.2 b3.1 b3.2 b4.1 b4.2 f
 | grant k t ce o ep w n=>
  rw [k]at hz⊢
  change (TF c (bump s e) e).2=0 at hz
  show Step c s e (TF c (bump s e) e).1
  unfold TF at hz⊢
  obtain⟨b1,e1,hz⟩:=noB (by decide) hz
  obtain⟨b2,e2,hz⟩:=noB (by decide) hz
  have hg:Gl c (bump s e) e=0:=by
   cases hq:(Gl c (bump s e) e !=0)with
   |false=>simpa using hq
   |true=>rw [hq]at hz;exact hz
  rw [hg]at hz
  change (Vy c _).2=0 at hz
  obtain⟨f,e5⟩:=asj hz
  rw [e1,e2,hg]
  show Step c s e (Vy c _).1
  rw [e5]
  have hg':=hg
  unfold Gl at hg
  simp only at hg
  have nb:∀{b:Bool} {k y:Int},k≠0->(bif b then k else y)=0->b=false/\y=0:=by
   intro b k y hk h
   cases b with
   |true=>exact absurd h hk
   |false=>exact⟨rfl,h⟩
  obtain⟨g1,hg⟩:=nb (by decide) hg
  obtain⟨g2,hg⟩:=nb (by decide) hg
  obtain⟨g3,hg⟩:=nb (by decide) hg
  obtain⟨g4,hg⟩:=nb (by decide) hg
  obtain⟨g5,hg⟩:=nb (by decide) hg
  change _=false at b1 b2
  have t0:tAt (bump s e) e.aD=tAt s e.aD:=rfl
  have c0:cAt (bump s e) e.Cell=cAt s e.Cell:=rfl
  rw [t0]at b1 b2 g1 g2 g4 g5
  rw [c0]at g1 g3
  rw [t0]at f⊢
  simp only [Bool.or_eq_false_iff,Bool.and_eq_false_imp,bne_eq_false_iff_eq,beq_eq_false_iff_ne,decide_eq_false_iff_not,Bool.not_eq_true',bne_iff_ne,beq_iff_eq,Bool.not_eq_false',Bool.not_eq_eq_eq_not,Bool.not_false,Bool.not_true]at b1 b2 g1 g2 g3 g4 g5
  refine .grant k t ce ep w n b1.1 b1.2 ?_ g1.1 ?_ ?_ g3.1 g3.2 (by omega) (by omega) (by omega) (by omega) (by omega) ?_ f
  ·rcases Decidable.em (e.Cell=(tAt s e.aD).Home)with q|q
   ·exact .inl q
   ·rcases Decidable.em (e.Cell=(tAt s e.aD).aN)with q2|q2
    ·exact .inr (.inl q2)
    ·exact .inr (.inr (by revert b2;simp [q,q2]))
  ·intro q
   have:=g1.2 q
   simpa using this
  ·rcases Decidable.em (e.Cell=(tAt s e.aD).Home)with q|q
   ·rcases Decidable.em (e.Epoch=(tAt s e.aD).Epoch)with q2|q2
    ·exact .inl ⟨q,q2⟩
    ·exact .inr (by have:=g2.1;revert this;simp [q,q2])
   ·exact .inr (g2.2 q)
  ·intro q
   have:=g5 q
   omega
 |cut k t ce o ep w n=>
  rw [k]at hz⊢
  change (an9 (bump s e) e).2=0 at hz
  show Step c s e (an9 (bump s e) e).1
  unfold an9 at hz⊢
  obtain⟨b1,e1,hz⟩:=noB (by decide) hz
  obtain⟨b2,e2,hz⟩:=noB (by decide) hz
  rw [e1,e2]
  simp only [Bool.not_eq_false',bne_eq_false_iff_eq]at b1 b2
  exact .cut k t b1 b2 ep.1
 | JY k t ce o w n=>
  rw [k]at hz⊢
  change (Gm c (bump s e) e).2=0 at hz
  show Step c s e (Gm c (bump s e) e).1
  unfold Gm at hz⊢
  obtain⟨b1,e1,hz⟩:=noB (by decide) hz
  rw [e1]
  simp only [Bool.not_eq_false']at b1
  by_cases hc:e.Cell<0
  ·rw [decide_eq_true hc]at hz⊢
   change (Vy c _).2=0 at hz
   obtain⟨f,e5⟩:=asj hz
   show Step c s e (Vy c _).1
   rw [e5]
   exact .ai8 k t (by omega) b1 f
  ·rw [decide_eq_false hc]at hz⊢
   rw [cond_false]at hz⊢
   obtain⟨b2,e2,hz⟩:=noB (by decide) hz
   obtain⟨b3,e3,hz⟩:=noB (by decide) hz
   obtain⟨b4,e4,hz⟩:=noB (by decide) hz
   obtain⟨b5,e6,hz⟩:=noB (by decide) hz
   obtain⟨f,e5⟩:=asj hz
   rw [e2,e3,e4,e6,e5]
   simp only [Bool.or_eq_false_iff,bne_eq_false_iff_eq,beq_eq_false_iff_ne,Bool.not_eq_false']at b2 b3 b4 b5
   exact .JY k t ⟨by omega,ce.2⟩ b1 b2.1.1 b2.1.2 b2.2 b3 b4 b5.1.1 b5.1.2 b5.2 f
 |ready k t ce o w n=>
  rw [k]at hz⊢
  change (TG (bump s e) e).2=0 at hz
  show Step c s e (TG (bump s e) e).1
  unfold TG at hz⊢
  obtain⟨b1,e1,hz⟩:=noB (by decide) hz
  obtain⟨b2,e2,hz⟩:=noB (by decide) hz
  obtain⟨b3,e3,hz⟩:=noB (by decide) hz
  rw [e1,e2,e3]
  simp only [Bool.not_eq_false',bne_eq_false_iff_eq,beq_eq_false_iff_ne]at b1 b2 b3
  exact .ready k t ce b1 b2 b3
 |migrate k t ce o w n=>
  rw [k]at hz⊢
  change (Gn c (bump s e) e).2=0 at hz
  show Step c s e (Gn c (bump s e) e).1
  unfold Gn at hz⊢
  obtain⟨b1,e1,hz⟩:=noB (by decide) hz
  obtain⟨b2,e2,hz⟩:=noB (by decide) hz
  obtain⟨b3,e3,hz⟩:=noB (by decide) hz
  obtain⟨b4,e4,hz⟩:=noB (by decide) hz
  obtain⟨b5,e6,hz⟩:=noB (by decide) hz
  obtain⟨f,e5⟩:=asj hz
  rw [e1,e2,e3,e4,e6,e5]
  simp only [Bool.or_eq_false_iff,bne_eq_false_iff_eq,beq_eq_false_iff_ne,Bool.not_eq_false',decide_eq_false_iff_not,Int.not_le]at b1 b2 b3 b4 b5
  exact .migrate k t ce b1.1.1 b1.1.2 b1.2 b2.1.1 b2.1.2 b2.2 b3 b4 b5.1.1 b5.1.2 b5.2 f
 |abandon k t ce o w n=>
  rw [k]at hz⊢
  change (Gp (bump s e) e).2=0 at hz
  show Step c s e (Gp (bump s e) e).1
  unfold Gp at hz⊢
  obtain⟨b1,e1,hz⟩:=noB (by decide) hz
  rw [e1]
  simp only [Bool.or_eq_false_iff,Bool.not_eq_false',decide_eq_false_iff_not,Int.not_lt]at b1
  exact .abandon k t b1.1 b1.2
 | shed k t ce o w n=>
  rw [k]at hz⊢
  change (abm c (bump s e) e).2=0 at hz
  show Step c s e (abm c (bump s e) e).1
  unfold abm at hz⊢
  rcases n with n|n
  ·rw [n]at hz⊢
   change (bif _ then noS 4 else _:aB×Int).2=0 at hz
   show Step c s e (bif _ then noS 4 else _:aB×Int).1
   obtain⟨b1,e1,hz⟩:=noB (by decide) hz
   obtain⟨b2,e2,hz⟩:=noB (by decide) hz
   obtain⟨f,e5⟩:=asj hz
   rw [e1,e2,e5]
   simp only [Bool.not_eq_false',beq_eq_false_iff_ne]at b1 b2
   exact .back k t n b1 b2 f
  ·rw [n]at hz⊢
   change (bif _ then noS 4 else _:aB×Int).2=0 at hz
   show Step c s e (bif _ then noS 4 else _:aB×Int).1
   obtain⟨b1,e1,hz⟩:=noB (by decide) hz
   obtain⟨b2,e2,hz⟩:=noB (by decide) hz
   rw [e1,e2]
   simp only [Bool.or_eq_false_iff,Bool.not_eq_false',decide_eq_false_iff_not,Int.not_lt]at b1 b2
   exact .shed k t n b1.1 b1.2 b2
 |mode k t ce o w n=>
  rw [k]at hz⊢
  change (afE (bump s e) e).2=0 at hz
  show Step c s e (afE (bump s e) e).1
  unfold afE at hz⊢
  obtain⟨b1,e1,hz⟩:=noB (by decide) hz
  rw [e1]
  simp only [beq_eq_false_iff_ne]at b1
  exact .mode k ce n b1
 | want k t ce o w n=>
  rw [k]at hz⊢
  change (aal c (bump s e) e).2=0 at hz
  show Step c s e (aal c (bump s e) e).1
  unfold aal at hz⊢
  obtain⟨b1,e1,hz⟩:=noB (by decide) hz
  obtain⟨b2,e2,hz⟩:=noB (by decide) hz
  obtain⟨b3,e3,hz⟩:=noB (by decide) hz
  obtain⟨b4,e4,hz⟩:=noB (by decide) hz
  rw [e1,e2,e3,e4]
  simp only [Uv,Bool.or_eq_false_iff,Bool.and_eq_false_imp,bne_eq_false_iff_eq,beq_eq_false_iff_ne,decide_eq_false_iff_not,bne_iff_ne,Bool.and_eq_true,Bool.not_eq_true',Int.not_lt,Int.not_le]at b1 b2 b3 b4
  refine .want k ce n b1 b2.1 b2.2 ?_
  rcases Decidable.em (e.N=(cAt s e.Cell).Running)with q|q
  ·exact .inl q
  ·cases hp:wO s e.N with
   |true=>exact .inr (.inl rfl)
   |false=>exact .inr (.inr ⟨b3 ⟨q,hp⟩,b4 ⟨q,hp⟩⟩)
 |runs k t ce o w n=>
  rw [k]at hz⊢
  change (abn (bump s e) e).2=0 at hz
  show Step c s e (abn (bump s e) e).1
  unfold abn at hz⊢
  obtain⟨b1,e1,hz⟩:=noB (by decide) hz
  obtain⟨b2,e2,hz⟩:=noB (by decide) hz
  obtain⟨b3,e3,hz⟩:=noB (by decide) hz
  rw [e1,e2,e3]
  simp only [Bool.or_eq_false_iff,Bool.and_eq_false_imp,bne_eq_false_iff_eq,beq_eq_false_iff_ne,Bool.not_eq_true']at b1 b2
  refine .runs k ce n b1.1 b1.2 ?_ b3
  cases hp:wO s e.N with
  |true=>exact .inl rfl
  |false=>exact .inr (b2 hp)
 |prove k t ce o w n=>
  rw [k]at hz⊢
  change (TH c (bump s e) e).2=0 at hz
  show Step c s e (TH c (bump s e) e).1
  unfold TH at hz⊢
  obtain⟨b1,e1,hz⟩:=noB (by decide) hz
  rw [e1]
  cases hb:(bump s e).Cells.any (MR c e)with
  |false=>rw [hb]at hz;cases hz
  |true=>exact .prove k n b1 hb
 |XW k t ce o w n=>
  rw [k]at hz⊢
  change (afF (bump s e) e).2=0 at hz
  show Step c s e (afF (bump s e) e).1
  unfold afF at hz⊢
  obtain⟨b1,e1,hz⟩:=noB (by decide) hz
  rw [e1]
  exact .XW k o n (λq=>by rw [show hasB (bump s e).bg e.Other=hasB s.bg e.Other from rfl,q]at b1;simp at b1)
 |expand k t ce o w n=>
  rw [k]at hz⊢
  change (LV c (bump s e)).2=0 at hz
  show Step c s e (LV c (bump s e)).1
  unfold LV at hz⊢
  obtain⟨b1,e1,hz⟩:=noB (by decide) hz
  obtain⟨b2,e2,hz⟩:=noB (by decide) hz
  obtain⟨b3,e3,hz⟩:=noB (by decide) hz
  rw [e1,e2,e3]
  simp only [decide_eq_false_iff_not,Int.not_lt,Int.not_le]at b1 b2
  exact .expand k b1 b2 b3
 |contract k t ce o w n=>
  rw [k]at hz⊢
  change (G5 (bump s e)).2=0 at hz
  show Step c s e (G5 (bump s e)).1
  unfold G5 at hz⊢
  obtain⟨b1,e1,hz⟩:=noB (by decide) hz
  rw [e1]
  exact .contract k (beq_eq_false_iff_ne.1 b1)
 |note k t ce o w n=>
  rw [k]
  exact .note k
theorem acK [Fuel] (h:VC c) (hz:(qo c s e).2=0):ai3 c e/\s.Count<4096/\s.Tick<=e.Tick/\Step c s e (qo c s e).1:=by
 unfold qo at hz⊢
 obtain⟨b1,e1,hz⟩:=noB (by decide) hz
 obtain⟨b2,e2,hz⟩:=noB (by decide) hz
 obtain⟨b3,e3,hz⟩:=noB (by decide) hz
 rw [e1,e2,e3]
 have hV:=((valid_eq (e:=e) h).2).1 (by simpa using b1)
 simp only [decide_eq_false_iff_not,Int.not_lt,Int.not_le]at b2 b3
 exact⟨hV,b2,b3,ang hV.2 hz⟩
end
end Go.CP
namespace Go.CP
open Go
theorem dL {α β:Type} [Inhabited α] {xs:List α} {i:Int} {k:α->Option β} (h1:0<=i) (h2:i<(xs.length:Int)):ixL xs i k=k (xs.getD i.toNat default):=by
 rw [iQ];unfold idx;rw [decide_eq_true ⟨h1,h2⟩];rfl
theorem ahF {α β:Type} [Inhabited α] {g:Bool} {xs:List α} {i:Int} {k:α->Option β} (h1:0<=i) (h2:i<(xs.length:Int)):ixG g xs i k=k (xs.getD i.toNat default):=am1 ⟨h1,h2⟩
theorem XY {α:Type} {b:Bool} {k:Option α} (h:b=true):chk b k=k:=by subst h;rfl
theorem D5 {α:Type} {p:Prop} [Decidable p] {k:Option α} (h:p):chk (decide p) k=k:=XY (decide_eq_true h)
theorem arf {α:Type} {g:Bool} {p:Prop} [Decidable p] {k:Option α} (h:p):chk (!g||decide p) k=k:=XY (by rw [decide_eq_true h];simp)
theorem nQ {α:Type} {p:Prop} [Decidable p] {a b:α} (h:p):(bif decide p then a else b)=a:=by rw [decide_eq_true h];rfl
theorem nG {α:Type} {p:Prop} [Decidable p] {a b:α} (h:¬p):(bif decide p then a else b)=b:=by rw [decide_eq_false h];rfl
theorem asl {α:Type} (b:Bool) (x y:α):(bif b then some x else some y)=some (bif b then x else y):=by cases b<;>rfl
theorem anh {σ β:Type} {L:Nat->σ->Int->Option β} {Q:β->Prop} (n:Nat) (I:Nat->σ->Prop)
  (step:∀(m k:Nat) (x:σ),k<n->I k x->(∀x',I (k+1) x'->Ok (L m x' ((k:Int)+1)) Q)->Ok (L (m+1) x (k:Int)) Q)
  (done:∀(m:Nat) (x:σ),I n x->Ok (L (m+1) x (n:Int)) Q):
  ∀(m k:Nat) (x:σ),k<=n->n - k<m->I k x->Ok (L m x (k:Int)) Q
 |0,_,_,_,hm,_=>absurd hm (Nat.not_lt_zero _)
 | m+1,k,x,hk,hm,hI=>by
  by_cases h:k<n
  ·exact step m k x h hI (λx' hx=>by
    have:=anh n I step done m (k+1) x' (by omega) (by omega) hx
    simpa using this)
  ·have:k=n:=by omega
   subst this
   exact done m x hI
theorem yA [Fuel] {σ β:Type} {L:Nat->σ->Int->Option β} {Q:β->Prop} {x:σ} (n:Nat) (hn:n<18446744073709551616) (I:Nat->σ->Prop) (h0:I 0 x)
  (step:∀(m k:Nat) (x:σ),k<n->I k x->(∀x',I (k+1) x'->Ok (L m x' ((k:Int)+1)) Q)->Ok (L (m+1) x (k:Int)) Q)
  (done:∀(m:Nat) (x:σ),I n x->Ok (L (m+1) x (n:Int)) Q):Ok (L fuel x 0) Q:=
 anh n I step done fuel 0 x (Nat.zero_le _) (by rw [lX];omega) h0
theorem ai9 {α:Type} {m:Option α} {a:α} (h:Ok m (λr=>r=a)):m=some a:=by obtain⟨b,e,q⟩:=h;rw [e,q]
end Go.CP
namespace Go.CP
open Go
def hit (i:Int) (n:Int) (j:Nat):Int:=if i=(j:Int)then n else 0
def dl (t:ay) (d:aW) (j:Nat):Int:=
 if t.Placed then(if t.Aa then 0 else hit t.Home d.Load j+hit t.Target d.Load j)+(hit t.aN d.pJ j+hit t.Next d.pJ j)else 0
theorem MS [Fuel] (l:List Int) (i n:Int) {j:Nat} (hj:j<l.length):(Xe l i n).getD j 0=l.getD j 0+hit i n j:=by
 unfold Xe hit
 by_cases hi:0<=i/\i<(l.length:Int)
 ·rw [if_pos hi]
  by_cases e:i=(j:Int)
  ·have:i.toNat=j:=by omega
   rw [if_pos e,this]
   simp [List.getD_eq_getElem?_getD,List.getElem?_set,hj]
  ·have:i.toNat≠j:=by omega
   rw [if_neg e]
   simp [List.getD_eq_getElem?_getD,List.getElem?_set,this]
 ·rw [if_neg hi,if_neg (by omega)];simp
theorem ani [Fuel] (l:List Int) (t:ay) (d:aW) {j:Nat} (hj:j<l.length):(book1 l t d).getD j 0=l.getD j 0+dl t d j:=by
 unfold book1 dl
 cases t.Placed with
 |false=>simp
 | true=>
  cases t.Aa with
  |true=>
   simp only [if_true]
   rw [MS _ _ _ (by rw [DZ];exact hj),MS _ _ _ hj];omega
  |false=>
   simp only [if_true,Bool.false_eq_true,if_false]
   rw [MS _ _ _ (by simp only [DZ];exact hj),MS _ _ _ (by simp only [DZ];exact hj),MS _ _ _ (by rw [DZ];exact hj),MS _ _ _ hj];omega
def adG (c:ak) (ts:List ay) (j:Nat):Nat->Int
 |0=>0
 |k+1=>adG c ts j k+dl (ts.getD k default) (c.ah.getD k default) j
theorem afI [Fuel] (c:ak) (ts:List ay) (l:List Int) {j:Nat} (hj:j<l.length):∀k,(Je c ts k l).getD j 0=l.getD j 0+adG c ts j k
 |0=>by simp [Je,adG]
 |k+1=>by rw [Je,ani _ _ _ (by rw [afB];exact hj),afI c ts l hj k,adG];omega
theorem ao5 [Fuel] (n:Nat) {j:Nat}:(List.replicate n (0:Int)).getD j 0=0:=by
 simp only [List.getD_eq_getElem?_getD,List.getElem?_replicate]
 split<;>rfl
section
variable {c:ak} {s:aB} {r:Int}
theorem akM [Fuel] {j:Nat} (hj:j<c.Cells.length):(LQ c s).getD j 0=adG c s.ah j s.ah.length:=by
 unfold LQ;rw [afI _ _ _ (by simpa using hj),ao5];omega
theorem afJ [Fuel] {i n:Int} (h:0<=n) (j:Nat):0<=hit i n j:=by unfold hit;split<;>omega
theorem ahG [Fuel] {i n:Int} (h:i<0) (j:Nat):hit i n j=0:=by unfold hit;rw [if_neg (by omega)]
end
end Go.CP
namespace Go.CP
open Go
section
variable {c:ak} {s:aB} {e:aA}
theorem tf [Fuel] {b:Bool} {p:Prop} (h:b=true) (w:b=false):p:=by rw [h]at w;cases w
theorem nn1 [Fuel] {p:Prop} (w:(0:Int)≤-1):p:=absurd w (by decide)
theorem adH [Fuel] (a b:Int):dF c a b=dF c b a:=by
 have h:∀x y:Bool,(x&&y)=(y&&x):=by decide
 unfold dF zn
 rw [h (decide (0<=a)),h (decide (0<=dw c a))]
 have:(dw c a !=dw c b)=(dw c b !=dw c a):=by rw [Bool.eq_iff_iff];simp only [bne_iff_ne,ne_eq];exact⟨λq w=>q w.symm,λq w=>q w.symm⟩
 rw [this]
theorem zR [Fuel] {a b:Int} (h:b<0):dF c a b=false:=by
 unfold dF;rw [decide_eq_false (show¬0<=b by omega)];simp
theorem Ov [Fuel] {a b:Int} (h:a<0):dF c a b=false:=by rw [adH];exact zR h
theorem ao6 [Fuel] {a:Int} (h:0<=a):dF c a a=true:=by
 unfold dF zn;rw [decide_eq_true h];simp
theorem anj [Fuel] {a b:Int} (ha:0<=a) (hb:0<=b) (h:dF c a b=false):zn c a b=true:=by
 unfold dF at h;rw [decide_eq_true ha,decide_eq_true hb]at h;simpa using h
structure arh (c:ak) (tick:Int) (i:Nat) (t:ay):Prop where
 np:t.Placed=false->t=t0S
 hs:dF c t.Home t.aN=false
 hn:dF c t.Home t.Next=false
 ts:dF c t.Target t.aN=false
 tn:dF c t.Target t.Next=false
 ht:0<=t.Target->t.Home≠t.Target
 tsh:t.Aa=true->t.Target= -1
 win:tick<t.Window.Until->t.Placed=true/\t.Aa=false/\t.Window.Cell=t.Home
 ep:t.Epoch=t.Window.Epoch
 wl:t.Window.Until<=tick+2*c.Lease
 mh:0<=t.Home->Ou c i t.Home=true
 ms:0<=t.aN->Ou c i t.aN=true
 mn:0<=t.Next->Ou c i t.Next=true
 mt:0<=t.Target->Ou c i t.Target=true
 mo:0<=t.Target/\0<=t.Next->t.Target≠t.Next
theorem arh.later [Fuel] (h:VC c) {a b:Int} {i:Nat} {t:ay} (q:arh c a i t) (hab:a<=b):arh c b i t:=
 ⟨q.np,q.hs,q.hn,q.ts,q.tn,q.ht,q.tsh,λw=>q.win (by omega),q.ep,by have:=q.wl;omega,q.mh,q.ms,q.mn,q.mt,q.mo⟩
structure att (c:ak) (s:aB) (x:aH):Prop where
 r1:(c.bf.getD x.Running.toNat default).Low<=s.Low
 r2:s.High<=(c.bf.getD x.Running.toNat default).High
 w1:(c.bf.getD x.Wanted.toNat default).Low<=s.Low
 w2:s.High<=(c.bf.getD x.Wanted.toNat default).High
 si:x.Since<=s.Tick
structure Inv (c:ak) (s:aB):Prop where
 vs:VS c s
 t:∀i,i<s.ah.length->arh c s.Tick i (s.ah.getD i default)
 cel:∀x∈s.Cells,att c s x
 ov:JW c s= []
theorem Ze [Fuel]:JW c s= [] ↔∀j,j<c.Cells.length->adG c s.ah j s.ah.length<=(c.Cells.getD j default).kS:=by
 have key:∀k,k<=c.Cells.length->(LU c (LQ c s) k= [] ↔∀j,j<k->adG c s.ah j s.ah.length<=(c.Cells.getD j default).kS):=by
  intro k
  induction k with
  |zero=>intro _;exact⟨λ_ j hj=>absurd hj (Nat.not_lt_zero _),λ_=>rfl⟩
  | succ k ih=>
   intro hk
   rw [LU,akM (by omega)]
   by_cases hc:(c.Cells.getD k default).kS<adG c s.ah k s.ah.length
   ·rw [if_pos hc]
    constructor
    ·intro q;simp at q
    ·intro q;have:=q k (by omega);omega
   ·rw [if_neg hc,ih (by omega)]
    constructor
    ·intro q j hj
     by_cases e:j=k
     ·subst e;omega
     ·exact q j (by omega)
    ·intro q j hj;exact q j (by omega)
 exact key _ (Nat.le_refl _)
theorem ank [Fuel] {ts:List ay} {i:Nat} {t:ay} (hi:i<ts.length) (j:Nat):∀n,adG c (ts.set i t) j n=adG c ts j n+(if i<n then dl t (c.ah.getD i default) j - dl (ts.getD i default) (c.ah.getD i default) j else 0)
 |0=>by simp [adG]
 | n+1=>by
  rw [adG,adG,ank hi j n]
  by_cases e:i=n
  ·subst e
   rw [iC hi,if_neg (by omega),if_pos (by omega)];omega
  ·have:(ts.set i t).getD n default=ts.getD n default:=by simp [List.getD_eq_getElem?_getD,List.getElem?_set,e]
   rw [this]
   by_cases q:i<n
   ·rw [if_pos q,if_pos (by omega)];omega
   ·rw [if_neg q,if_neg (by omega)];omega
theorem Q7 [Fuel] {t:ay} {i:Int} (hi:0<=i/\i<((s.ah.length:Nat):Int)) (h0:JW c s= [])
  (hd:∀j,dl t (c.ah.getD i.toNat default) j<=dl (tAt s i) (c.ah.getD i.toNat default) j):JW c (Bq (bump s e) i t)= []:=by
 rw [Ze]at h0⊢
 intro j hj
 have:=h0 j hj
 show adG c (s.ah.set i.toNat t) j (s.ah.set i.toNat t).length<=_
 rw [List.length_set,ank (by omega) j,if_pos (by omega)]
 have:=hd j
 unfold tAt at this
 omega
theorem anl [Fuel] {s':aB} (h0:JW c s= []) (he:s'.ah=s.ah):JW c s'= []:=by
 rw [Ze]at h0⊢;rw [he];exact h0
theorem VD [Fuel] (h:VC c) {i:Int} (hi:0<=i/\i<(c.ah.length:Int)):0<=(c.ah.getD i.toNat default).Load/\0<=(c.ah.getD i.toNat default).pJ:=by
 have:=Vw h (by omega:i.toNat<c.ah.length);omega
theorem Gq [Fuel] (h:VC c) (hI:Inv c s) (hge:s.Tick<=e.Tick) {t:ay} (ht:tOk c e) (hv:VS c (Bq (bump s e) e.aD t)) (hq:arh c e.Tick e.aD.toNat t) (hov:JW c (Bq (bump s e) e.aD t)= []):Inv c (Bq (bump s e) e.aD t):=by
 have htl:=hI.vs.tl
 unfold tOk at ht
 refine⟨hv,λi hi=> ?_,λx hx=> ?_,hov⟩
 ·have hi':i<s.ah.length:=by simpa [Bq,bump]using hi
  show arh c e.Tick i ((s.ah.set e.aD.toNat t).getD i default)
  by_cases q:i=e.aD.toNat
  ·subst q;rw [iC hi'];exact hq
  ·have:(s.ah.set e.aD.toNat t).getD i default=s.ah.getD i default:=by simp [List.getD_eq_getElem?_getD,List.getElem?_set,Ne.symm q]
   rw [this];exact(hI.t i hi').later h hge
 ·have q:=hI.cel x hx
  exact⟨q.r1,q.r2,q.w1,q.w2,by have:=q.si;show x.Since<=e.Tick;omega⟩
theorem G6 [Fuel] (h:VC c) (hI:Inv c s) (hge:s.Tick<=e.Tick) {s':aB} (hv:VS c s') (ht:s'.ah=s.ah) (hk:s'.Tick=e.Tick) (hc:∀x∈s'.Cells,att c s' x):Inv c s':=by
 refine⟨hv,λi hi=> ?_,hc,anl hI.ov ht⟩
 rw [hk,ht]
 exact(hI.t i (by rw [<-ht];exact hi)).later h hge
theorem adI [Fuel] (hI:Inv c s) (hge:s.Tick<=e.Tick) {x:aH} (hx:att c (bump s e) x):∀y∈(adC (bump s e) e.Cell x).Cells,att c (adC (bump s e) e.Cell x) y:=by
 intro y hy
 rcases List.mem_or_eq_of_mem_set hy with q|q
 ·have q:=hI.cel y q
  exact⟨q.r1,q.r2,q.w1,q.w2,by have:=q.si;show y.Since<=e.Tick;omega⟩
 ·subst q;exact⟨hx.r1,hx.r2,hx.w1,hx.w2,hx.si⟩
theorem aja [Fuel] (h:VC c) (hI:Inv c s) (hz:(qo c s e).2=0):Inv c (qo c s e).1:=by
 have hv:=acJ h hI.vs hz
 obtain⟨hV,hcnt,hge,hst⟩:=acK h hz
 have hk:=hV.1
 have hle:=h.adA
 have htl:=hI.vs.tl
 generalize (qo c s e).1=s' at hv hst
 have tin:tOk c e->arh c e.Tick e.aD.toNat (tAt s e.aD):=λt=>(hI.t _ (by unfold tOk at t;omega)).later h hge
 have tci:∀{t:Int},0<=t->((t.toNat:Nat):Int)=t:=λ{t} q=>by omega
 have cin:cOk c e->att c s (cAt s e.Cell):=λt=>hI.cel _ (uX (by have:=hI.vs.cl;unfold cOk at t;omega))
 cases hst with
 | place k t ce o np m1 m2 f1 f2 y1 y2 fit=>
  refine Gq h hI hge t hv ?_ fit
  have q:=tin t
  have e0:=q.np np
  unfold tOk at t;unfold cOk at ce
  unfold ai7
  rw [e0]
  refine⟨λw=>tf rfl w,?_,zR (by show(-1:Int)<0;omega),Ov (by show(-1:Int)<0;omega),zR (by show(-1:Int)<0;omega),λw=>nn1 w,λw=>tf w rfl,λw=> ?_,rfl,?_,λ_=> ?_,λw=> ?_,λw=>nn1 w,λw=>nn1 w,λw=>nn1 w.1⟩
  ·show dF c e.Cell e.Other=false
   rcases Int.lt_or_le e.Other 0 with q|q
   ·exact zR q
   ·exact(y2 q).2
  ·exact absurd w (by show¬e.Tick<0;omega)
  ·show(0:Int)<=_;omega
  ·rw [tci t.1];exact y1
  ·rw [tci t.1];exact(y2 w).1
 | grant k t ce ep w n pl sh cl m1 m2 eq v1 v2 w1 w2 w3 w4 w5 w6 fit=>
  refine Gq h hI hge t hv ?_ fit
  have q:=tin t
  unfold cOk at ce
  unfold yY
  simp only
  have hpl:(tAt s e.aD).Placed=true:=pl
  cases hh:(e.Cell==(tAt s e.aD).Home)with
  | true=>
   have hh':e.Cell=(tAt s e.aD).Home:=by simpa using hh
   have hns:(tAt s e.aD).Aa=false:=by
    cases hs:(tAt s e.aD).Aa with
    |false=>rfl
    |true=>
     have e1:=sh hs
     have:=q.hs
     rw [<-hh',<-e1,ao6 ce.1]at this
     cases this
   exact⟨λw=>tf hpl w,q.hs,q.hn,q.ts,q.tn,q.ht,q.tsh,λ_=>⟨hpl,hns,hh'⟩,rfl,by show e.Until<=_;omega,q.mh,q.ms,q.mn,q.mt,q.mo⟩
  | false=>
   have hh':e.Cell≠(tAt s e.aD).Home:=by simpa using hh
   cases hb:(e.Cell==(tAt s e.aD).aN)with
   | true=>
    have hb':e.Cell=(tAt s e.aD).aN:=by simpa using hb
    exact⟨λw=>tf hpl w,zR (by show(-1:Int)<0;omega),zR (by show(-1:Int)<0;omega),zR (by show(-1:Int)<0;omega),zR (by show(-1:Int)<0;omega),λw=>nn1 w,λw=>tf w rfl,λ_=>⟨hpl,rfl,rfl⟩,rfl,by show e.Until<=_;omega,
     λ_=>by show Ou c _ e.Cell=true;rw [hb'];exact q.ms (by omega),λw=>nn1 w,λw=>nn1 w,λw=>nn1 w,λw=>nn1 w.1⟩
   | false=>
    have hb':e.Cell≠(tAt s e.aD).aN:=by simpa using hb
    have ht':e.Cell=(tAt s e.aD).Target:=by rcases cl with a|a|a<;>first|exact absurd a hh'|exact absurd a hb'|exact a
    have hns:(tAt s e.aD).Aa=false:=by
     cases hs:(tAt s e.aD).Aa with
     |false=>rfl
     |true=>exact absurd (sh hs) hb'
    exact⟨λw=>tf hpl w,by show dF c e.Cell _=false;rw [ht'];exact q.ts,by show dF c e.Cell _=false;rw [ht'];exact q.tn,Ov (by show(-1:Int)<0;omega),Ov (by show(-1:Int)<0;omega),λw=>nn1 w,λ_=>rfl,λ_=>⟨hpl,hns,rfl⟩,rfl,by show e.Until<=_;omega,
     λ_=>by show Ou c _ e.Cell=true;rw [ht'];exact q.mt (by omega),q.ms,q.mn,λw=>nn1 w,λw=>nn1 w.1⟩
 |cut k t pl ep ep1=>
  refine Gq h hI hge t hv ?_ (Q7 (by unfold tOk at t;omega) hI.ov (λj=>Int.le_refl _))
  have q:=tin t
  have hu:(adD (tAt s e.aD).Window e.Tick).Until<=(tAt s e.aD).Window.Until:=by unfold adD Qq;simp only;split<;>omega
  exact⟨λw=>tf pl w,q.hs,q.hn,q.ts,q.tn,q.ht,q.tsh,λw=>q.win (by have w:e.Tick<(adD (tAt s e.aD).Window e.Tick).Until:=w;omega),q.ep,by have:=q.wl;show(adD _ _).Until<=_;omega,q.mh,q.ms,q.mn,q.mt,q.mo⟩
 |ai8 k t ce pl fit=>
  refine Gq h hI hge t hv ?_ fit
  have q:=tin t
  rw [ce]
  exact⟨λw=>tf pl w,q.hs,zR (by show(-1:Int)<0;omega),q.ts,zR (by show(-1:Int)<0;omega),q.ht,q.tsh,q.win,q.ep,q.wl,q.mh,q.ms,λw=>nn1 w,q.mt,λw=>nn1 w.2⟩
 |JY k t ce pl n1 n2 n3 m1 f1 y1 t1 t2 fit=>
  refine Gq h hI hge t hv ?_ fit
  have q:=tin t
  unfold tOk at t
  exact⟨λw=>tf pl w,q.hs,by rw [adH];exact t1,q.ts,by rw [adH];exact t2,q.ht,q.tsh,q.win,q.ep,q.wl,q.mh,q.ms,λ_=>by rw [tci t.1];exact y1,q.mt,λ_=>λw=>n3 w.symm⟩
 | ready k t ce pl n1 m1=>
  refine Gq h hI hge t hv ?_ (Q7 (by unfold tOk at t;omega) hI.ov (λj=> ?_))
  ·have q:=tin t
   unfold cOk at ce
   exact⟨λw=>tf pl w,by show dF c _ e.Cell=false;rw [n1];exact q.hn,zR (by show(-1:Int)<0;omega),by show dF c _ e.Cell=false;rw [n1];exact q.tn,zR (by show(-1:Int)<0;omega),q.ht,q.tsh,q.win,q.ep,q.wl,q.mh,λ_=>by show Ou c _ e.Cell=true;rw [n1];exact q.mn (by omega),λw=>nn1 w,q.mt,λw=>nn1 w.2⟩
  ·unfold tOk at t
   have hd:=VD h t
   unfold dl
   simp only [pl,if_true]
   have z:=ahG (i:= -1) (n:=(c.ah.getD e.aD.toNat default).pJ) (by omega) j
   have p:=afJ (i:=(tAt s e.aD).aN) hd.2 j
   rw [z,n1]
   omega
 |migrate k t ce pl sh tg n1 n2 n3 m1 f1 y1 t1 t2 fit=>
  refine Gq h hI hge t hv ?_ fit
  have q:=tin t
  unfold tOk at t
  exact⟨λw=>tf pl w,q.hs,q.hn,t1,t2,λ_=>λw=>n1 w.symm,λw=>tf w sh,q.win,q.ep,q.wl,q.mh,q.ms,q.mn,λ_=>by rw [tci t.1];exact y1,λ_=>n3⟩
 | abandon k t pl tg=>
  refine Gq h hI hge t hv ?_ (Q7 (by unfold tOk at t;omega) hI.ov (λj=> ?_))
  ·have q:=tin t
   exact⟨λw=>tf pl w,q.hs,q.hn,Ov (by show(-1:Int)<0;omega),Ov (by show(-1:Int)<0;omega),λw=>nn1 w,λ_=>rfl,q.win,q.ep,q.wl,q.mh,q.ms,q.mn,λw=>nn1 w,λw=>nn1 w.1⟩
  ·unfold tOk at t
   have hd:=VD h t
   unfold dl
   simp only [pl,if_true]
   have z:=ahG (i:= -1) (n:=(c.ah.getD e.aD.toNat default).Load) (by omega) j
   have p:=afJ (i:=(tAt s e.aD).Target) hd.1 j
   rw [z]
   split<;>omega
 | shed k t n pl sh w=>
  refine Gq h hI hge t hv ?_ (Q7 (by unfold tOk at t;omega) hI.ov (λj=> ?_))
  ·have q:=tin t
   exact⟨λw=>tf pl w,q.hs,q.hn,Ov (by show(-1:Int)<0;omega),Ov (by show(-1:Int)<0;omega),λw=>nn1 w,λ_=>rfl,λw'=>by have w':e.Tick<(tAt s e.aD).Window.Until:=w';omega,q.ep,q.wl,q.mh,q.ms,q.mn,λw=>nn1 w,λw=>nn1 w.1⟩
  ·unfold tOk at t
   have hd:=VD h t
   unfold dl
   simp only [pl,sh,if_true,Bool.false_eq_true,if_false]
   have p:=afJ (i:=(tAt s e.aD).Target) hd.1 j
   have p2:=afJ (i:=(tAt s e.aD).Home) hd.1 j
   omega
 |back k t n sh m1 fit=>
  refine Gq h hI hge t hv ?_ fit
  have q:=tin t
  have hp:=(Q6 hI.vs (UN hI.vs t)).sh sh
  exact⟨λw=>tf hp w,q.hs,q.hn,q.ts,q.tn,q.ht,λw=>tf w rfl,λw=>tf sh (q.win w).2.1,q.ep,q.wl,q.mh,q.ms,q.mn,q.mt,q.mo⟩
 |mode k ce n m1=>
  have q:=cin ce
  exact G6 h hI hge hv rfl rfl (adI hI hge ⟨q.r1,q.r2,q.w1,q.w2,Int.le_refl _⟩)
 |want k ce n n1 v1 v2 f=>
  have q:=cin ce
  exact G6 h hI hge hv rfl rfl (adI hI hge ⟨q.r1,q.r2,v1,v2,by have:=q.si;show _<=e.Tick;exact Int.le_trans this hge⟩)
 |runs k ce n n1 n2 f w=>
  have q:=cin ce
  exact G6 h hI hge hv rfl rfl (adI hI hge ⟨by show(c.bf.getD e.N.toNat default).Low<=_;rw [n1];exact q.w1,by show _<=(c.bf.getD e.N.toNat default).High;rw [n1];exact q.w2,q.w1,q.w2,Int.le_refl _⟩)
 |prove k n n1 b=>
  refine G6 h hI hge hv rfl rfl (λx hx=> ?_)
  have q:=hI.cel x hx
  exact⟨q.r1,q.r2,q.w1,q.w2,by have:=q.si;show _<=e.Tick;exact Int.le_trans this hge⟩
 |XW k o n n1=>
  refine G6 h hI hge hv rfl rfl (λx hx=> ?_)
  have q:=hI.cel x hx
  exact⟨q.r1,q.r2,q.w1,q.w2,by have:=q.si;show _<=e.Tick;exact Int.le_trans this hge⟩
 |expand k h1 h2 h3=>
  refine G6 h hI hge hv rfl rfl (λx hx=> ?_)
  have q:=hI.cel x hx
  have h3:=List.any_eq_false.1 h3 x hx
  unfold agH at h3
  simp only [Bool.or_eq_true,decide_eq_true_eq,not_or,Int.not_le]at h3
  exact⟨q.r1,by show s.High+1<=_;omega,q.w1,by show s.High+1<=_;omega,by have:=q.si;show _<=e.Tick;exact Int.le_trans this hge⟩
 |contract k h1=>
  refine G6 h hI hge hv rfl rfl (λx hx=> ?_)
  have q:=hI.cel x hx
  have hlh:=hI.vs.lh
  have:=q.r1
  have:=q.w1
  exact⟨by show _<=s.High;omega,q.r2,by show _<=s.High;omega,q.w2,by have:=q.si;show _<=e.Tick;exact Int.le_trans this hge⟩
 |note k=>
  refine G6 h hI hge hv rfl rfl (λx hx=> ?_)
  have q:=hI.cel x hx
  exact⟨q.r1,q.r2,q.w1,q.w2,by have:=q.si;show _<=e.Tick;exact Int.le_trans this hge⟩
theorem ap7 [Fuel] (n j:Nat):∀k,adG c (List.replicate n t0S) j k=0
 |0=>rfl
 | k+1=>by
  rw [adG,ap7 n j k]
  by_cases q:k<n
  ·have:(List.replicate n t0S).getD k default=t0S:=by simp [List.getD_eq_getElem?_getD,q]
   rw [this];rfl
  ·have:(List.replicate n t0S).getD k default=default:=by simp [List.getD_eq_getElem?_getD,q]
   rw [this];rfl
theorem ahH [Fuel] (h:VC c):Inv c (newS c):=by
 have hl:=h.adA
 refine⟨anf h,λi hi=> ?_,λx hx=> ?_,?_⟩
 ·have hi':i<c.ah.length:=by simpa [newS]using hi
  have:(newS c).ah.getD i default=t0S:=by simp [newS,List.getD_eq_getElem?_getD,hi']
  rw [this]
  exact⟨λ_=>rfl,zR (by decide),zR (by decide),zR (by decide),zR (by decide),λw=>nn1 w,λw=>tf w rfl,λw=>absurd w (by show¬(0:Int)<0;omega),rfl,by show(0:Int)<=0+2*c.Lease;omega,λw=>nn1 w,λw=>nn1 w,λw=>nn1 w,λw=>nn1 w,λw=>nn1 w.1⟩
 ·have:x=c0S:=List.eq_of_mem_replicate hx
  subst this
  have h0:=h.v0
  have hv:=h.v _ (uX (by have:=h.vl;omega:0<c.bf.length))
  exact⟨by show(c.bf.getD 0 default).Low<=0;omega,by show 0<=(c.bf.getD 0 default).High;omega,by show(c.bf.getD 0 default).Low<=0;omega,by show 0<=(c.bf.getD 0 default).High;omega,Int.le_refl _⟩
 ·rw [Ze]
  intro j hj
  show adG c (List.replicate c.ah.length t0S) j _<=_
  rw [ap7]
  have:=(h.cel _ (uX hj)).2.2.1
  omega
theorem anm [Fuel] (h:VC c) (l:List aA):∀s,Inv c s->okS c s l->Inv c (ap5 c s l):=by
 induction l with
 |nil=>intro s hv _;exact hv
 |cons a l ih=>intro s hv ho;exact ih _ (aja h hv ho.1) ho.2
theorem Reached.inv [Fuel] (h:VC c) (hr:Reached c s):Inv c s:=by
 obtain⟨l,h1,h2,h3⟩:=hr
 rw [<-h3];exact anm h l _ (ahH h) h1
end
end Go.CP
namespace Go.CP
open Go
section
variable {c:ak} {s:aB} {e:aA}
theorem ano [Fuel] {s':aB} (h:Step c s e s'):s'.Tick=e.Tick/\s'.Count=s.Count+1:=by
 cases h<;>exact⟨rfl,rfl⟩
theorem akN [Fuel] (h:VC c) (hz:(qo c s e).2=0):(qo c s e).1.Tick=e.Tick/\(qo c s e).1.Count=s.Count+1:=ano (acK h hz).2.2.2
structure RL [Fuel] (c:ak) (s:aB) (out:List aA) (n:Nat):Prop where
 ok:okS c (newS c) out
 run:ap5 c (newS c) out=s
 len:out.length<=n
 tk:s.Tick<=20000*(out.length:Int)
 ct:s.Count=(out.length:Int)
theorem RL.up [Fuel] {out:List aA} {n n':Nat} (h:RL c s out n) (hn:n<=n'):RL c s out n':=⟨h.ok,h.run,Nat.le_trans h.len hn,h.tk,h.ct⟩
theorem RL.vs [Fuel] (hc:VC c) {out:List aA} {n:Nat} (h:RL c s out n):VS c s:=by
 rw [<-h.run];exact ap6 hc _ _ (anf hc) h.ok
theorem RL.inv [Fuel] (hc:VC c) {out:List aA} {n:Nat} (h:RL c s out n):Inv c s:=by
 rw [<-h.run];exact anm hc _ _ (ahH hc) h.ok
theorem RL.snoc [Fuel] (hc:VC c) {out:List aA} {n:Nat} (h:RL c s out n) (hz:(qo c s e).2=0) (ht:e.Tick<=s.Tick+20000):RL c (qo c s e).1 (out++ [e]) (n+1):=by
 obtain⟨t1,t2⟩:=akN hc hz
 have h1:=h.tk
 have h2:=h.ct
 refine⟨ard out e _ h.ok (by rw [h.run];exact hz),by rw [ao4,h.run],by have:=h.len;simp;omega,?_,?_⟩
 ·rw [t1];simp only [List.length_append,List.length_singleton];push_cast;omega
 ·rw [t2,h2];simp
theorem RL.new [Fuel] (h:VC c):RL c (newS c) [] 0:=⟨trivial,rfl,Nat.le_refl _,by show(0:Int)<=20000*0;omega,rfl⟩
theorem anp [Fuel] (h:VC c) {n:Nat} (hn:n<=1000):∀(m:Nat) (T:aP) (s:aB) (out:List aA),TB T 300->RL c s out n->(400 - T.At).toNat<m→
  Ok (JU c (n:Int) m T s out) (λr=>∃s',RL c s' r n)
 |0,_,_,_,_,_,hm=>absurd hm (Nat.not_lt_zero _)
 | m+1,T,s,out,hT,hr,hm=>by
  have hlo:=hT.lo
  have hhi:=hT.hi
  have hln:=hT.ln
  have hl:=hr.len
  have hv:=hr.vs h
  have hI:=hr.inv h
  rw [JU]
  unfold LK
  simp only [kG,Option.bind_some]
  refine Ok.cond (λhc=> ?_) (λ_=>Ok.some ⟨s,hr⟩)
  have hlt:((out.length:Nat):Int)<(n:Int)/\T.At<((T.L.length:Nat):Int):=by
   cases hd:decide (((out.length:Nat):Int)<(n:Int))with
   |false=>rw [hd]at hc;cases hc
   |true=>
    rw [hd]at hc
    simp only [Bool.true_and,cond_true]at hc
    exact⟨of_decide_eq_true hd,of_decide_eq_true hc⟩
  rw [decide_eq_true hlt.1]
  simp only [cond_true]
  have hT':TB T 200:=⟨hT.el,hT.ln,hT.lo,by omega⟩
  unfold Uu
  have hle:=h.adA
  refine Ok.bind (ao3 h hv hT' (by omega) (B:=s.Tick+10004) (by omega) (λx hx=> ?_)) (λr1 q1=> ?_)
  ·obtain⟨i,hi,rfl⟩:=List.getElem_of_mem hx
   have:=(hI.t i hi).wl
   have e:s.ah[i]=s.ah.getD i default:=by simp [List.getD_eq_getElem?_getD,hi]
   rw [e];omega
  refine Ok.Vu (ao0 h hv) ?_
  have hA:T.At+1<=r1.2.At:=q1.2.2.1 (by omega)
  have hT2:TB r1.2 300:=q1.1.up (by omega)
  have hB:r1.2.At<=300:=hT2.hi
  refine Ok.cond (λh0=>Ok.chk (dT (by show _<=140737488355328;simp;omega)) ?_) (λ_=> ?_)
  ·have h0:(qo c s r1.1).2=0:=by simpa using h0
   have hs:=hr.snoc h h0 (by have:=q1.2.2.2;omega)
   refine anp h hn m _ _ _ hT2 ⟨hs.ok,hs.run,by simp;omega,hs.tk,hs.ct⟩ (by omega)
  ·exact anp h hn m _ _ _ hT2 hr (by omega)
theorem ari [Fuel] (h:VC c) {l:List Int} (hl:Lst l) {n:Nat} (hn:n<=1000):Ok (Vt l c (n:Int)) (λr=>∃s',RL c s' r n):=by
 unfold Vt Vp
 have hT:TB {L:=l,At:=0} 300:=⟨hl.1,hl.2,Int.le_refl 0,by show(0:Int)<=300;omega⟩
 refine Ok.Vu rfl (Ok.Vu (atp h) ?_)
 exact anp h hn fuel _ (newS c) [] hT ((RL.new h).up (by omega)) (by rw [lX];simp)
end
end Go.CP
namespace Go.CP
open Go
theorem ahI [Fuel] (g a:Bool):(g&&(bif g then a else default))=(g&&a):=by cases g<;>rfl
def Zf (b:fG) (e:aA):Prop:=
 (e.Kind=1/\0<=e.aD/\e.aD<b.tenants/\0<=e.Cell/\e.Cell<b.cells/\ -1<=e.Other/\e.Other<b.cells/\e.Other≠e.Cell/\e.Epoch=0/\e.From=0/\e.Until=0/\e.N=0)∨
 (e.Kind=2/\0<=e.aD/\e.aD<b.tenants/\0<=e.Cell/\e.Cell<b.cells/\e.Other= -1/\1<=e.Epoch/\e.Epoch<=1048576/\0<=e.From/\e.From<=1073741824/\0<=e.Until/\e.Until<=1073741824/\0<=e.N/\e.N<b.versions)∨
 (e.Kind=3/\0<=e.aD/\e.aD<b.tenants/\e.Cell= -1/\e.Other= -1/\1<=e.Epoch/\e.Epoch<=1048576/\e.From=0/\e.Until=0/\e.N=0)∨
 (e.Kind=4/\0<=e.aD/\e.aD<b.tenants/\ -1<=e.Cell/\e.Cell<b.cells/\e.Other= -1/\e.Epoch=0/\e.From=0/\e.Until=0/\e.N=0)∨
 ((e.Kind=5\/e.Kind=6)/\0<=e.aD/\e.aD<b.tenants/\0<=e.Cell/\e.Cell<b.cells/\e.Other= -1/\e.Epoch=0/\e.From=0/\e.Until=0/\e.N=0)∨
 (e.Kind=7/\0<=e.aD/\e.aD<b.tenants/\e.Cell= -1/\e.Other= -1/\e.Epoch=0/\e.From=0/\e.Until=0/\e.N=0)∨
 (e.Kind=8/\0<=e.aD/\e.aD<b.tenants/\e.Cell= -1/\e.Other= -1/\e.Epoch=0/\e.From=0/\e.Until=0/\0<=e.N/\e.N<=1)∨
 (e.Kind=9/\e.aD= -1/\0<=e.Cell/\e.Cell<b.cells/\e.Other= -1/\e.Epoch=0/\e.From=0/\e.Until=0/\1<=e.N/\e.N<=3)∨
 ((e.Kind=10\/e.Kind=11)/\e.aD= -1/\0<=e.Cell/\e.Cell<b.cells/\e.Other= -1/\e.Epoch=0/\e.From=0/\e.Until=0/\0<=e.N/\e.N<b.versions)∨
 (e.Kind=12/\e.aD= -1/\e.Cell= -1/\e.Other= -1/\e.Epoch=0/\e.From=0/\e.Until=0/\0<=e.N/\e.N<b.versions)∨
 (e.Kind=13/\e.aD= -1/\e.Cell= -1/\0<=e.Other/\e.Other<b.regions/\e.Epoch=0/\e.From=0/\e.Until=0/\0<=e.N/\e.N<=1)∨
 ((e.Kind=14\/e.Kind=15)/\e.aD= -1/\e.Cell= -1/\e.Other= -1/\e.Epoch=0/\e.From=0/\e.Until=0/\e.N=0)∨
 (e.Kind=16/\e.aD= -1/\e.Cell= -1/\e.Other= -1/\e.Epoch=0/\e.From=0/\e.Until=0/\0<=e.N/\e.N<=1073741824)
section
variable {c:ak} {e:aA}
theorem D6 [Fuel] (b:fG) (hb:0<=b.tenants/\b.tenants<=1000/\0<=b.cells/\b.cells<=1000/\0<=b.regions/\b.regions<=1000/\0<=b.versions/\b.versions<=1000):
  ∃v,Ji e b=some v/\(v=true ↔ (0<=e.Tick/\e.Tick<=1073741824)/\Zf b e):=by
 have w1:w64 (b.tenants - 1)=b.tenants - 1:=bA (by omega) (by omega)
 have w2:w64 (b.cells - 1)=b.cells - 1:=bA (by omega) (by omega)
 have w3:w64 (b.regions - 1)=b.regions - 1:=bA (by omega) (by omega)
 have w4:w64 (b.versions - 1)=b.versions - 1:=bA (by omega) (by omega)
 by_cases hin:1<=e.Kind/\e.Kind<=16
 ·have hk:e.Kind=1\/e.Kind=2\/e.Kind=3\/e.Kind=4\/e.Kind=5\/e.Kind=6\/e.Kind=7\/e.Kind=8\/e.Kind=9\/e.Kind=10\/e.Kind=11\/e.Kind=12\/e.Kind=13\/e.Kind=14\/e.Kind=15\/e.Kind=16:=by omega
  unfold Ji KU xO xM xL fI Bv kZ
  rcases hk with hk|hk|hk|hk|hk|hk|hk|hk|hk|hk|hk|hk|hk|hk|hk|hk
  ·simp only [hk,w1,w2,w3,w4,Int.reduceBEq,Bool.false_and,Bool.true_and,Bool.or_false,Bool.false_or,Bool.not_true,Bool.not_false,cond_true,cond_false,Option.bind_some,asl,ahI]
   by_cases ho:e.Other=e.Cell
   ·have:(e.Other==e.Cell)=true:=by simpa using ho
    simp only [this,cond_true]
    refine⟨false,rfl,?_⟩
    simp only [Zf,hk,Int.reduceEq,false_and,or_false,false_or,true_and,true_or,or_true,or_self]
    constructor
    ·intro q;cases q
    ·intro q;omega
   ·have:(e.Other==e.Cell)=false:=by simpa using ho
    simp only [this,cond_false]
    refine⟨_,rfl,?_⟩
    simp only [Bool.and_eq_true,decide_eq_true_eq]
    simp only [Zf,hk,Int.reduceEq,false_and,or_false,false_or,true_and,true_or,or_true,or_self]
    constructor<;>(intro q;omega)
  all_goals
   simp only [hk,w1,w2,w3,w4,Int.reduceBEq,Bool.false_and,Bool.true_and,Bool.or_false,Bool.false_or,Bool.not_true,Bool.not_false,cond_true,cond_false,Option.bind_some,asl,ahI]
   refine⟨_,rfl,?_⟩
   simp only [Bool.and_eq_true,decide_eq_true_eq]
   simp only [Zf,hk,Int.reduceEq,false_and,or_false,false_or,true_and,true_or,or_true,or_self]
   constructor<;>(intro q;omega)
 ·have n:∀k:Int,1<=k->k<=16->(e.Kind==k)=false:=λk h1 h2=>by simp;omega
  unfold Ji KU xO xM xL fI Bv kZ
  simp only [n 1 (by omega) (by omega),n 2 (by omega) (by omega),n 3 (by omega) (by omega),n 4 (by omega) (by omega),n 5 (by omega) (by omega),n 6 (by omega) (by omega),n 7 (by omega) (by omega),n 8 (by omega) (by omega),n 9 (by omega) (by omega),n 10 (by omega) (by omega),n 11 (by omega) (by omega),n 12 (by omega) (by omega),n 13 (by omega) (by omega),n 14 (by omega) (by omega),n 15 (by omega) (by omega),n 16 (by omega) (by omega),Option.bind_some,cond_false,cond_true,Bool.not_false,Bool.true_or]
  refine⟨false,rfl,?_⟩
  constructor
  ·intro q;cases q
  ·intro q
   exfalso
   have q:=q.2
   unfold Zf at q
   rcases q with q|q|q|q|q|q|q|q|q|q|q|q|q<;>(have q:=q.1;omega)
theorem afK [Fuel]:Zf {tenants:=((c.ah.length:Nat):Int),cells:=((c.Cells.length:Nat):Int),regions:=c.bK,versions:=((c.bf.length:Nat):Int)} e ↔ JX c e:=by
 constructor
 ·intro q
  unfold Zf at q
  rcases q with q|q|q|q|q|q|q|q|q|q|q|q|q
  ·exact .place q.1 ⟨q.2.1,q.2.2.1⟩ ⟨q.2.2.2.1,q.2.2.2.2.1⟩ ⟨q.2.2.2.2.2.1,q.2.2.2.2.2.2.1,q.2.2.2.2.2.2.2.1⟩ (by unfold eN;omega) (by omega)
  ·exact .grant q.1 ⟨q.2.1,q.2.2.1⟩ ⟨q.2.2.2.1,q.2.2.2.2.1⟩ (by unfold oN;omega) (by omega) (by omega) (by unfold vOk;simp only at q;omega)
  ·exact .cut q.1 ⟨q.2.1,q.2.2.1⟩ (by omega) (by unfold oN;omega) (by omega) (by omega) (by omega)
  ·exact .JY q.1 ⟨q.2.1,q.2.2.1⟩ ⟨q.2.2.2.1,q.2.2.2.2.1⟩ (by unfold oN;omega) (by unfold eN;omega) (by omega)
  ·rcases q.1 with k|k
   ·exact .ready k ⟨q.2.1,q.2.2.1⟩ ⟨q.2.2.2.1,q.2.2.2.2.1⟩ (by unfold oN;omega) (by unfold eN;omega) (by omega)
   ·exact .migrate k ⟨q.2.1,q.2.2.1⟩ ⟨q.2.2.2.1,q.2.2.2.2.1⟩ (by unfold oN;omega) (by unfold eN;omega) (by omega)
  ·exact .abandon q.1 ⟨q.2.1,q.2.2.1⟩ (by omega) (by unfold oN;omega) (by unfold eN;omega) (by omega)
  ·exact .shed q.1 ⟨q.2.1,q.2.2.1⟩ (by omega) (by unfold oN;omega) (by unfold eN;omega) (by omega)
  ·exact .mode q.1 (by omega) ⟨q.2.2.1,q.2.2.2.1⟩ (by unfold oN;omega) (by unfold eN;omega) (by omega)
  ·rcases q.1 with k|k
   ·exact .want k (by omega) ⟨q.2.2.1,q.2.2.2.1⟩ (by unfold oN;omega) (by unfold eN;omega) (by unfold vOk;simp only at q;omega)
   ·exact .runs k (by omega) ⟨q.2.2.1,q.2.2.2.1⟩ (by unfold oN;omega) (by unfold eN;omega) (by unfold vOk;simp only at q;omega)
  ·exact .prove q.1 (by omega) (by omega) (by unfold oN;omega) (by unfold eN;omega) (by unfold vOk;simp only at q;omega)
  ·exact .XW q.1 (by omega) (by omega) ⟨q.2.2.2.1,q.2.2.2.2.1⟩ (by unfold eN;omega) (by omega)
  ·rcases q.1 with k|k
   ·exact .expand k (by omega) (by omega) (by unfold oN;omega) (by unfold eN;omega) (by omega)
   ·exact .contract k (by omega) (by omega) (by unfold oN;omega) (by unfold eN;omega) (by omega)
  ·exact .note q.1 (by omega) (by omega) (by unfold oN;omega) (by unfold eN;omega) (by omega)
 ·intro q
  cases q with
  |place hk t ce o w n=>
   simp only [Zf,hk,Int.reduceEq,false_and,or_false,false_or,true_and,true_or,or_true,or_self]
   simp only [tOk,cOk,vOk,oN,eN]at t ce o w n
   omega
  |grant hk t ce o ep w n=>
   simp only [Zf,hk,Int.reduceEq,false_and,or_false,false_or,true_and,true_or,or_true,or_self]
   simp only [tOk,cOk,vOk,oN,eN]at t ce o ep w n
   omega
  |cut hk t ce o ep w n=>
   simp only [Zf,hk,Int.reduceEq,false_and,or_false,false_or,true_and,true_or,or_true,or_self]
   simp only [tOk,cOk,vOk,oN,eN]at t ce o ep w n
   omega
  |JY hk t ce o w n=>
   simp only [Zf,hk,Int.reduceEq,false_and,or_false,false_or,true_and,true_or,or_true,or_self]
   simp only [tOk,cOk,vOk,oN,eN]at t ce o w n
   omega
  |ready hk t ce o w n=>
   simp only [Zf,hk,Int.reduceEq,false_and,or_false,false_or,true_and,true_or,or_true,or_self]
   simp only [tOk,cOk,vOk,oN,eN]at t ce o w n
   omega
  |migrate hk t ce o w n=>
   simp only [Zf,hk,Int.reduceEq,false_and,or_false,false_or,true_and,true_or,or_true,or_self]
   simp only [tOk,cOk,vOk,oN,eN]at t ce o w n
   omega
  |abandon hk t ce o w n=>
   simp only [Zf,hk,Int.reduceEq,false_and,or_false,false_or,true_and,true_or,or_true,or_self]
   simp only [tOk,cOk,vOk,oN,eN]at t ce o w n
   omega
  |shed hk t ce o w n=>
   simp only [Zf,hk,Int.reduceEq,false_and,or_false,false_or,true_and,true_or,or_true,or_self]
   simp only [tOk,cOk,vOk,oN,eN]at t ce o w n
   omega
  |mode hk t ce o w n=>
   simp only [Zf,hk,Int.reduceEq,false_and,or_false,false_or,true_and,true_or,or_true,or_self]
   simp only [tOk,cOk,vOk,oN,eN]at t ce o w n
   omega
  |want hk t ce o w n=>
   simp only [Zf,hk,Int.reduceEq,false_and,or_false,false_or,true_and,true_or,or_true,or_self]
   simp only [tOk,cOk,vOk,oN,eN]at t ce o w n
   omega
  |runs hk t ce o w n=>
   simp only [Zf,hk,Int.reduceEq,false_and,or_false,false_or,true_and,true_or,or_true,or_self]
   simp only [tOk,cOk,vOk,oN,eN]at t ce o w n
   omega
  |prove hk t ce o w n=>
   simp only [Zf,hk,Int.reduceEq,false_and,or_false,false_or,true_and,true_or,or_true,or_self]
   simp only [tOk,cOk,vOk,oN,eN]at t ce o w n
   omega
  |XW hk t ce o w n=>
   simp only [Zf,hk,Int.reduceEq,false_and,or_false,false_or,true_and,true_or,or_true,or_self]
   simp only [tOk,cOk,vOk,oN,eN]at t ce o w n
   omega
  |expand hk t ce o w n=>
   simp only [Zf,hk,Int.reduceEq,false_and,or_false,false_or,true_and,true_or,or_true,or_self]
   simp only [tOk,cOk,vOk,oN,eN]at t ce o w n
   omega
  |contract hk t ce o w n=>
   simp only [Zf,hk,Int.reduceEq,false_and,or_false,false_or,true_and,true_or,or_true,or_self]
   simp only [tOk,cOk,vOk,oN,eN]at t ce o w n
   omega
  |note hk t ce o w n=>
   simp only [Zf,hk,Int.reduceEq,false_and,or_false,false_or,true_and,true_or,or_true,or_self]
   simp only [tOk,cOk,vOk,oN,eN]at t ce o w n
   omega
theorem Ow [Fuel] (h:VC c):NJ c e=some (VA c e):=by
 have htl:=h.tl;have hcl:=h.cl;have hvl:=h.vl;have aa4:=h.reg
 obtain⟨s,s1,s2⟩:=D6 (e:=e) {tenants:=32,cells:=16,regions:=4,versions:=30} (by simp only;omega)
 obtain⟨f,f1,f2⟩:=D6 (e:=e) {tenants:=((c.ah.length:Nat):Int),cells:=((c.Cells.length:Nat):Int),regions:=c.bK,versions:=((c.bf.length:Nat):Int)} (by simp only;omega)
 rw [afK]at f2
 unfold NJ Js
 simp only [s1,f1,Option.bind_some,asl,ahI]
 congr 1
 rw [Bool.eq_iff_iff,(valid_eq (e:=e) h).2,Bool.and_eq_true,s2,f2]
 unfold ai3
 constructor
 ·intro q;exact q.2
 ·intro q
  refine⟨⟨q.1,?_⟩,q⟩
  have hf:=afK.2 q.2
  unfold Zf at hf⊢
  simp only at hf⊢
  rcases hf with q|q|q|q|q|q|q|q|q|q|q|q|q
  ·exact .inl (by omega)
  ·exact .inr (.inl (by omega))
  ·exact .inr (.inr (.inl (by omega)))
  ·exact .inr (.inr (.inr (.inl (by omega))))
  ·exact .inr (.inr (.inr (.inr (.inl (by omega)))))
  ·exact .inr (.inr (.inr (.inr (.inr (.inl (by omega))))))
  ·exact .inr (.inr (.inr (.inr (.inr (.inr (.inl (by omega)))))))
  ·exact .inr (.inr (.inr (.inr (.inr (.inr (.inr (.inl (by omega))))))))
  ·exact .inr (.inr (.inr (.inr (.inr (.inr (.inr (.inr (.inl (by omega)))))))))
  ·exact .inr (.inr (.inr (.inr (.inr (.inr (.inr (.inr (.inr (.inl (by omega))))))))))
  ·exact .inr (.inr (.inr (.inr (.inr (.inr (.inr (.inr (.inr (.inr (.inl (by omega)))))))))))
  ·exact .inr (.inr (.inr (.inr (.inr (.inr (.inr (.inr (.inr (.inr (.inr (.inl (by omega))))))))))))
  ·exact .inr (.inr (.inr (.inr (.inr (.inr (.inr (.inr (.inr (.inr (.inr (.inr (by omega))))))))))))
end
end Go.CP
namespace Go.CP
open Go
section
variable {c:ak} {s:aB} {e:aA}
theorem anq [Fuel] {a i:Int} (ha:0<=a/\a<1073741824) (hi:0<=i):jK .i64 (oI .i64 a i) 1=a / 2^(min i.toNat 64)%2:=by
  unfold oI
  rw [fdiv_pow ha.1]
  show jK .i64 (a / 2^(min i.toNat 64)) 1=_
  have h1:0<=a / 2^(min i.toNat 64):=Int.ediv_nonneg ha.1 (Int.le_of_lt (Int.pow_pos (by decide)))
  have h2:a / 2^(min i.toNat 64)<=a:=Int.ediv_le_self _ ha.1
  exact and_one h1 (by omega)
theorem ao7 [Fuel] {a:Int} (ha:0<=a/\a<1073741824) {n:Nat} (hn:30<=n):a / 2^n=0:=by
  apply Int.ediv_eq_zero_of_lt ha.1
  have h1:(2:Int)^30<=2^n:=by
    have:(2:Nat)^30<=2^n:=Nat.pow_le_pow_right (by decide) hn
    exact_mod_cast this
  have h2:(2:Int)^30=1073741824:=by decide
  omega
theorem aap [Fuel] {a i:Int} (ha:0<=a/\a<1073741824):Ak a i=some (hasB a i):=by
  unfold Ak hasB
  by_cases h0:0<=i
  · rw [anq ha h0]
    have e1:(!((decide (0<=i))&&(decide (i<64)))||decide ((0:Int)<=i))=true:=by rw [decide_eq_true h0];simp
    rw [XY e1]
    by_cases h1:i<62
    · rw [decide_eq_true h0,decide_eq_true (show i<64 by omega),decide_eq_true (⟨h0,h1⟩:0<=i/\i<62),Nat.min_eq_left (by omega)]
      simp only [Bool.and_self,Bool.true_and]
      congr 1
    · have z:a / 2^(min i.toNat 64)=0:=ao7 ha (by omega)
      rw [z,decide_eq_false (show¬(0<=i/\i<62)by omega)]
      simp
  · rw [decide_eq_false h0,decide_eq_false (show¬(0<=i/\i<62)by omega)]
    rfl
theorem aaq [Fuel] (h:VC c) (hv:VS c s) (i:Int):xP c s i=some (Zd c s i):=by
  have:=hv.XW
  unfold xP Zd
  simp only [JV h,Option.bind_some,aap (show 0<=s.bg/\s.bg<1073741824 by omega)]
theorem afL [Fuel] (h:VC c) (t i:Int):wu c t i=some (Ou c t i):=by
  have htl:=h.tl
  unfold wu Ou lg
  simp only [JV h,Option.bind_some]
  rw [bA (by omega) (by omega)]
  by_cases ht:0<=t/\t<(c.ah.length:Int)
  · have e1:(decide (0<=t)&&decide (t<=((c.ah.length:Nat):Int) - 1))=true:=by simp;omega
    have ha:=Vv h ht
    rw [e1,decide_eq_true ht]
    simp only [Bool.true_and]
    by_cases hr:0<=dw c i
    · have hb:=afA h i
      have aa4:=h.reg
      rw [decide_eq_true hr]
      simp (disch:=omega) only [ahF,acG]
      rw [XY (by rw [decide_eq_true hr];simp),anq (by omega) hr,Nat.min_eq_left (by omega)]
      unfold hasB
      rw [decide_eq_true (show 0<=dw c i/\dw c i<62 by omega)]
      simp only [Bool.true_and]
      congr 1
    · rw [decide_eq_false hr]
      unfold hasB
      rw [decide_eq_false (show¬(0<=dw c i/\dw c i<62)by omega)]
      rfl
  · have e1:(decide (0<=t)&&decide (t<=((c.ah.length:Nat):Int) - 1))=false:=by simp;omega
    rw [e1,decide_eq_false ht]
    rfl
theorem ahJ [Fuel] (h:VC c) (a b:Int):Fj c a b=some ((b !=(-1))&& !(zn c a b)):=by
  unfold Fj
  rw [Q0 h,asl,Option.bind_some]
  cases (b !=(-1))<;>rfl
theorem Xj [Fuel] {i:Int} (hi:0<=i/\i<((s.Cells.length:Nat):Int)):qY s i=some (cAt s i).Mode:=by
  unfold qY
  have e1:(decide (i<0)||decide (((s.Cells.length:Nat):Int)<=i))=false:=by simp;omega
  rw [e1,cond_false,dL hi.1 hi.2];rfl
theorem anr [Fuel] {i:Int} (hi:0<=i/\i<((c.bf.length:Nat):Int)):sS c i=some (c.bf.getD i.toNat default):=by
  unfold sS
  have e1:(decide (i<0)||decide (((c.bf.length:Nat):Int)<=i))=false:=by simp;omega
  rw [e1,cond_false,dL hi.1 hi.2]
theorem aar [Fuel] {i:Int} (hi: -1<=i):(i !=(-1))=decide (0<=i):=by
  by_cases h:0<=i
  · rw [decide_eq_true h];simp;omega
  · have:i= -1:=by omega
    subst this;rfl
theorem eq_neg [Fuel] {i:Int} (hi: -1<=i):(i==(-1))=decide (i<0):=by
  by_cases h:i<0
  · rw [decide_eq_true h];have:i= -1:=by omega
    subst this;rfl
  · rw [decide_eq_false h];simp;omega
def adJ (x:Int) (n:aB×Int):aB×Int:=bif x !=0 then noS x else n
theorem arj [Fuel] (h:VC c) (hv:VS c s) (t:tOk c e) (ce:cOk c e) (o: -1<=e.Other/\e.Other<(c.Cells.length:Int)):
    Ok (Jt c s e) (λx=>TD c (bump s e) e=adJ x (Vy c (Bq (bump s e) e.aD (ai7 (tAt s e.aD) e)))):=by
  have h1:=UN hv t
  have h2:=abl hv ce
  have hcl:=hv.cl
  unfold Jt FZ FY FX TD
  rw [dL h1.1 h1.2,Xj h2,aar o.1]
  simp only [Option.bind_some,aaq h hv,afL h,ahJ h,aar o.1]
  have t0:tAt (bump s e) e.aD=tAt s e.aD:=rfl
  have c0:∀i,cAt (bump s e) i=cAt s i:=λ_=>rfl
  have f0:∀i,Zd c (bump s e) i=Zd c s i:=λ_=>rfl
  rw [t0]
  simp only [c0,f0]
  show Ok (bif(tAt s e.aD).Placed then _ else _) _
  have tg:dF c e.Cell e.Other=(decide (0<=e.Other)&& !(zn c e.Cell e.Other)):=by unfold dF;rw [decide_eq_true h2.1];rfl
  rw [tg]
  by_cases ho:0<=e.Other
  · rw [decide_eq_true ho,Xj (s:=s) (i:=e.Other) (by omega)]
    simp only [cond_true,Bool.true_and,Option.bind_some]
    cases (tAt s e.aD).Placed with
    |true=>exact Ok.some rfl
    | false =>
      cases ((cAt s e.Cell).Mode !=1)with
      |true=>exact Ok.some rfl
      | false =>
        cases ((cAt s e.Other).Mode !=1)with
        |true=>exact Ok.some rfl
        | false =>
          cases Zd c s e.Cell with
          |true=>exact Ok.some rfl
          | false=>
            cases Zd c s e.Other with
            |true=>exact Ok.some rfl
            | false=>
              cases Ou c e.aD e.Cell with
              |false=>exact Ok.some rfl
              | true=>
                cases Ou c e.aD e.Other with
                |false=>exact Ok.some rfl
                |true=>cases zn c e.Cell e.Other<;>exact Ok.some rfl
  · rw [decide_eq_false ho]
    simp only [cond_false,Bool.false_and,Option.bind_some,Bool.or_false]
    cases (tAt s e.aD).Placed with
    |true=>exact Ok.some rfl
    | false=>
      cases ((cAt s e.Cell).Mode !=1)with
      |true=>exact Ok.some rfl
      | false=>
        cases Zd c s e.Cell with
        |true=>exact Ok.some rfl
        |false=>cases Ou c e.aD e.Cell<;>exact Ok.some rfl
theorem ant [Fuel] (h:VC c) (hI:Inv c s) (t:tOk c e) (ce: -1<=e.Cell/\e.Cell<(c.Cells.length:Int)) (hp:e.Tick>=s.Tick):
    Ok (C8 c s e) (λx=>Gm c (bump s e) e=adJ x (bif decide (e.Cell<0)then(Bq (bump s e) e.aD {tAt s e.aD with Next:=e.Cell},0)else Vy c (Bq (bump s e) e.aD {tAt s e.aD with Next:=e.Cell}))):=by
  have hv:=hI.vs
  have h1:=UN hv t
  have hcl:=hv.cl
  have hT:=Q6 hv h1
  unfold C8 vJ vH Gm
  rw [dL h1.1 h1.2,eq_neg ce.1]
  have t0:tAt (bump s e) e.aD=tAt s e.aD:=rfl
  have c0:∀i,cAt (bump s e) i=cAt s i:=λ_=>rfl
  have f0:∀i,Zd c (bump s e) i=Zd c s i:=λ_=>rfl
  rw [t0]
  simp only [c0,f0]
  show Ok (bif !(tAt s e.aD).Placed then _ else _) _
  have hg:(s.ah.getD e.aD.toNat default)=tAt s e.aD:=rfl
  rw [hg]
  have key:(tAt s e.aD).Placed=true->e.Cell<0->JW c (Bq (bump s e) e.aD {tAt s e.aD with Next:=e.Cell})= []:=by
    intro hpl hc
    refine Q7 h1 hI.ov (λj=> ?_)
    unfold tOk at t
    have hd:=VD h t
    unfold dl
    simp only [hpl,if_true]
    have z:=ahG (i:=e.Cell) (n:=(c.ah.getD e.aD.toNat default).pJ) hc j
    have p:=afJ (i:=(tAt s e.aD).Next) hd.2 j
    rw [z];omega
  cases hpl:(tAt s e.aD).Placed with
  |false=>exact Ok.some rfl
  | true=>
    simp only [Bool.not_true,cond_false]
    by_cases hc:e.Cell<0
    · rw [decide_eq_true hc]
      simp only [cond_true]
      refine Ok.some ?_
      have k2:=key hpl hc
      simp only [hpl]at k2⊢
      rw [atr k2];rfl
    · rw [decide_eq_false hc]
      have hce:0<=e.Cell/\e.Cell<((s.Cells.length:Nat):Int):=by omega
      simp only [cond_false,Xj hce,Option.bind_some,aaq h hv,afL h,ahJ h,Q0 h,aar hT.tg.1]
      have hh:0<=(tAt s e.aD).Home:=hT.pl hpl
      have tg1:dF c e.Cell (tAt s e.aD).Home= !(zn c e.Cell (tAt s e.aD).Home):=by unfold dF;rw [decide_eq_true hce.1,decide_eq_true hh];rfl
      have tg2:dF c e.Cell (tAt s e.aD).Target=(decide (0<=(tAt s e.aD).Target)&& !(zn c e.Cell (tAt s e.aD).Target)):=by unfold dF;rw [decide_eq_true hce.1];rfl
      rw [tg1,tg2]
      generalize Vy c _=R
      generalize (decide (0<=(tAt s e.aD).Target)&& !(zn c e.Cell (tAt s e.aD).Target))=b9
      cases (e.Cell==(tAt s e.aD).Home)with
      |true=>exact Ok.some rfl
      | false =>
        cases (e.Cell==(tAt s e.aD).aN)with
        |true=>exact Ok.some rfl
        | false =>
          cases (e.Cell==(tAt s e.aD).Target)with
          |true=>exact Ok.some rfl
          | false =>
            cases ((cAt s e.Cell).Mode !=1)with
            |true=>exact Ok.some rfl
            | false=>
              cases Zd c s e.Cell with
              |true=>exact Ok.some rfl
              | false=>
                cases Ou c e.aD e.Cell with
                |false=>exact Ok.some rfl
                | true=>
                  cases zn c e.Cell (tAt s e.aD).Home with
                  |false=>exact Ok.some rfl
                  |true=>cases b9<;>exact Ok.some rfl
theorem ark [Fuel] (h:VC c) (hv:VS c s) (t:tOk c e) (ce:cOk c e):
    Ok (Ju s e) (λx=>TG (bump s e) e=adJ x (Bq (bump s e) e.aD {tAt s e.aD with aN:=e.Cell,Next:= -1},0)):=by
  have h1:=UN hv t
  have h2:=abl hv ce
  unfold Ju TG
  rw [dL h1.1 h1.2,Xj h2]
  show Ok (bif !(tAt s e.aD).Placed then _ else _) _
  have t0:tAt (bump s e) e.aD=tAt s e.aD:=rfl
  have c0:∀i,cAt (bump s e) i=cAt s i:=λ_=>rfl
  have hg:(s.ah.getD e.aD.toNat default)=tAt s e.aD:=rfl
  rw [t0,c0,hg]
  simp only [Option.bind_some]
  cases (tAt s e.aD).Placed with
  |false=>exact Ok.some rfl
  | true=>
    cases (e.Cell !=(tAt s e.aD).Next)with
    |true=>exact Ok.some rfl
    |false=>cases ((cAt s e.Cell).Mode==3)<;>exact Ok.some rfl
theorem anu [Fuel] (h:VC c) (hv:VS c s) (t:tOk c e) (ce:cOk c e):
    Ok (C9 c s e) (λx=>Gn c (bump s e) e=adJ x (Vy c (Bq (bump s e) e.aD {tAt s e.aD with Target:=e.Cell}))):=by
  have h1:=UN hv t
  have h2:=abl hv ce
  have hT:=Q6 hv h1
  unfold C9 vQ vN vK Gn
  rw [dL h1.1 h1.2]
  have t0:tAt (bump s e) e.aD=tAt s e.aD:=rfl
  have c0:∀i,cAt (bump s e) i=cAt s i:=λ_=>rfl
  have f0:∀i,Zd c (bump s e) i=Zd c s i:=λ_=>rfl
  have hg:(s.ah.getD e.aD.toNat default)=tAt s e.aD:=rfl
  rw [t0,hg]
  simp only [c0,f0,Xj h2,Option.bind_some,aaq h hv,afL h,ahJ h,aar hT.tg.1,aar hT.sb.1,aar hT.nx.1]
  have tg1:dF c e.Cell (tAt s e.aD).aN=(decide (0<=(tAt s e.aD).aN)&& !(zn c e.Cell (tAt s e.aD).aN)):=by unfold dF;rw [decide_eq_true h2.1];rfl
  have tg2:dF c e.Cell (tAt s e.aD).Next=(decide (0<=(tAt s e.aD).Next)&& !(zn c e.Cell (tAt s e.aD).Next)):=by unfold dF;rw [decide_eq_true h2.1];rfl
  rw [tg1,tg2]
  generalize Vy c _=R
  generalize (decide (0<=(tAt s e.aD).aN)&& !(zn c e.Cell (tAt s e.aD).aN))=b8
  generalize (decide (0<=(tAt s e.aD).Next)&& !(zn c e.Cell (tAt s e.aD).Next))=b9
  generalize decide (0<=(tAt s e.aD).Target)=b7
  cases (tAt s e.aD).Placed with
  |false=>exact Ok.some rfl
  | true=>
    cases (tAt s e.aD).Aa with
    |true=>exact Ok.some rfl
    | false =>
      cases b7 with
      |true=>exact Ok.some rfl
      | false =>
        cases (e.Cell==(tAt s e.aD).Home)with
        |true=>exact Ok.some rfl
        | false =>
          cases (e.Cell==(tAt s e.aD).aN)with
          |true=>exact Ok.some rfl
          | false =>
            cases (e.Cell==(tAt s e.aD).Next)with
            |true=>exact Ok.some rfl
            | false =>
              cases ((cAt s e.Cell).Mode !=1)with
              |true=>exact Ok.some rfl
              | false=>
                cases Zd c s e.Cell with
                |true=>exact Ok.some rfl
                | false=>
                  cases Ou c e.aD e.Cell with
                  |false=>exact Ok.some rfl
                  | true=>
                    cases b8 with
                    |true=>exact Ok.some rfl
                    |false=>cases b9<;>exact Ok.some rfl
theorem anv [Fuel] (hv:VS c s) (t:tOk c e):Ok (Da s e) (λx=>Gp (bump s e) e=adJ x (Bq (bump s e) e.aD {tAt s e.aD with Target:= -1},0)):=by
  have h1:=UN hv t
  have hT:=Q6 hv h1
  unfold Da Gp
  have t0:tAt (bump s e) e.aD=tAt s e.aD:=rfl
  have hg:(s.ah.getD e.aD.toNat default)=tAt s e.aD:=rfl
  rw [dL h1.1 h1.2,t0,hg,eq_neg hT.tg.1]
  dsimp only
  cases (!(tAt s e.aD).Placed||decide ((tAt s e.aD).Target<0))<;>exact Ok.some rfl
theorem atu [Fuel] (h:VC c) (hv:VS c s) (t:tOk c e) (n:e.N=0\/e.N=1):
    Ok (Mj s e) (λx=>abm c (bump s e) e=adJ x (bif e.N==1 then(Bq (bump s e) e.aD {tAt s e.aD with Aa:=true,Target:= -1},0)else Vy c (Bq (bump s e) e.aD {tAt s e.aD with Aa:=false}))):=by
  have h1:=UN hv t
  have hT:=Q6 hv h1
  have hcl:=hv.cl
  unfold Mj IK abm
  have t0:tAt (bump s e) e.aD=tAt s e.aD:=rfl
  have c0:∀i,cAt (bump s e) i=cAt s i:=λ_=>rfl
  have hg:(s.ah.getD e.aD.toNat default)=tAt s e.aD:=rfl
  rw [dL h1.1 h1.2,t0,hg]
  dsimp only
  rw [c0]
  rcases n with n|n
  · rw [n]
    simp only [Int.reduceBEq,cond_true,cond_false]
    cases hs:(tAt s e.aD).Aa with
    |false=>exact Ok.some rfl
    | true=>
      have hh:=hT.pl (hT.sh hs)
      have:=hT.home
      rw [Xj (s:=s) (i:=(tAt s e.aD).Home) (by omega)]
      simp only [Bool.not_true,cond_false,Option.bind_some]
      cases ((cAt s (tAt s e.aD).Home).Mode==3)<;>exact Ok.some rfl
  · rw [n]
    simp only [Int.reduceBEq,cond_true,cond_false]
    cases (tAt s e.aD).Placed with
    |false=>exact Ok.some rfl
    | true=>
      cases (tAt s e.aD).Aa with
      |true=>exact Ok.some rfl
      |false=>cases decide (e.Tick<(tAt s e.aD).Window.Until)<;>exact Ok.some rfl
theorem avA [Fuel] (hv:VS c s) (t:tOk c e):Ok (QD s e) (λx=>an9 (bump s e) e=adJ x (Bq (bump s e) e.aD {tAt s e.aD with Window:=adD (tAt s e.aD).Window e.Tick},0)):=by
  have h1:=UN hv t
  unfold QD an9
  have t0:tAt (bump s e) e.aD=tAt s e.aD:=rfl
  have hg:(s.ah.getD e.aD.toNat default)=tAt s e.aD:=rfl
  rw [dL h1.1 h1.2,t0,hg]
  dsimp only
  cases (tAt s e.aD).Placed with
  |false=>exact Ok.some rfl
  |true=>cases (e.Epoch !=(tAt s e.aD).Epoch)<;>exact Ok.some rfl
theorem arl [Fuel] (h : VC c) (hv:VS c s) (t:tOk c e) (ce:cOk c e) (hk:0<=e.Tick/\e.Tick<=1073741824) (w:0<=e.From/\e.From<=1073741824/\0<=e.Until/\e.Until<=1073741824):
    Ok (Bz c s e) (λx=>TF c (bump s e) e=adJ x (Vy c (Bq (bump s e) e.aD (yY (tAt s e.aD) e)))):=by
  have h1:=UN hv t
  have h2:=abl hv ce
  have hT:=Q6 hv h1
  have hle:=h.adA
  have hep:=hT.ep
  unfold Bz Al F5 F4 wz F3 TF Gl
  have t0:tAt (bump s e) e.aD=tAt s e.aD:=rfl
  have c0:∀i,cAt (bump s e) i=cAt s i:=λ_=>rfl
  have hg:(s.ah.getD e.aD.toNat default)=tAt s e.aD:=rfl
  have hg2:(s.Cells.getD e.Cell.toNat default)=cAt s e.Cell:=rfl
  rw [dL h1.1 h1.2,dL h2.1 h2.2,t0,hg,hg2]
  dsimp only
  rw [c0]
  rw [bA (x:=(tAt s e.aD).Epoch+1) (by omega) (by omega),bA (x:=e.Tick+c.Lease) (by omega) (by omega),bA (x:=e.Until - e.From) (by omega) (by omega)]
  generalize Vy c _=R
  simp only [bne]
  generalize (e.Cell==(tAt s e.aD).Home)=b1
  generalize (e.Cell==(tAt s e.aD).aN)=b2
  generalize (e.Cell==(tAt s e.aD).Target)=b3
  generalize ((cAt s e.Cell).Mode==3)=b4
  generalize ((cAt s e.Cell).Mode==2)=b5
  generalize (e.Epoch==(tAt s e.aD).Epoch)=b6
  generalize (e.Epoch==(tAt s e.aD).Epoch+1)=b7
  generalize (e.N==(cAt s e.Cell).Running)=b8
  generalize ((cAt s e.Cell).Running==(cAt s e.Cell).Wanted)=b9
  generalize decide (e.From<e.Tick)=d1
  generalize decide (e.Tick+c.Lease<e.From)=d2
  generalize decide (e.Until<=e.From)=d3
  generalize decide (c.Lease<e.Until - e.From)=d4
  generalize decide (e.From<(tAt s e.aD).Window.Until)=d5
  generalize decide (e.Tick<(tAt s e.aD).Window.Until)=d6
  cases (tAt s e.aD).Placed with
  |false=>exact Ok.some rfl
  | true=>
    cases (tAt s e.aD).Aa <;> cases b2<;>first
      |(exact Ok.some rfl)
      | (cases b1 <;> cases b3<;>first
          |(exact Ok.some rfl)
          | (cases b4 with
             |true=>exact Ok.some rfl
             | false =>
               cases b5 <;> first
                 |(exact Ok.some rfl)
                 | (cases b6<;>cases b7<;>first
                     |(exact Ok.some rfl)
                     | (cases b8 with
                        |false=>exact Ok.some rfl
                        | true=>
                          cases b9 with
                          |false=>exact Ok.some rfl
                          | true=>
                            cases d1 with
                            |true=>exact Ok.some rfl
                            | false =>
                              cases d2 with
                              |true=>exact Ok.some rfl
                              | false=>
                                cases d3 with
                                |true=>exact Ok.some rfl
                                | false=>
                                  cases d4 with
                                  |true=>exact Ok.some rfl
                                  | false=>
                                    cases d5 with
                                    |true=>exact Ok.some rfl
                                    |false=>cases d6<;>exact Ok.some rfl))))
end
end Go.CP
namespace Go.CP
open Go
section
variable {c:ak} {s:aB} {e:aA}
theorem atv [Fuel] (hv:VS c s) (ce:cOk c e):Ok (Mk s e) (λx=>afE (bump s e) e=adJ x (adC (bump s e) e.Cell {cAt s e.Cell with Mode:=e.N,Since:=e.Tick},0)):=by
 have h2:=abl hv ce
 unfold Mk afE
 have c0:∀i,cAt (bump s e) i=cAt s i:=λ_=>rfl
 have hg2:(s.Cells.getD e.Cell.toNat default)=cAt s e.Cell:=rfl
 rw [dL h2.1 h2.2,c0,hg2]
 cases ((cAt s e.Cell).Mode==e.N)<;>exact Ok.some rfl
def VE (s:aB):Nat->List Int
 |0=> []
 |k+1=>bif aak s (k:Int)then VE s k++ [(k:Int)]else VE s k
theorem aas [Fuel] (s:aB):∀k,(VE s k).length<=k
 |0=>Nat.le_refl 0
 |k+1=>by
  have:=aas s k
  rw [VE]
  cases aak s (k:Int)with
  |true=>simp;omega
  |false=>simp;omega
def cntF (cell:Int) (l:List Int):Nat->Int
 |0=>0
 |k+1=>(bif l.getD k default !=cell then cntF cell l k+1 else cntF cell l k)
theorem anw [Fuel] (cell:Int) (l:List Int):∀k,0<=cntF cell l k/\cntF cell l k<=k
 |0=>by simp [cntF]
 |k+1=>by
  have:=anw cell l k
  rw [cntF]
  cases (l.getD k default !=cell)<;>simp<;>omega
theorem ajb [Fuel] (cell:Int) (l m:List Int):∀k,k<=l.length->cntF cell (l++m) k=cntF cell l k
 |0,_=>rfl
 |k+1,hk=>by
  rw [cntF,cntF,ajb cell l m k (by omega)]
  have:(l++m).getD k default=l.getD k default:=by simp [List.getD_eq_getElem?_getD,List.getElem?_append_left (show k<l.length by omega)]
  rw [this]
theorem ajc [Fuel] (s:aB) (cell:Int):∀k,cntF cell (VE s k) (VE s k).length=wP s cell k
 |0=>rfl
 | k+1=>by
  have ih:=ajc s cell k
  rw [VE]
  unfold wP
  cases ho:aak s (k:Int)with
  |false=>
   simp only [cond_false]
   rw [ih]
   simp [ho]
  |true=>
   simp only [cond_true,List.length_append,List.length_singleton]
   rw [cntF,ajb _ _ _ _ (Nat.le_refl _),ih]
   have:(VE s k++ [(k:Int)]).getD (VE s k).length default=(k:Int):=by simp [List.getD_eq_getElem?_getD]
   rw [this]
   by_cases hq:(k:Int)=cell
   ·simp [hq]
   ·simp [hq,ho]
theorem ahK [Fuel] (h:VC c) (hv:VS c s):F6 s=some (VE s s.Cells.length):=by
 apply ai9
 have hcl:=hv.cl
 have avB:=h.cl
 have hp:=hv.aln
 unfold F6
 refine yA (L:=λm x i=>jD s s.Cells ((s.Cells.length:Nat):Int) m x i) s.Cells.length (by omega) (λk x=>x=VE s k) rfl ?_ ?_
 ·rintro m k x hk rfl ih
  show Ok (jD s s.Cells _ (m+1) (VE s k) k) _
  have hol:=aas s k
  rw [jD]
  unfold yN
  simp (disch:=omega) only [nQ,dL,Int.toNat_natCast,aap hp,asl,Option.bind_some,bA]
  have e1:((!hasB s.jV (s.Cells.getD k default).Running)|| !(bif !(!hasB s.jV (s.Cells.getD k default).Running)then hasB s.jV (s.Cells.getD k default).Wanted else default))=aak s (k:Int):=by
   unfold aak wO cAt
   rw [Int.toNat_natCast]
   cases hasB s.jV (s.Cells.getD k default).Running<;>rfl
  rw [e1]
  have nx:=ih (VE s (k+1)) rfl
  rw [VE]at nx
  cases ho:aak s (k:Int)with
  |true=>
   rw [ho]at nx
   simp only [cond_true]at nx⊢
   rw [D5 (by simp only [List.length_singleton];unfold room;omega)]
   exact nx
  |false=>
   rw [ho]at nx
   exact nx
 ·rintro m x rfl
  show Ok (jD s s.Cells _ (m+1) _ _) _
  rw [jD]
  simp (disch:=omega) only [nG]
  exact Ok.some rfl
theorem arn [Fuel] (h:VC c) {l:List Int} (hl:l.length<=1000):mZ c e l ((l.length:Nat):Int) fuel 0 0=some (bif decide (c.Bu<=cntF e.Cell l l.length)then 14 else 0):=by
 apply ai9
 refine yA (L:=λm x i=>mZ c e l ((l.length:Nat):Int) m x i) l.length (by omega) (λk x=>x=cntF e.Cell l k) rfl ?_ ?_
 ·rintro m k x hk rfl ih
  show Ok (mZ c e l _ (m+1) (cntF e.Cell l k) k) _
  have hb:=anw e.Cell l k
  rw [mZ]
  unfold IL
  simp (disch:=omega) only [nQ,dL,Int.toNat_natCast,bA]
  have nx:=ih (cntF e.Cell l (k+1)) rfl
  rw [cntF]at nx
  cases hq:(l.getD k default !=e.Cell)with
  |true=>rw [hq]at nx;exact nx
  |false=>rw [hq]at nx;exact nx
 ·rintro m x rfl
  show Ok (mZ c e l _ (m+1) _ _) _
  rw [mZ]
  simp (disch:=omega) only [nG]
  cases decide (c.Bu<=cntF e.Cell l l.length)<;>exact Ok.some rfl
theorem atw [Fuel] (h:VC c) (hv:VS c s) (ce:cOk c e) (n:vOk c e):Ok (Ml c s e) (λx=>aal c (bump s e) e=adJ x (adC (bump s e) e.Cell {cAt s e.Cell with Wanted:=e.N},0)):=by
 have h2:=abl hv ce
 have hp:=hv.aln
 have hcl:=hv.cl
 have avB:=h.cl
 unfold vOk at n
 unfold Ml IU IQ aal
 have c0:∀i,cAt (bump s e) i=cAt s i:=λ_=>rfl
 have hg2:(s.Cells.getD e.Cell.toNat default)=cAt s e.Cell:=rfl
 have hol:=aas s s.Cells.length
 rw [dL h2.1 h2.2,hg2]
 dsimp only
 rw [c0,anr n,ahK h hv]
 simp only [Option.bind_some,aap hp,Uv]
 rw [arn h (by omega),ajc]
 have p0:wO (bump s e) e.N=hasB s.jV e.N:=rfl
 have q0:(bump s e).Cells.length=s.Cells.length:=rfl
 have q1:(bump s e).bg=s.bg:=rfl
 have q2:(bump s e).Low=s.Low:=rfl
 have q3:(bump s e).High=s.High:=rfl
 rw [p0,q0,q1,q2,q3]
 have r0:(e.N !=(cAt s e.Cell).Running)= !((cAt s e.Cell).Running==e.N):=by rw [Bool.eq_iff_iff];simp;exact⟨λa b=>a b.symm,λa b=>a b.symm⟩
 rw [r0]
 generalize wP s e.Cell s.Cells.length=ot
 cases ((cAt s e.Cell).Wanted==e.N)with
 |true=>exact Ok.some rfl
 | false=>
  cases decide (s.Low<(c.bf.getD e.N.toNat default).Low)with
  |true=>exact Ok.some rfl
  | false=>
   cases decide ((c.bf.getD e.N.toNat default).High<s.High)with
   |true=>exact Ok.some rfl
   | false=>
    cases ((cAt s e.Cell).Running==e.N)with
    |true=>exact Ok.some rfl
    | false=>
     cases hasB s.jV e.N with
     |true=>exact Ok.some rfl
     |false=>
      cases (s.bg !=0)with
      |true=>exact Ok.some rfl
      |false=>cases decide (c.Bu<=ot)<;>exact Ok.some rfl
theorem Xk [Fuel] {α:Type} [Inhabited α] (p:α->Bool) (l:List α):l.any p=true ↔∃k,k<l.length/\p (l.getD k default)=true:=by
 rw [List.any_eq_true]
 constructor
 ·rintro⟨x,hx,hp⟩
  obtain⟨k,hk,rfl⟩:=List.getElem_of_mem hx
  exact⟨k,hk,by simpa [List.getD_eq_getElem?_getD,hk]using hp⟩
 ·rintro⟨k,hk,hp⟩
  exact⟨_,uX hk,hp⟩
theorem aro [Fuel] (hl:s.ah.length<=1000):oZ e s.ah ((s.ah.length:Nat):Int) fuel 0=some (bif s.ah.any (Xh e)then 9 else 0):=by
 apply ai9
 refine yA (L:=λm (_:Unit) i=>oZ e s.ah ((s.ah.length:Nat):Int) m i) (x:=()) s.ah.length (by omega) (λk _=>∀j,j<k->Xh e (s.ah.getD j default)=false) (λj hj=>by omega) ?_ ?_
 ·rintro m k x hk hI ih
  show Ok (oZ e s.ah _ (m+1) k) _
  rw [oZ]
  simp (disch:=omega) only [nQ,dL,Int.toNat_natCast,bA]
  show Ok (bif Xh e (s.ah.getD k default)then _ else _) _
  cases hb:Xh e (s.ah.getD k default)with
  |true=>
   have:s.ah.any (Xh e)=true:=(Xk _ _).2 ⟨k,hk,hb⟩
   rw [this];exact Ok.some rfl
  | false=>
   exact ih () (λj hj=>by
    by_cases q:j=k
    ·exact q▸hb
    ·exact hI j (by omega))
 ·rintro m x hI
  show Ok (oZ e s.ah _ (m+1) _) _
  rw [oZ]
  simp (disch:=omega) only [nG]
  have:s.ah.any (Xh e)=false:=by
   cases hq:s.ah.any (Xh e)with
   |false=>rfl
   |true=>obtain⟨k,hk,hp⟩:=(Xk _ _).1 hq;rw [hI k hk]at hp;cases hp
  rw [this];exact Ok.some rfl
theorem atx [Fuel] (h:VC c) (hv:VS c s) (ce:cOk c e) (n:vOk c e):Ok (Mq s e) (λx=>abn (bump s e) e=adJ x (adC (bump s e) e.Cell {cAt s e.Cell with Running:=e.N,Since:=e.Tick},0)):=by
 have h2:=abl hv ce
 have hp:=hv.aln
 have htl:=hv.tl
 have aCV:=h.tl
 unfold Mq IV abn
 have c0:∀i,cAt (bump s e) i=cAt s i:=λ_=>rfl
 have hg2:(s.Cells.getD e.Cell.toNat default)=cAt s e.Cell:=rfl
 rw [dL h2.1 h2.2,hg2]
 dsimp only
 rw [c0,aro (by omega)]
 simp only [Option.bind_some,aap hp]
 have p0:wO (bump s e) e.N=hasB s.jV e.N:=rfl
 have q0:(bump s e).ah=s.ah:=rfl
 have q1:(bump s e).bg=s.bg:=rfl
 rw [p0,q0,q1]
 have r0:(e.N !=(cAt s e.Cell).Wanted)=((cAt s e.Cell).Wanted !=e.N):=by rw [Bool.eq_iff_iff];simp only [bne_iff_ne,ne_eq];exact⟨λa b=>a b.symm,λa b=>a b.symm⟩
 rw [r0]
 cases ((cAt s e.Cell).Wanted !=e.N)with
 |true=>exact Ok.some rfl
 | false=>
  cases ((cAt s e.Cell).Running==(cAt s e.Cell).Wanted)with
  |true=>exact Ok.some rfl
  | false=>
   cases hasB s.jV e.N with
   |true=>cases s.ah.any (Xh e)<;>exact Ok.some rfl
   |false=>
    cases (s.bg !=0)with
    |true=>exact Ok.some rfl
    |false=>cases s.ah.any (Xh e)<;>exact Ok.some rfl
theorem ao8 [Fuel] (h:VC c) (hv:VS c s) (hk:0<=e.Tick/\e.Tick<=1073741824):ng c e s.Cells ((s.Cells.length:Nat):Int) fuel 0=some (bif s.Cells.any (MR c e)then 0 else 15):=by
 apply ai9
 have hcl:=hv.cl
 have avB:=h.cl
 refine yA (L:=λm (_:Unit) i=>ng c e s.Cells ((s.Cells.length:Nat):Int) m i) (x:=()) s.Cells.length (by omega) (λk _=>∀j,j<k->MR c e (s.Cells.getD j default)=false) (λj hj=>by omega) ?_ ?_
 ·rintro m k x hk2 hI ih
  show Ok (ng c e s.Cells _ (m+1) k) _
  have hC:=(hv.cel _ (uX hk2)).sin
  rw [ng]
  simp (disch:=omega) only [nQ,dL,Int.toNat_natCast,bA]
  show Ok (bif MR c e (s.Cells.getD k default)then _ else _) _
  cases hb:MR c e (s.Cells.getD k default)with
  |true=>
   have:s.Cells.any (MR c e)=true:=(Xk _ _).2 ⟨k,hk2,hb⟩
   rw [this];exact Ok.some rfl
  | false=>
   exact ih () (λj hj=>by
    by_cases q:j=k
    ·exact q▸hb
    ·exact hI j (by omega))
 ·rintro m x hI
  show Ok (ng c e s.Cells _ (m+1) _) _
  rw [ng]
  simp (disch:=omega) only [nG]
  have:s.Cells.any (MR c e)=false:=by
   cases hq:s.Cells.any (MR c e)with
   |false=>rfl
   |true=>obtain⟨k,hk,hp⟩:=(Xk _ _).1 hq;rw [hI k hk]at hp;cases hp
  rw [this];exact Ok.some rfl
theorem arp [Fuel] (h:VC c) (hv:VS c s) (hk:0<=e.Tick/\e.Tick<=1073741824):Ok (Jv c s e) (λx=>TH c (bump s e) e=adJ x ({bump s e with jV:=orK .i64 s.jV (CW .i64 1 (IntKind.u64.wrap e.N))},0)):=by
 have hp:=hv.aln
 unfold Jv TH
 rw [ao8 h hv hk]
 simp only [Option.bind_some,aap hp]
 have p0:wO (bump s e) e.N=hasB s.jV e.N:=rfl
 have q0:(bump s e).Cells=s.Cells:=rfl
 rw [p0,q0]
 cases hasB s.jV e.N with
 |true=>exact Ok.some rfl
 |false=>cases s.Cells.any (MR c e)<;>exact Ok.some rfl
theorem anx [Fuel] (h:VC c) (hv:VS c s):lu c s s.Cells ((s.Cells.length:Nat):Int) fuel 0=some (bif s.Cells.any (agH c s)then 13 else 0):=by
 apply ai9
 have hcl:=hv.cl
 have avB:=h.cl
 refine yA (L:=λm (_:Unit) i=>lu c s s.Cells ((s.Cells.length:Nat):Int) m i) (x:=()) s.Cells.length (by omega) (λk _=>∀j,j<k->agH c s (s.Cells.getD j default)=false) (λj hj=>by omega) ?_ ?_
 ·rintro m k x hk2 hI ih
  show Ok (lu c s s.Cells _ (m+1) k) _
  have hC:=hv.cel _ (uX hk2)
  rw [lu]
  simp (disch:=omega) only [nQ,dL,Int.toNat_natCast,bA,anr hC.run,anr hC.wan,Option.bind_some,asl]
  have e1:(decide ((c.bf.getD (s.Cells.getD k default).Running.toNat default).High<=s.High)||decide ((bif !decide ((c.bf.getD (s.Cells.getD k default).Running.toNat default).High<=s.High)then c.bf.getD (s.Cells.getD k default).Wanted.toNat default else default).High<=s.High))=agH c s (s.Cells.getD k default):=by
   unfold agH
   cases decide ((c.bf.getD (s.Cells.getD k default).Running.toNat default).High<=s.High)<;>rfl
  rw [e1]
  cases hb:agH c s (s.Cells.getD k default)with
  |true=>
   have:s.Cells.any (agH c s)=true:=(Xk _ _).2 ⟨k,hk2,hb⟩
   rw [this];exact Ok.some rfl
  | false=>
   exact ih () (λj hj=>by
    by_cases q:j=k
    ·exact q▸hb
    ·exact hI j (by omega))
 ·rintro m x hI
  show Ok (lu c s s.Cells _ (m+1) _) _
  rw [lu]
  simp (disch:=omega) only [nG]
  have:s.Cells.any (agH c s)=false:=by
   cases hq:s.Cells.any (agH c s)with
   |false=>rfl
   |true=>obtain⟨k,hk,hp⟩:=(Xk _ _).1 hq;rw [hI k hk]at hp;cases hp
  rw [this];exact Ok.some rfl
theorem ao9 [Fuel] (h:VC c) (hv:VS c s):Ok (GK c s) (λx=>LV c (bump s e)=adJ x ({bump s e with High:=s.High+1},0)):=by
 unfold GK LV
 rw [anx h hv]
 have q0:(bump s e).Cells.any (agH c (bump s e))=s.Cells.any (agH c s):=rfl
 have q2:(bump s e).Low=s.Low:=rfl
 have q3:(bump s e).High=s.High:=rfl
 rw [q0,q2,q3]
 cases decide (s.Low<s.High)with
 |true=>exact Ok.some rfl
 |false=>
  cases decide (30<=s.High)with
  |true=>exact Ok.some rfl
  |false=>cases s.Cells.any (agH c s)<;>exact Ok.some rfl
theorem akO [Fuel]:Ok (Am s) (λx=>G5 (bump s e)=adJ x ({bump s e with Low:=s.High},0)):=by
 unfold Am G5
 have q2:(bump s e).Low=s.Low:=rfl
 have q3:(bump s e).High=s.High:=rfl
 rw [q2,q3]
 cases (s.High==s.Low)<;>exact Ok.some rfl
theorem aty [Fuel] (hv:VS c s):Ok (rV s e) (λx=>afF (bump s e) e=adJ x ({bump s e with bg:=alc .i64 s.bg (CW .i64 1 (IntKind.u64.wrap e.Other))},0)):=by
 have hp:=hv.XW
 unfold rV afF
 rw [aap (by omega)]
 simp only [Option.bind_some]
 have q1:(bump s e).bg=s.bg:=rfl
 rw [q1]
 cases (hasB s.bg e.Other==(e.N==1))<;>exact Ok.some rfl
theorem anz [Fuel] {a n:Int} (ha:0<=a/\a<8) (hn:0<=n/\n<3):
  (hasB a n=false->orK .i64 a (CW .i64 1 n)=alc .i64 a (CW .i64 1 (IntKind.u64.wrap n)))/\(hasB a n=true->Np .i64 a (CW .i64 1 n)=alc .i64 a (CW .i64 1 (IntKind.u64.wrap n))):=by
 have h1:a=0\/a=1\/a=2\/a=3\/a=4\/a=5\/a=6\/a=7:=by omega
 have h2:n=0\/n=1\/n=2:=by omega
 rcases h1 with rfl|rfl|rfl|rfl|rfl|rfl|rfl|rfl<;>rcases h2 with rfl|rfl|rfl<;>decide
end
end Go.CP
namespace Go.CP
open Go
section
variable {c:ak} {s:aB}
theorem aat [Fuel] (h:VC c) {b:List Int} (hl:b.length=c.Cells.length):∀(m k:Nat),c.Cells.length - k<m->k<=c.Cells.length->xQ c b ((b.length:Nat):Int) m (LU c b k) (k:Int)=some (LU c b c.Cells.length)
 |0,_,hm,_=>absurd hm (Nat.not_lt_zero _)
 | m+1,k,hm,hk=>by
  have hcl:=h.cl
  have hol:=aai c b k
  rw [xQ];(try simp only [iQ,dZ])
  by_cases hlt:k<c.Cells.length
  ·have i1:0<=(k:Int)/\(k:Int)<((b.length:Nat):Int):=by omega
   have i2:0<=(k:Int)/\(k:Int)<((c.Cells.length:Nat):Int):=by omega
   rw [decide_eq_true i1.2]
   simp only [cond_true,idx_eq i1,idx_eq i2,Option.bind_some,Int.toNat_natCast]
   have next:xQ c b ((b.length:Nat):Int) m (LU c b (k+1)) (w64 ((k:Int)+1))=some (LU c b c.Cells.length):=by
    rw [bA (by omega) (by omega)]
    have:=aat h hl m (k+1) (by omega) (by omega)
    simpa using this
   simp only [LU]at next
   unfold KV;(try simp only [iQ,dZ])
   have e0:b.getD k 0=b.getD k default:=rfl
   rw [e0]at next
   by_cases hc:(c.Cells.getD k default).kS<b.getD k default
   ·rw [if_pos hc]at next
    rw [decide_eq_true hc,decide_eq_true (show((LU c b k).length+ [(k:Int)].length)*8<=140737488355328 by simp;omega)]
    exact next
   ·rw [if_neg hc]at next
    rw [decide_eq_false hc]
    exact next
  ·rw [decide_eq_false (show¬(k:Int)<((b.length:Nat):Int)by omega)]
   have:k=c.Cells.length:=by omega
   subst this;rfl
theorem anA [Fuel] (h:VC c) (hl:s.ah.length=c.ah.length):QF c s=some (JW c s):=by
 have hcl:=h.cl
 unfold QF JW;(try simp only [iQ,dZ])
 rw [ahB h hl]
 have:=aat h (acH c s) fuel 0 (by rw [lX];omega) (by omega)
 simpa [LU]using this
end
end Go.CP
namespace Go.CP
open Go
section
variable {c:ak} {s:aB} {e:aA}
theorem ahL [Fuel] {l:List ay} (hl:l.length<=1000):cO l=some l:=by
 unfold cO
 rw [D5 (by simp only [List.length_nil];unfold room;omega)];rfl
theorem ahM [Fuel] {l:List aH} (hl:l.length<=1000):dG l=some l:=by
 unfold dG
 rw [D5 (by simp only [List.length_nil];unfold room;omega)];rfl
def akP [Fuel] (c:ak) (s:aB) (e:aA):Option (aB×Int):=
 (iZ s e).bind λx2=>(fK e).bind λx3=>(bif x3 then QF c x2 else some default).bind λx4=>
  bif(x3&&(decide (0<((x4.length:Nat):Int))))then(some (aq6,10))else(some (x2,0))
theorem Jk [Fuel]:Fp c s e=(kg c s e).bind λx1=>bif x1 !=0 then some (aq6,x1)else akP c s e:=rfl
theorem VF [Fuel] (h:VC c) {S:aB} (he:iZ s e=some S) (hb:fK e=some true) (hl:S.ah.length=c.ah.length):akP c s e=some (Vy c S):=by
 unfold akP Vy
 rw [he,hb]
 simp only [Option.bind_some,cond_true,anA h hl,Bool.true_and]
 cases decide (0<(((JW c S).length:Nat):Int))<;>rfl
theorem FJ [Fuel] {S:aB} (he:iZ s e=some S) (hb:fK e=some false):akP c s e=some (S,0):=by
 unfold akP
 rw [he,hb];rfl
theorem oV [Fuel] {x:Int} {R:aB×Int} (hr:kg c s e=some x) (hA:qo c s e=adJ x R) (hE:akP c s e=some R):Fp c s e=some (qo c s e):=by
 rw [Jk,hr,hA]
 unfold adJ
 simp only [Option.bind_some]
 cases (x !=0)with
 |true=>rfl
 |false=>exact hE
theorem adK [Fuel] (h:VC c) (hv:VS c s) (ce:cOk c e) (k:e.Kind=9\/e.Kind=10\/e.Kind=11):iZ s e=(Ch s.Cells e.Cell.toNat e).bind λx=>some {bump s e with Cells:=x}:=by
 have h2:=abl hv ce
 have htl:=hv.tl;have hcl:=hv.cl;have a1:=h.tl;have a2:=h.cl;have hcnt:=hv.cnt
 unfold iZ qb iU
 rw [ahL (by omega),ahM (by omega),bA (by omega) (by omega)]
 simp only [Option.bind_some]
 rcases k with k|k|k<;>(simp only [k,Int.reduceBEq,cond_true,cond_false];rw [dL h2.1 h2.2];rfl)
theorem Ox [Fuel] (h:VC c) (hv:VS c s) (t:tOk c e) (k:1<=e.Kind/\e.Kind<=8):iZ s e=(jA s.ah e.aD.toNat e).bind λx=>some {bump s e with ah:=x}:=by
 have h1:=UN hv t
 have htl:=hv.tl;have hcl:=hv.cl;have a1:=h.tl;have a2:=h.cl;have hcnt:=hv.cnt
 have n:∀q:Int,9<=q->(e.Kind==q)=false:=λq hq=>by simp;omega
 unfold iZ qb iU
 rw [ahL (by omega),ahM (by omega),bA (by omega) (by omega)]
 simp only [Option.bind_some,n 9 (by omega),n 10 (by omega),n 11 (by omega),n 12 (by omega),n 13 (by omega),n 14 (by omega),n 15 (by omega),n 16 (by omega),cond_false]
 rw [dL h1.1 h1.2];rfl
theorem VG [Fuel] (h:VC c) (hv:VS c s):(e.Kind=12->0<=e.N->iZ s e=some {bump s e with jV:=orK .i64 s.jV (CW .i64 1 e.N)})∧
  (e.Kind=13->0<=e.Other->iZ s e=some {bump s e with bg:=bif e.N==1 then orK .i64 s.bg (CW .i64 1 e.Other)else Np .i64 s.bg (CW .i64 1 e.Other)})∧
  (e.Kind=14->iZ s e=some {bump s e with High:=s.High+1})/\(e.Kind=15->iZ s e=some {bump s e with Low:=s.High})/\(e.Kind=16->iZ s e=some (bump s e)):=by
 have htl:=hv.tl;have hcl:=hv.cl;have a1:=h.tl;have a2:=h.cl;have hcnt:=hv.cnt;have hlh:=hv.lh
 unfold iZ qb iU
 rw [ahL (by omega),ahM (by omega),bA (x:=s.Count+1) (by omega) (by omega)]
 have wh:w64 (s.High+1)=s.High+1:=bA (by omega) (by omega)
 simp only [Option.bind_some,wh]
 refine⟨λk hn=> ?_,λk hn=> ?_,λk=> ?_,λk=> ?_,λk=> ?_⟩
 ·simp only [k,Int.reduceBEq,cond_true,cond_false];rw [D5 hn];rfl
 ·simp only [k,Int.reduceBEq,cond_true,cond_false];rw [D5 hn,D5 hn];cases (e.N==1)<;>rfl
 ·simp only [k,Int.reduceBEq,cond_true,cond_false];rfl
 ·simp only [k,Int.reduceBEq,cond_true,cond_false];rfl
 ·simp only [k,Int.reduceBEq,cond_true,cond_false];rfl
theorem akQ [Fuel] (h:VC c) (hv:VS c s) (hb:VA c e=true) (h4:s.Count<4096) (h5:s.Tick<=e.Tick):kg c s e=jy c s e false:=by
 unfold kg
 rw [Ow h,hb]
 have e1:(((s.ah.length:Nat):Int) !=((c.ah.length:Nat):Int))=false:=by rw [hv.tl];simp
 have e2:(((s.Cells.length:Nat):Int) !=((c.Cells.length:Nat):Int))=false:=by rw [hv.cl];simp
 rw [e1,e2];rfl
theorem afM [Fuel] {x:ay} (hv:VS c s) {i:Int}:(Bq (bump s e) i x).ah.length=c.ah.length:=by
 show(s.ah.set i.toNat x).length=_
 rw [List.length_set];exact hv.tl
theorem ahN [Fuel] (h:VC c) (hI:Inv c s):Fp c s e=some (qo c s e):=by
 have hv:=hI.vs
 have hcnt:=hv.cnt
 cases hb:VA c e with
 | false=>
  have hr:kg c s e=some 1:=by
   unfold kg jy
   rw [Ow h,hb];rfl
  rw [Jk,hr]
  unfold qo
  rw [hb];rfl
 | true =>
  have hV:=((valid_eq (e:=e) h).2).1 hb
  by_cases h4:4096<=s.Count
  ·have hr:kg c s e=some 2:=by
    unfold kg
    rw [Ow h,hb]
    have e1:(((s.ah.length:Nat):Int) !=((c.ah.length:Nat):Int))=false:=by rw [hv.tl];simp
    have e2:(((s.Cells.length:Nat):Int) !=((c.Cells.length:Nat):Int))=false:=by rw [hv.cl];simp
    rw [e1,e2]
    unfold jy
    simp only [Option.bind_some,Bool.not_true,cond_false]
    rw [nQ h4]
   rw [Jk,hr]
   unfold qo
   rw [hb,decide_eq_true h4];rfl
  ·by_cases h5:e.Tick<s.Tick
   ·have hr:kg c s e=some 3:=by
     unfold kg
     rw [Ow h,hb]
     have e1:(((s.ah.length:Nat):Int) !=((c.ah.length:Nat):Int))=false:=by rw [hv.tl];simp
     have e2:(((s.Cells.length:Nat):Int) !=((c.Cells.length:Nat):Int))=false:=by rw [hv.cl];simp
     rw [e1,e2]
     unfold jy
     simp only [Option.bind_some,Bool.not_true,cond_false]
     rw [nG h4,nQ h5]
    rw [Jk,hr]
    unfold qo
    rw [hb,decide_eq_false h4,decide_eq_true h5];rfl
   ·have hA :qo c s e=adE c (bump s e) e:=by
     unfold qo
     rw [hb,decide_eq_false h4,decide_eq_false h5];rfl
    have hR:=akQ h hv hb (by omega) (by omega)
    have hkk:jy c s e false=(bif(e.Kind==1)then((Jt c s e).bind λx2=>(some x2))else(bif(e.Kind==4)then((C8 c s e).bind λx3=>(some x3))
      else(bif(e.Kind==5)then((Ju s e).bind λx4=>(some x4))else(bif(e.Kind==6)then((C9 c s e).bind λx5=>(some x5))else(bif(e.Kind==7)then((Da s e).bind λx6=>(some x6))
      else(bif(e.Kind==8)then((Mj s e).bind λx7=>(some x7))else(bif(e.Kind==2)then((Bz c s e).bind λx8=>(some x8))else(bif(e.Kind==3)then((QD s e).bind λx9=>(some x9))
      else(bif(e.Kind==9)then((Mk s e).bind Md=>(some x10))else(bif(e.Kind==10)then((Ml c s e).bind Vk=>(some x11))else(bif(e.Kind==11)then((Mq s e).bind UM=>(some x12))
      else(bif(e.Kind==12)then((Jv c s e).bind abk=>(some x13))else(bif(e.Kind==13)then((rV s e).bind aem=>(some x14))else(bif(e.Kind==14)then((GK c s).bind ady=>(some x15))
      else(bif(e.Kind==15)then((Am s).bind agG=>(some x16))else(some 0)))))))))))))))):=by
     unfold jy
     rw [cond_false,nG h4,nG h5]
    rw [hkk]at hR
    have bs:∀{m:Option Int} {P:Int->Prop},Ok m P→∃x,(m.bind λy=>some y)=some x/\P x:=by
     rintro m P ⟨x,rfl,hx⟩;exact⟨x,rfl,hx⟩
    unfold adE at hA
    have hn:∀(t:tOk c e),e.aD.toNat<s.ah.length:=λt=>by have:=UN hv t;omega
    have hc:∀(t:cOk c e),e.Cell.toNat<s.Cells.length:=λt=>by have:=abl hv t;omega
    cases hV.2 with
    | place k t ce o w n=>
     simp only [k,Int.reduceBEq,cond_true,cond_false]at hR hA
     obtain⟨x,x1,x2⟩:=bs (arj h hv t ce ⟨o.1,o.2.1⟩)
     refine oV (by rw [hR,x1]) (by rw [hA,x2]) (VF h ?_ ?_ (afM hv))
     ·rw [Ox h hv t (by omega)]
      unfold jA
      simp only [k,Int.reduceBEq,cond_true,cond_false,dZ,iC (hn t),List.set_set,Option.bind_some,List.length_set]
      rfl
     ·unfold fK dJ;simp only [k,Int.reduceBEq,cond_true,cond_false]
    | grant k t ce o ep w n=>
     simp only [k,Int.reduceBEq,cond_true,cond_false]at hR hA
     obtain⟨x,x1,x2⟩:=bs (arl h hv t ce hV.1 w)
     by_cases hx:x=0
     ·subst hx
      refine oV (x:=0) (by rw [hR,x1]) (by rw [hA,x2]) (VF h ?_ ?_ (afM hv))
      ·rw [Ox h hv t (by omega)]
       unfold jA NK
       have hcl:e.Cell=(tAt s e.aD).Home\/e.Cell=(tAt s e.aD).aN\/e.Cell=(tAt s e.aD).Target:=by
        have hb2:((((e.Cell !=(tAt s e.aD).Home)&&(e.Cell !=(tAt s e.aD).aN))&&(e.Cell !=(tAt s e.aD).Target)))=false:=by
         cases hq:(((e.Cell !=(tAt s e.aD).Home)&&(e.Cell !=(tAt s e.aD).aN))&&(e.Cell !=(tAt s e.aD).Target))with
         |false=>rfl
         | true=>
          exfalso
          have hgs:∃k:Int,k≠0/\Bz c s e=some k:=by
           have h1:=UN hv t
           have h2:=abl hv ce
           unfold Bz Al
           have hg:(s.ah.getD e.aD.toNat default)=tAt s e.aD:=rfl
           rw [dL h1.1 h1.2,dL h2.1 h2.2,hg]
           have hq2:(((!(e.Cell==(tAt s e.aD).Home))&&(e.Cell !=(tAt s e.aD).aN))&&(e.Cell !=(tAt s e.aD).Target))=true:=hq
           rw [hq2]
           cases (tAt s e.aD).Placed with
           |false=>exact⟨4,by decide,rfl⟩
           |true=>cases ((tAt s e.aD).Aa&&(e.Cell !=(tAt s e.aD).aN))with
            |true=>exact⟨4,by decide,rfl⟩
            |false=>exact⟨5,by decide,rfl⟩
          obtain⟨k',k1,k2⟩:=hgs
          rw [k2]at x1
          exact k1 (Option.some.inj x1)
        rcases Decidable.em (e.Cell=(tAt s e.aD).Home)with q|q
        ·exact .inl q
        ·rcases Decidable.em (e.Cell=(tAt s e.aD).aN)with q2|q2
         ·exact .inr (.inl q2)
         ·refine .inr (.inr ?_)
          have a1:(e.Cell !=(tAt s e.aD).Home)=true:=by simpa using q
          have a2:(e.Cell !=(tAt s e.aD).aN)=true:=by simpa using q2
          rw [a1,a2]at hb2
          simpa using hb2
       simp only [k,Int.reduceBEq,cond_true,cond_false,dZ,iC (hn t),List.set_set,List.length_set]
       have hg:(s.ah.getD e.aD.toNat default)=tAt s e.aD:=rfl
       rw [hg]
       unfold yY
       dsimp only
       rcases Decidable.em (e.Cell=(tAt s e.aD).Home)with q|q
       ·have a1:(e.Cell==(tAt s e.aD).Home)=true:=by simpa using q
        rw [a1];rfl
       ·have a1:(e.Cell==(tAt s e.aD).Home)=false:=by simpa using q
        rw [a1]
        rcases Decidable.em (e.Cell=(tAt s e.aD).aN)with q2|q2
        ·have a2:(e.Cell==(tAt s e.aD).aN)=true:=by simpa using q2
         rw [a2];rfl
        ·have a2:(e.Cell==(tAt s e.aD).aN)=false:=by simpa using q2
         have a3:(e.Cell==(tAt s e.aD).Target)=true:=by
          rcases hcl with z|z|z
          ·exact absurd z q
          ·exact absurd z q2
          ·simpa using z
         rw [a2,a3];rfl
      ·unfold fK dJ;simp only [k,Int.reduceBEq,cond_true,cond_false]
     ·have hx':(x !=0)=true:=by simpa using hx
      rw [Jk,hR,x1,hA,x2]
      unfold adJ
      rw [Option.bind_some,hx'];rfl
    | cut k t ce o ep w n=>
     simp only [k,Int.reduceBEq,cond_true,cond_false]at hR hA
     obtain⟨x,x1,x2⟩:=bs (avA hv t)
     refine oV (by rw [hR,x1]) (by rw [hA,x2]) (FJ ?_ ?_)
     ·have hk:=hV.1
      rw [Ox h hv t (by omega)]
      unfold jA
      rw [bA (x:=e.Tick+1) (by omega) (by omega)]
      simp only [k,Int.reduceBEq,cond_true,cond_false,dZ,iC (hn t),List.set_set,Option.bind_some,List.length_set]
      rfl
     ·unfold fK dJ;simp only [k,Int.reduceBEq,cond_true,cond_false]
    | JY k t ce o w n=>
     simp only [k,Int.reduceBEq,cond_true,cond_false]at hR hA
     obtain⟨x,x1,x2⟩:=bs (ant h hI t ce (by omega))
     refine oV (by rw [hR,x1]) (by rw [hA,x2]) ?_
     have hE:iZ s e=some (Bq (bump s e) e.aD {tAt s e.aD with Next:=e.Cell}):=by
      rw [Ox h hv t (by omega)]
      unfold jA
      simp only [k,Int.reduceBEq,cond_true,cond_false,dZ,iC (hn t),List.set_set,Option.bind_some,List.length_set]
      rfl
     by_cases hc:e.Cell<0
     ·rw [nQ hc]
      refine FJ hE ?_
      have:e.Cell= -1:=by omega
      unfold fK dJ;simp only [k,this,Int.reduceBEq,Int.reduceBNe,cond_true,cond_false]
     ·rw [nG hc]
      refine VF h hE ?_ (afM hv)
      have:(e.Cell !=(-1))=true:=by rw [aar ce.1];exact decide_eq_true (by omega)
      unfold fK dJ;simp only [k,this,Int.reduceBEq,cond_true,cond_false]
    | ready k t ce o w n=>
     simp only [k,Int.reduceBEq,cond_true,cond_false]at hR hA
     obtain⟨x,x1,x2⟩:=bs (ark h hv t ce)
     refine oV (by rw [hR,x1]) (by rw [hA,x2]) (FJ ?_ ?_)
     ·rw [Ox h hv t (by omega)]
      unfold jA
      simp only [k,Int.reduceBEq,cond_true,cond_false,dZ,iC (hn t),List.set_set,Option.bind_some,List.length_set]
      rfl
     ·unfold fK dJ;simp only [k,Int.reduceBEq,cond_true,cond_false]
    | migrate k t ce o w n=>
     simp only [k,Int.reduceBEq,cond_true,cond_false]at hR hA
     obtain⟨x,x1,x2⟩:=bs (anu h hv t ce)
     refine oV (by rw [hR,x1]) (by rw [hA,x2]) (VF h ?_ ?_ (afM hv))
     ·rw [Ox h hv t (by omega)]
      unfold jA
      simp only [k,Int.reduceBEq,cond_true,cond_false,dZ,iC (hn t),List.set_set,Option.bind_some,List.length_set]
      rfl
     ·unfold fK dJ;simp only [k,Int.reduceBEq,cond_true,cond_false]
    | abandon k t ce o w n=>
     simp only [k,Int.reduceBEq,cond_true,cond_false]at hR hA
     obtain⟨x,x1,x2⟩:=bs (anv hv t)
     refine oV (by rw [hR,x1]) (by rw [hA,x2]) (FJ ?_ ?_)
     ·rw [Ox h hv t (by omega)]
      unfold jA
      simp only [k,Int.reduceBEq,cond_true,cond_false,dZ,iC (hn t),List.set_set,Option.bind_some,List.length_set]
      rfl
     ·unfold fK dJ;simp only [k,Int.reduceBEq,cond_true,cond_false]
    | shed k t ce o w n=>
     simp only [k,Int.reduceBEq,cond_true,cond_false]at hR hA
     obtain⟨x,x1,x2⟩:=bs (atu h hv t n)
     refine oV (by rw [hR,x1]) (by rw [hA,x2]) ?_
     rcases n with n|n
     ·rw [n]
      simp only [Int.reduceBEq,cond_false]
      refine VF h ?_ ?_ (afM hv)
      ·rw [Ox h hv t (by omega)]
       unfold jA
       simp only [k,n,Int.reduceBEq,cond_true,cond_false,dZ,iC (hn t),List.set_set,Option.bind_some,List.length_set]
       rfl
      ·unfold fK dJ;simp only [k,n,Int.reduceBEq,cond_true,cond_false]
     ·rw [n]
      simp only [Int.reduceBEq,cond_true]
      refine FJ ?_ ?_
      ·rw [Ox h hv t (by omega)]
       unfold jA
       simp only [k,n,Int.reduceBEq,cond_true,cond_false,dZ,iC (hn t),List.set_set,Option.bind_some,List.length_set]
       rfl
      ·unfold fK dJ;simp only [k,n,Int.reduceBEq,cond_true,cond_false]
    | mode k t ce o w n=>
     simp only [k,Int.reduceBEq,cond_true,cond_false]at hR hA
     obtain⟨x,x1,x2⟩:=bs (atv hv ce)
     refine oV (by rw [hR,x1]) (by rw [hA,x2]) (FJ ?_ ?_)
     ·rw [adK h hv ce (by omega)]
      unfold Ch
      simp only [k,Int.reduceBEq,cond_true,cond_false,dZ,iC (hc ce),List.set_set,Option.bind_some,List.length_set]
      rfl
     ·unfold fK dJ;simp only [k,Int.reduceBEq,cond_true,cond_false]
    | want k t ce o w n=>
     simp only [k,Int.reduceBEq,cond_true,cond_false]at hR hA
     obtain⟨x,x1,x2⟩:=bs (atw h hv ce n)
     refine oV (by rw [hR,x1]) (by rw [hA,x2]) (FJ ?_ ?_)
     ·rw [adK h hv ce (by omega)]
      unfold Ch
      simp only [k,Int.reduceBEq,cond_true,cond_false,dZ,iC (hc ce),List.set_set,Option.bind_some,List.length_set]
      rfl
     ·unfold fK dJ;simp only [k,Int.reduceBEq,cond_true,cond_false]
    | runs k t ce o w n=>
     simp only [k,Int.reduceBEq,cond_true,cond_false]at hR hA
     obtain⟨x,x1,x2⟩:=bs (atx h hv ce n)
     refine oV (by rw [hR,x1]) (by rw [hA,x2]) (FJ ?_ ?_)
     ·rw [adK h hv ce (by omega)]
      unfold Ch
      simp only [k,Int.reduceBEq,cond_true,cond_false,dZ,iC (hc ce),List.set_set,Option.bind_some,List.length_set]
      rfl
     ·unfold fK dJ;simp only [k,Int.reduceBEq,cond_true,cond_false]
    |prove k t ce o w n=>
     simp only [k,Int.reduceBEq,cond_true,cond_false]at hR hA
     obtain⟨x,x1,x2⟩:=bs (arp h hv hV.1)
     unfold vOk at n
     have hvl:=h.vl
     refine oV (by rw [hR,x1]) (by rw [hA,x2]) (FJ ?_ ?_)
     ·rw [(VG h hv).1 k n.1,acG n.1 (by omega)]
     ·unfold fK dJ;simp only [k,Int.reduceBEq,cond_true,cond_false]
    | XW k t ce o w n=>
     simp only [k,Int.reduceBEq,cond_true,cond_false]at hR hA
     obtain⟨x,x1,x2⟩:=bs (aty (e:=e) hv)
     have aa4:=h.reg
     have hev:=hv.XW
     obtain⟨q1,q2⟩:=anz (a:=s.bg) (n:=e.Other) (by omega) (by omega)
     have hbk:fK e=some false:=by unfold fK dJ;simp only [k,Int.reduceBEq,cond_true,cond_false]
     by_cases hx:x=0
     ·subst hx
      refine oV (x:=0) (by rw [hR,x1]) (by rw [hA,x2]) (FJ ?_ hbk)
      rw [(VG h hv).2.1 k o.1]
      have hs:hasB s.bg e.Other≠(e.N==1):=by
       intro hq
       have:rV s e=some 4:=by
        unfold rV
        rw [aap (by omega),Option.bind_some,hq];simp
       rw [this]at x1;cases x1
      cases hq:(e.N==1)with
      |true=>
       rw [hq]at hs
       have:hasB s.bg e.Other=false:=by simpa using hs
       rw [cond_true,q1 this]
      |false=>
       rw [hq]at hs
       have:hasB s.bg e.Other=true:=by simpa using hs
       rw [cond_false,q2 this]
     ·have hx':(x !=0)=true:=by simpa using hx
      rw [Jk,hR,x1,hA,x2]
      unfold adJ
      rw [Option.bind_some,hx'];rfl
    |expand k t ce o w n=>
     simp only [k,Int.reduceBEq,cond_true,cond_false]at hR hA
     obtain⟨x,x1,x2⟩:=bs (ao9 (e:=e) h hv)
     refine oV (by rw [hR,x1]) (by rw [hA,x2]) (FJ ((VG h hv).2.2.1 k) ?_)
     unfold fK dJ;simp only [k,Int.reduceBEq,cond_true,cond_false]
    |contract k t ce o w n=>
     simp only [k,Int.reduceBEq,cond_true,cond_false]at hR hA
     obtain⟨x,x1,x2⟩:=bs (akO (s:=s) (e:=e))
     refine oV (by rw [hR,x1]) (by rw [hA,x2]) (FJ ((VG h hv).2.2.2.1 k) ?_)
     unfold fK dJ;simp only [k,Int.reduceBEq,cond_true,cond_false]
    |note k t ce o w n=>
     simp only [k,Int.reduceBEq,cond_true,cond_false]at hR hA
     refine oV (x:=0) (R:=(bump s e,0)) hR (by rw [hA];rfl) (FJ ((VG h hv).2.2.2.2 k) ?_)
     unfold fK dJ;simp only [k,Int.reduceBEq,cond_true,cond_false]
end
end Go.CP
namespace Go.CP
open Go
section
variable {c:ak}
theorem ajd [Fuel] {α:Type} (a b:α) {n k:Nat} (hk:k<n):(List.replicate k a++List.replicate (n - k) b).set k a=List.replicate (k+1) a++List.replicate (n - (k+1)) b:=by
 apply List.ext_getElem?
 intro j
 rw [List.getElem?_set]
 simp only [List.getElem?_append,List.length_replicate,List.getElem?_replicate,List.length_append]
 repeat' split
 all_goals first|rfl|(exfalso;omega)
theorem arq [Fuel] {α:Type} [Inhabited α] (a b:α) {n k:Nat} (hk:k<n):(List.replicate k a++List.replicate (n - k) b).getD k default=b:=by
 rw [List.getD_eq_getElem?_getD,List.getElem?_append_right (by simp),List.length_replicate,Nat.sub_self,List.getElem?_replicate,if_pos (by omega)];rfl
theorem anB [Fuel] (hc:VC c):QB c=some (newS c):=by
 have hct:=hc.tl
 have hcl:=hc.cl
 unfold QB
 rw [D5 (by omega),D5 (by omega)]
 simp only [Int.toNat_natCast,List.length_replicate]
 apply ai9
 refine yA (L:=λm x i=>uo ((c.ah.length:Nat):Int) m x i) c.ah.length (by omega) (λk x=>x={newS c with ah:=List.replicate k t0S++List.replicate (c.ah.length - k) default,Cells:=List.replicate c.Cells.length default}) (by simp [newS]) ?_ ?_
 ·rintro m k x hk rfl ih
  show Ok (uo _ (m+1) _ k) _
  rw [uo,nQ (by omega),dL (by omega) (by simp;omega),Int.toNat_natCast,bA (by omega) (by omega)]
  unfold dZ
  refine ih _ ?_
  have:=ajd t0S (default:ay) hk
  simp only
  rw [<-this];rfl
 ·rintro m x rfl
  show Ok (uo _ (m+1) _ _) _
  rw [uo,nG (by omega)]
  simp only [List.length_replicate,Nat.sub_self,List.replicate_zero,List.append_nil]
  refine yA (L:=λm x i=>um ((c.Cells.length:Nat):Int) m x i) c.Cells.length (by omega) (λk x=>x={newS c with Cells:=List.replicate k c0S++List.replicate (c.Cells.length - k) default}) (by simp [newS]) ?_ ?_
  ·rintro m k x hk rfl ih
   show Ok (um _ (m+1) _ k) _
   rw [um,nQ (by omega),dL (by omega) (by simp;omega),Int.toNat_natCast,bA (by omega) (by omega)]
   unfold dZ
   refine ih _ ?_
   have:=ajd c0S (default:aH) hk
   simp only
   rw [arq _ _ hk,<-this];rfl
  ·rintro m x rfl
   show Ok (um _ (m+1) _ _) _
   rw [um,nG (by omega)]
   refine Ok.some ?_
   simp [newS]
end
end Go.CP
namespace Go.CP
open Go
def asn (a b:Int):Int:=if a<b then -1 else if b<a then 1 else 0
theorem akR [Fuel] (a b:Int):cmp_Compare_int a b=some (asn a b):=by
 unfold cmp_Compare_int cmp_isNaN_int asn
 simp only [Option.bind_some,bne_self_eq_false,cond_false]
 by_cases h1:a<b
 ·simp [h1]
 ·by_cases h2:b<a
  ·simp [h1,h2]
  ·simp [h1,h2]
theorem afN [Fuel] {α:Type} {a b:Int} {x y:α} (h:a≠b):(bif a !=b then x else y)=x:=by
 have:(a !=b)=true:=by rw [bne_iff_ne];exact h
 rw [this];rfl
theorem aje [Fuel] {α:Type} {a:Int} {x y:α}:(bif a !=a then x else y)=y:=by rw [bne_self_eq_false];rfl
theorem ahO [Fuel] (a b:Int):decide (asn a b<0)=decide (a<b):=by
 unfold asn
 by_cases h1:a<b
 ·simp [h1]
 ·by_cases h2:b<a
  ·simp [h1,h2]
  ·simp [h1,h2]
theorem anC [Fuel] (a b:Int):(asn a b !=0)=(a !=b):=by
 unfold asn
 by_cases h1:a<b
 ·rw [if_pos h1];have:a≠b:=by omega
  simp [this]
 ·by_cases h2:b<a
  ·rw [if_neg h1,if_pos h2];have:a≠b:=by omega
   simp [this]
  ·rw [if_neg h1,if_neg h2];have:a=b:=by omega
   simp [this]
section
variable {c:ak}
end
end Go.CP
namespace Go.CP
open Go
section
variable {c:ak} {s:aB}
def aCq (e:aA) (i:Int):bE:={aD:=e.aD,Index:=i,Window:=atq e}
def atz (e:aA) (x:bE):bE:=bif x.aD==e.aD then {x with Window:=adD x.Window e.Tick}else x
def spN (e:aA) (i:Int) (sp:List bE):List bE:=bif e.Kind==2 then sp++ [aCq e i]else bif e.Kind==3 then sp.map (atz e)else sp
structure SpI (c:ak) (n:Nat) (sp:List bE):Prop where
 len:sp.length<=n
 idx:sp.Pairwise (λa b=>a.Index<b.Index)
 rng:∀x∈sp,(0<=x.Index/\x.Index<(n:Int))/\(0<=x.aD/\x.aD<((c.ah.length:Nat):Int))/\x.Window.From<=x.Window.Until/\0<=x.Window.From/\x.Window.Until<=1073741824
theorem ars [Fuel] {w:aT} {t:Int} (h:w.From<=w.Until/\0<=w.From/\w.Until<=1073741824) (ht:0<=t):(adD w t).From<=(adD w t).Until/\0<=(adD w t).From/\(adD w t).Until<=1073741824:=by
 unfold adD Qq;simp only;split<;>split<;>(try split)<;>omega
theorem ajf [Fuel] (e:aA) (x:bE):(atz e x).Index=x.Index/\(atz e x).aD=x.aD:=by
 unfold atz;cases (x.aD==e.aD)<;>exact⟨rfl,rfl⟩
theorem atA [Fuel] {e:aA} {s':aB} (hs:Step c s e s') (hk:e.Kind=2):tOk c e/\cOk c e/\(1<=e.Epoch/\e.Epoch<=1048576)/\(0<=e.From/\e.From<=1073741824/\0<=e.Until/\e.Until<=1073741824)/\e.From<e.Until/\e.Tick<=e.From/\e.From<=e.Tick+c.Lease/\e.Until - e.From<=c.Lease/\(tAt s e.aD).Window.Until<=e.From/\(e.Cell≠(tAt s e.aD).Home->(tAt s e.aD).Window.Until<=e.Tick)/\((e.Cell=(tAt s e.aD).Home/\e.Epoch=(tAt s e.aD).Epoch)\/e.Epoch=(tAt s e.aD).Epoch+1)/\s'=Bq (bump s e) e.aD (yY (tAt s e.aD) e):=by
 cases hs with
 |grant k t ce ep w n pl sh cl m1 m2 eq v1 v2 w1 w2 w3 w4 w5 w6 fit=>exact⟨t,ce,ep,w,w3,w1,w2,w4,w5,w6,eq,rfl⟩
 |_=>omega
theorem SpI.next [Fuel] {n:Nat} {sp:List bE} (h:SpI c n sp) {e:aA} {s':aB} (ht:0<=e.Tick) (hs:Step c s e s'):SpI c (n+1) (spN e (n:Int) sp):=by
 unfold spN
 by_cases k2:e.Kind=2
 ·have kb:(e.Kind==2)=true:=by simpa using k2
  rw [kb,cond_true]
  obtain⟨g1,g2,g3,g4,g5,_⟩:=atA hs k2
  refine⟨by have:=h.len;simp;omega,?_,λx hx=> ?_⟩
  ·rw [List.pairwise_append]
   refine⟨h.idx,List.pairwise_singleton _ _,λa ha b hb=> ?_⟩
   rw [List.mem_singleton.1 hb]
   have:=(h.rng a ha).1
   show a.Index<(n:Int)
   omega
  ·rcases List.mem_append.1 hx with q|q
   ·obtain⟨r1,r2,r3⟩:=h.rng x q
    exact⟨⟨r1.1,by push_cast;omega⟩,r2,r3⟩
   ·rw [List.mem_singleton.1 q]
    unfold tOk at g1
    exact⟨⟨by show 0<=(n:Int);omega,by show(n:Int)<_;push_cast;omega⟩,g1,by show e.From<=e.Until;omega,g4.1,g4.2.2.2⟩
 ·have kb:(e.Kind==2)=false:=by simpa using k2
  rw [kb,cond_false]
  by_cases k3:e.Kind=3
  ·have kb:(e.Kind==3)=true:=by simpa using k3
   rw [kb,cond_true]
   refine⟨by have:=h.len;simp;omega,?_,λx hx=> ?_⟩
   ·rw [List.pairwise_map]
    refine h.idx.imp (λ{a b} q=> ?_)
    rw [(ajf e a).1,(ajf e b).1];exact q
   ·obtain⟨y,hy,rfl⟩:=List.mem_map.1 hx
    obtain⟨r1,r2,r3⟩:=h.rng y hy
    rw [(ajf e y).1,(ajf e y).2]
    refine⟨⟨r1.1,by push_cast;omega⟩,r2,?_⟩
    unfold atz
    cases (y.aD==e.aD)with
    |true=>exact ars r3 ht
    |false=>exact r3
  ·have kb:(e.Kind==3)=false:=by simpa using k3
   rw [kb,cond_false]
   exact⟨by have:=h.len;omega,h.idx,λx hx=>by obtain⟨r1,r2,r3⟩:=h.rng x hx;exact⟨⟨r1.1,by push_cast;omega⟩,r2,r3⟩⟩
end
end Go.CP
namespace Go.CP
open Go
variable {c:ak}
theorem xq [Fuel] {a lo hi:Int} (h:lo<=a/\a<=hi):dH a lo hi=some true:=by
 unfold dH;rw [decide_eq_true h.1,decide_eq_true h.2];rfl
theorem MU [Fuel] {a lo hi:Int} (h:lo<=a/\a<=hi):lg a lo hi=some true:=by
 unfold lg;rw [decide_eq_true h.1,decide_eq_true h.2];rfl
theorem abo [Fuel] (h:VC c):KT c=some true:=by
 have a1:dH c.bK 1 4=some true:=xq (by have:=h.reg;omega)
 have a2:dH ((c.kT.length:Nat):Int) 1 8=some true:=xq (by have:=h.zl;omega)
 have a3:dH ((c.Cells.length:Nat):Int) 1 16=some true:=xq (by have:=h.cl;omega)
 have a4:dH ((c.bf.length:Nat):Int) 1 30=some true:=xq (by have:=h.vl;omega)
 have a5:dH ((c.bO.length:Nat):Int) 1 5=some true:=xq (by have:=h.rl;omega)
 have a6:dH ((c.cB.length:Nat):Int) 1 9=some true:=xq (by have:=h.ol;omega)
 unfold KT
 simp only [a1,a2,a3,a4,a5,a6,Option.bind_some,cond_true,Bool.and_self,Bool.true_and]
 rw [decide_eq_true (by have:=h.tl;omega)]
theorem afO [Fuel] {β:Type} {L:Nat->Int->Option β} {r:β} (n:Nat) (hn:n<18446744073709551616) (step:∀(m k:Nat),k<n->L (m+1) (k:Int)=L m ((k:Int)+1)) (done:∀m,L (m+1) (n:Int)=some r):L fuel 0=some r:=by
 have key:∀(m k:Nat),k<=n->n - k<m->L m (k:Int)=some r:=by
  intro m
  induction m with
  |zero=>intro k _ h;omega
  | succ m ih=>
   intro k hk hm
   by_cases h:k<n
   ·rw [step m k h]
    have:=ih (k+1) (by omega) (by omega)
    simpa using this
   ·have:k=n:=by omega
    subst this
    exact done m
 exact key fuel 0 (Nat.zero_le _) (by rw [lX];omega)
theorem iG [Fuel] {α:Type} [Inhabited α] {xs:List α} {k:Nat} (h:k<xs.length):xs.getD k default∈xs:=by
 rw [List.getD_eq_getElem?_getD,List.getElem?_eq_getElem h];exact List.getElem_mem h
theorem adL [Fuel] (h:VC c):NH c=some true:=by
 have hz:=h.zl
 have hcl:=h.cl
 have hrl:=h.rl
 have hol:=h.ol
 have aa4:=h.reg
 unfold NH
 refine afO c.kT.length (by omega) (λm k hk=> ?_) (λm=> ?_)
 ·have hx:=h.z _ (iG hk)
  rw [Ah,nQ (by omega),dL (by omega) (by omega),bA (by omega) (by omega),bA (by omega) (by omega)]
  have e:dH (c.kT.getD (k:Int).toNat default).Region 0 (c.bK - 1)=some true:=xq (by simp only [Int.toNat_natCast];omega)
  rw [e];rfl
 ·rw [Ah,nG (by omega),bA (by omega) (by omega)]
  refine afO c.Cells.length (by omega) (λm k hk=> ?_) (λm=> ?_)
  ·have hx:=h.cel _ (iG hk)
   rw [Ag,nQ (by omega),dL (by omega) (by omega),bA (by omega) (by omega)]
   have e:dH (c.Cells.getD (k:Int).toNat default).Zone 0 (((c.kT.length:Nat):Int) - 1)=some true:=xq (by simp only [Int.toNat_natCast];omega)
   rw [e];rfl
  ·rw [Ag,nG (by omega)]
   refine afO c.bO.length (by omega) (λm k hk=> ?_) (λm=> ?_)
   ·have hx:=h.r _ (iG hk)
    rw [Af,nQ (by omega),dL (by omega) (by omega),bA (by omega) (by omega)]
    have e:dH (c.bO.getD (k:Int).toNat default) 0 (((c.kT.length:Nat):Int) - 1)=some true:=xq (by simp only [Int.toNat_natCast];omega)
    rw [e];rfl
   ·rw [Af,nG (by omega)]
    refine afO c.cB.length (by omega) (λm k hk=> ?_) (λm=> ?_)
    ·have hx:=h.o _ (iG hk)
     rw [Ae,nQ (by omega),dL (by omega) (by omega),bA (by omega) (by omega)]
     have e:dH (c.cB.getD (k:Int).toNat default) 0 (((c.kT.length:Nat):Int) - 1)=some true:=xq (by simp only [Int.toNat_natCast];omega)
     rw [e];rfl
    ·rw [Ae,nG (by omega)]
theorem adM [Fuel] (h:VC c):NI c=some true:=by
 have hcl:=h.cl
 have hvl:=h.vl
 unfold NI
 refine afO c.Cells.length (by omega) (λm k hk=> ?_) (λm=> ?_)
 ·have hx:=h.cel _ (iG hk)
  rw [Aj,nQ (by omega),dL (by omega) (by omega),bA (by omega) (by omega)]
  have e:dH (c.Cells.getD (k:Int).toNat default).kS 1 4194304=some true:=xq (by simp only [Int.toNat_natCast];omega)
  rw [e];rfl
 ·rw [Aj,nG (by omega)]
  refine afO c.bf.length (by omega) (λm k hk=> ?_) (λm=> ?_)
  ·have hx:=h.v _ (iG hk)
   rw [Ai,nQ (by omega),dL (by omega) (by omega),bA (by omega) (by omega)]
   simp only [Int.toNat_natCast]
   rw [decide_eq_false (by omega),decide_eq_false (by omega),decide_eq_false (by omega)]
   have e:((((k:Int)==0)&&((c.bf.getD k default).Low !=0)))=false:=by
    by_cases hk0:k=0
    ·subst hk0;rw [h.v0];rfl
    ·have:((k:Int)==0)=false:=by simp;omega
     rw [this];rfl
   rw [e];rfl
  ·rw [Ai,nG (by omega),xq (by have:=h.blast;omega),xq (by have:=h.adA;omega),xq (by have:=h.bake;omega)];rfl
theorem afP [Fuel] (h:VC c):R9 c=some 0:=by
 have e:(Int.tmod ((c.bO.length:Nat):Int) 2==0)=false:=by
  have h1:=h.ro
  have:Int.tmod ((c.bO.length:Nat):Int) 2=1:=by
   rw [Int.tmod_eq_emod_of_nonneg (by omega)];omega
  rw [this];rfl
 unfold R9
 rw [abo h,e]
 simp only [Option.bind_some,Bool.not_true,Bool.not_false,cond_false,cond_true,adL h,adM h,Bool.false_or,Bool.or_self]
theorem ahP [Fuel] {r:Int} (hr:1<=r/\r<=3) {x:aW} (h:VT r x):Bf x r=some true:=by
 obtain⟨s1,s2⟩:=am3 hr
 unfold Bf
 rw [MU h.load,MU h.shadow,MU h.prio,MU h.lag,s2,MU (a:=x.Allowed) (by have:=h.allowed;omega),MU h.group]
 simp only [Option.bind_some,cond_true,Bool.and_self,arf s1]
theorem Gs [Fuel] (h:VC c):ug c=some 0:=by
 unfold ug
 rw [afP h]
 show sQ c c.ah ((c.ah.length:Nat):Int) fuel 0=some 0
 have ht:=h.tl
 refine afO c.ah.length (by omega) (λm k hk=> ?_) (λm=> ?_)
 ·rw [sQ,nQ (by omega),dL (by omega) (by omega),bA (by omega) (by omega),ahP h.reg (h.t _ (by simp only [Int.toNat_natCast];exact iG hk))];rfl
 ·rw [sQ,nG (by omega)]
end Go.CP
namespace Go.CP
open Go
variable {p:aF} {l X:List aK}
structure PV (p:aF):Prop where
 vc:VC p.Config
 cells:p.Cells=2^p.Config.Cells.length - 1
 hr:p.FW=false
 g:∀x∈p.Config.ah,x.sH=0/\x.Lp=false
structure PF (p:aF) (l:List aK):Prop where
 len:l.length=p.Config.ah.length
 ok:∀i,i<l.length-> -1<=(l.getD i default).Home/\(l.getD i default).Home<(p.Config.Cells.length:Int)/\ -1<=(l.getD i default).aN/\(l.getD i default).aN<(p.Config.Cells.length:Int)
theorem anD [Fuel] (hp:PV p) (hf:PF p l):DF p l=some true:=by
 have hcl:=hp.vc.cl
 have htl:=hp.vc.tl
 have hlen:=hf.len
 unfold DF
 rw [Gs hp.vc]
 have e:(((0:Int) !=0)||(((l.length:Nat):Int) !=((p.Config.ah.length:Nat):Int)))=false:=by rw [hlen];simp
 simp only [Option.bind_some,e,cond_false]
 refine afO l.length (by omega) (λm k hk=> ?_) (λm=> ?_)
 ·have hx:=hf.ok k hk
  rw [GR,nQ (by omega),dL (by omega) (by omega),bA (by omega) (by omega)]
  simp only [Int.toNat_natCast]
  rw [decide_eq_false (by omega),decide_eq_false (by omega),decide_eq_false (by omega),decide_eq_false (by omega)]
  rfl
 ·rw [GR,nG (by omega)]
def bkN (c:ak) (l:List aK) (j:Nat):Nat->Int
 |0=>0
 |n+1=>bkN c l j n+(if(l.getD n default).Home=(j:Int)then(c.ah.getD n default).Load else 0)+(if(l.getD n default).aN=(j:Int)then(c.ah.getD n default).pJ else 0)
theorem ajg [Fuel] {c:ak} (hc:VC c) (l:List aK) (j:Nat):∀n,n<=c.ah.length->0<=bkN c l j n/\bkN c l j n<=131072*(n:Int)
 |0,_=>by simp [bkN]
 |n+1,h=>by
  obtain⟨h1,h2⟩:=ajg hc l j n (by omega)
  have ht:=hc.t _ (iG (show n<c.ah.length by omega))
  have h3:=ht.load
  have h4:=ht.shadow
  rw [bkN]
  split<;>split<;>omega
theorem getD_set_ne [Fuel] {α:Type} [Inhabited α] {xs:List α} {i j:Nat} {a:α} (h:i≠j):(xs.set i a).getD j default=xs.getD j default:=by
 rw [List.getD_eq_getElem?_getD,List.getD_eq_getElem?_getD,List.getElem?_set_ne h]
theorem aau [Fuel] {xs:List Int} {i j n:Nat} {f:Nat->Int} {a:Int} (hl:xs.length=n) (hi:i<n) (hx:∀j,j<n->xs.getD j default=f j) (hj:j<n):
  (xs.set i (xs.getD i default+a)).getD j default=f j+(if(i:Int)=(j:Int)then a else 0):=by
 by_cases h:i=j
 ·subst h;rw [iC (by omega),if_pos rfl,hx i hi]
 ·rw [getD_set_ne h,if_neg (by omega),hx j hj];omega
theorem ajh [Fuel] (hp:PV p) (hf:PF p l):Ok (GU p l) (λb=>b.length=p.Config.Cells.length∧∀j,j<p.Config.Cells.length->b.getD j default=bkN p.Config l j p.Config.ah.length):=by
 have hcl:=hp.vc.cl
 have htl:=hp.vc.tl
 have hlen:=hf.len
 unfold GU
 rw [anD hp hf]
 simp only [Option.bind_some,Bool.not_true,cond_false]
 refine Ok.chk (dT (by omega)) ?_
 refine yA (L:=λm x i=>jY p l ((l.length:Nat):Int) m x i) l.length (by omega) (λk b=>b.length=p.Config.Cells.length∧∀j,j<p.Config.Cells.length->b.getD j default=bkN p.Config l j k) ⟨by simp,λj hj=> ?_⟩ (λm k b hk hb ih=> ?_) (λm b hb=> ?_)
 ·rw [List.getD_eq_getElem?_getD,List.getElem?_replicate,if_pos (by simpa using hj)];rfl
 ·obtain⟨hb1,hb2⟩:=hb
  have hx:=hf.ok k hk
  have ht:=hp.vc.t _ (iG (show k<p.Config.ah.length by omega))
  have hL:=ht.load
  have hS:=ht.shadow
  show Ok (jY p l ((l.length:Nat):Int) (m+1) b (k:Int)) _
  rw [jY,nQ (by omega),dL (by omega) (by omega)]
  simp only [Int.toNat_natCast]
  -- behind the JY
  have k2:∀(b':List Int),b'.length=p.Config.Cells.length->(∀j,j<p.Config.Cells.length->b'.getD j default=bkN p.Config l j k+(if(l.getD k default).Home=(j:Int)then(p.Config.ah.getD k default).Load else 0))→
    Ok (yg (jY p l ((l.length:Nat):Int) m) p (k:Int) (l.getD k default) b' (k:Int)) (λb=>b.length=p.Config.Cells.length∧∀j,j<p.Config.Cells.length->b.getD j default=bkN p.Config l j p.Config.ah.length):=by
   intro b' h1 h2
   unfold yg DI
   rw [bA (x:=(k:Int)+1) (by omega) (by omega)]
   refine Ok.cond (λh=> ?_) (λh=> ?_)
   ·have h:(l.getD k default).aN≠-1:=by simpa using h
    have hi:(l.getD k default).aN.toNat<p.Config.Cells.length:=by omega
    rw [dL (by omega) (by omega),dL (by omega) (by omega),dL (by omega) (by omega)]
    simp only [Int.toNat_natCast,dZ]
    have hv:=h2 _ hi
    have hbd:=ajg hp.vc l (l.getD k default).aN.toNat k (by omega)
    have hw:w64 (b'.getD (l.getD k default).aN.toNat default+(p.Config.ah.getD k default).pJ)=b'.getD (l.getD k default).aN.toNat default+(p.Config.ah.getD k default).pJ:=by
     rw [hv];split<;>exact bA (by omega) (by omega)
    rw [hw]
    refine ih _ ⟨by rw [List.length_set];exact h1,λj hj=> ?_⟩
    rw [aau h1 hi h2 hj,bkN]
    have:(((l.getD k default).aN.toNat:Nat):Int)=(l.getD k default).aN:=by omega
    rw [this]
   ·have h:(l.getD k default).aN= -1:=by simpa using h
    refine ih _ ⟨h1,λj hj=> ?_⟩
    rw [h2 j hj,bkN,if_neg (c:=(l.getD k default).aN=(j:Int)) (by omega)];omega
  refine Ok.cond (λh=> ?_) (λh=> ?_)
  ·have h:(l.getD k default).Home≠-1:=by simpa using h
   have hi:(l.getD k default).Home.toNat<p.Config.Cells.length:=by omega
   rw [dL (by omega) (by omega),dL (by omega) (by omega),dL (by omega) (by omega)]
   simp only [Int.toNat_natCast,dZ]
   have hv:=hb2 _ hi
   have hbd:=ajg hp.vc l (l.getD k default).Home.toNat k (by omega)
   have hw:w64 (b.getD (l.getD k default).Home.toNat default+(p.Config.ah.getD k default).Load)=b.getD (l.getD k default).Home.toNat default+(p.Config.ah.getD k default).Load:=by
    rw [hv];exact bA (by omega) (by omega)
   rw [hw]
   refine k2 _ (by rw [List.length_set];exact hb1) (λj hj=> ?_)
   rw [aau hb1 hi hb2 hj]
   have:(((l.getD k default).Home.toNat:Nat):Int)=(l.getD k default).Home:=by omega
   rw [this]
  ·have h:(l.getD k default).Home= -1:=by simpa using h
   refine k2 _ hb1 (λj hj=> ?_)
   rw [hb2 j hj,if_neg (by omega)];omega
 ·show Ok (jY p l ((l.length:Nat):Int) (m+1) b ((l.length:Nat):Int)) _
  rw [jY,nG (by omega)]
  exact Ok.some ⟨hb.1,by rw [<-hlen];exact hb.2⟩
end Go.CP
namespace Go.CP
open Go
variable {p:aF} {l X:List aK}
theorem apa [Fuel]:∀n:Nat,n<=16→∀j:Nat,j<n->jK .i64 (oI .i64 ((2:Int)^n - 1) (j:Int)) 1=1:=by
 have h:∀n:Fin 17,∀j:Fin 16,j.1<n.1->jK .i64 (oI .i64 ((2:Int)^n.1 - 1) (j.1:Int)) 1=1:=by decide+kernel
 intro n hn j hj
 exact h ⟨n,by omega⟩ ⟨j,by omega⟩ hj
theorem Sy [Fuel] (hp:PV p) {k:Int} (h0:0<=k) (h1:k<(p.Config.Cells.length:Int)):jK .i64 (oI .i64 p.Cells k) 1=1:=by
 have hcl:=hp.vc.cl
 have:=apa p.Config.Cells.length hcl.2 k.toNat (by omega)
 rw [hp.cells]
 rwa [show((k.toNat:Nat):Int)=k by omega]at this
theorem atB [Fuel] (hp:PV p) {k:Int} (h0:0<=k) (h1:k<(p.Config.Cells.length:Int)):QV p.Cells k=some true:=by
 have hcl:=hp.vc.cl
 unfold QV
 rw [XY (by rw [dT (show(0:Int)<=k from h0)];simp),Sy hp h0 h1,dT (show(0:Int)<=k from h0),dT (show k<64 by omega)]
 rfl
theorem apb [Fuel] (hp:PV p) (hf:PF p l):K3 p l=some []:=by
 have htl:=hp.vc.tl
 have hlen:=hf.len
 have e:Si 3 l p=some ([],p):=by
  unfold Si
  apply ai9
  refine yA (L:=λm x i=>lI 3 l p ((l.length:Nat):Int) m x i) l.length (by omega) (λ_ x=>x= []) rfl ?_ ?_
  ·rintro m k x hk rfl ih
   show Ok (lI 3 l p ((l.length:Nat):Int) (m+1) [] (k:Int)) _
   have hx:=hf.ok k hk
   rw [lI,nQ (by omega),dL (by omega) (by omega)]
   simp only [Int.toNat_natCast]
   refine yA (L:=λm' x i=>pE (lI 3 l p ((l.length:Nat):Int) m) 3 p (k:Int) (k:Int) [(l.getD k default).Home,(l.getD k default).aN] (([(l.getD k default).Home,(l.getD k default).aN].length:Nat):Int) m' x i) 2 (by omega) (λ_ x=>x= []) rfl ?_ ?_
   ·rintro m' q x hq rfl ih2
    show Ok (pE (lI 3 l p ((l.length:Nat):Int) m) 3 p (k:Int) (k:Int) [(l.getD k default).Home,(l.getD k default).aN] (([(l.getD k default).Home,(l.getD k default).aN].length:Nat):Int) (m'+1) [] (q:Int)) _
    rw [pE,nQ (by show(q:Int)<((2:Nat):Int);omega),dL (by omega) (by show(q:Int)<((2:Nat):Int);omega)]
    simp only [Int.toNat_natCast]
    have hv: -1<= [(l.getD k default).Home,(l.getD k default).aN].getD q default/\ [(l.getD k default).Home,(l.getD k default).aN].getD q default<(p.Config.Cells.length:Int):=by
     match q,hq with
     |0,_=>exact⟨hx.1,hx.2.1⟩
     |1,_=>exact⟨hx.2.2.1,hx.2.2.2⟩
     |q+2,hq=>omega
    generalize [(l.getD k default).Home,(l.getD k default).aN].getD q default=cell at hv
    unfold IY
    rw [bA (x:=(q:Int)+1) (by omega) (by omega)]
    by_cases hc:cell= -1
    ·subst hc
     exact ih2 _ rfl
    ·have hb:(cell != -1)=true:=by simpa using hc
     have hu:qR (k:Int) cell p=some false:=by
      unfold qR;rw [atB hp (by omega) hv.2];rfl
     rw [hb,hu]
     exact ih2 _ rfl
   ·rintro m' x rfl
    show Ok (pE (lI 3 l p ((l.length:Nat):Int) m) 3 p (k:Int) (k:Int) [(l.getD k default).Home,(l.getD k default).aN] (([(l.getD k default).Home,(l.getD k default).aN].length:Nat):Int) (m'+1) [] ((2:Nat):Int)) _
    rw [pE,nG (by show¬(((2:Nat):Int)<((2:Nat):Int));omega),bA (by omega) (by omega)]
    exact ih _ rfl
  ·rintro m x rfl
   show Ok (lI 3 l p ((l.length:Nat):Int) (m+1) [] ((l.length:Nat):Int)) _
   rw [lI,nG (by omega)]
   exact Ok.some rfl
 unfold K3
 rw [e];rfl
theorem akS [Fuel] (hp:PV p) (b:List Int):Gf p l b=some []:=by
 unfold Gf
 rw [hp.hr];rfl
end Go.CP
namespace Go.CP
open Go
variable {p:aF} {l X:List aK}
theorem aru [Fuel] (hp:PV p) {a b:Int} (h0:0<=a) (h1:a<(p.Config.ah.length:Int)) (h2:0<=b) (h3:b<(p.Config.ah.length:Int)):tC a b p l=some false:=by
 have hg:=(hp.g _ (iG (show a.toNat<p.Config.ah.length by omega))).1
 unfold tC
 rw [dL h0 h1,hg]
 rfl
theorem arv [Fuel] (hp:PV p) {a b:Int} (h0:0<=a) (h1:a<(p.Config.ah.length:Int)) (h2:0<=b) (h3:b<(p.Config.ah.length:Int)):tF a b p l=some false:=by
 have hg:=(hp.g _ (iG (show a.toNat<p.Config.ah.length by omega))).2
 unfold tF
 rw [dL h0 h1,hg]
 rfl
theorem arw [Fuel] (hp:PV p) (hf:PF p l):Od p l=some []:=by
 have htl:=hp.vc.tl
 have hlen:=hf.len
 have e:Oc 6 l p l=some ([],p,l):=by
  unfold Oc
  apply ai9
  refine yA (L:=λm x i=>jZ 6 l p l ((l.length:Nat):Int) m x i) l.length (by omega) (λ_ x=>x= []) rfl ?_ ?_
  ·rintro m k x hk rfl ih
   show Ok (jZ 6 l p l ((l.length:Nat):Int) (m+1) [] (k:Int)) _
   rw [jZ,nQ (by omega)]
   refine yA (L:=λm' x i=>nA (jZ 6 l p l ((l.length:Nat):Int) m) 6 l p l (k:Int) (k:Int) (k:Int) m' x i) k (by omega) (λ_ x=>x= []) rfl ?_ ?_
   ·rintro m' q x hq rfl ih2
    show Ok (nA (jZ 6 l p l ((l.length:Nat):Int) m) 6 l p l (k:Int) (k:Int) (k:Int) (m'+1) [] (q:Int)) _
    rw [nA,nQ (by omega),dL (by omega) (by omega),ahF (by omega) (by omega)]
    unfold Ga
    rw [bA (x:=(q:Int)+1) (by omega) (by omega),aru hp (by omega) (by omega) (by omega) (by omega)]
    have hd:(bif(((l.getD (k:Int).toNat default).Home !=(-1))&&((l.getD (q:Int).toNat default).Home !=(-1)))then some false else some default)=some false:=by cases (((l.getD (k:Int).toNat default).Home !=(-1))&&((l.getD (q:Int).toNat default).Home !=(-1)))<;>rfl
    rw [hd]
    simp only [Option.bind_some,Bool.and_false,cond_false]
    exact ih2 _ rfl
   ·rintro m' x rfl
    show Ok (nA (jZ 6 l p l ((l.length:Nat):Int) m) 6 l p l (k:Int) (k:Int) (k:Int) (m'+1) [] (k:Int)) _
    rw [nA,nG (by omega),bA (by omega) (by omega)]
    exact ih _ rfl
  ·rintro m x rfl
   show Ok (jZ 6 l p l ((l.length:Nat):Int) (m+1) [] ((l.length:Nat):Int)) _
   rw [jZ,nG (by omega)]
   exact Ok.some rfl
 unfold Od
 rw [e];rfl
theorem arx [Fuel] (hp:PV p) (hf:PF p l):Og p l=some []:=by
 have htl:=hp.vc.tl
 have hlen:=hf.len
 have e:Gb 7 l p l=some ([],p,l):=by
  unfold Gb
  apply ai9
  refine yA (L:=λm x i=>iA 7 l p l ((l.length:Nat):Int) m x i) l.length (by omega) (λ_ x=>x= []) rfl ?_ ?_
  ·rintro m k x hk rfl ih
   show Ok (iA 7 l p l ((l.length:Nat):Int) (m+1) [] (k:Int)) _
   rw [iA,nQ (by omega)]
   refine yA (L:=λm' x i=>jG (iA 7 l p l ((l.length:Nat):Int) m) 7 l p l (k:Int) (k:Int) (k:Int) m' x i) k (by omega) (λ_ x=>x= []) rfl ?_ ?_
   ·rintro m' q x hq rfl ih2
    show Ok (jG (iA 7 l p l ((l.length:Nat):Int) m) 7 l p l (k:Int) (k:Int) (k:Int) (m'+1) [] (q:Int)) _
    rw [jG,nQ (by omega),dL (by omega) (by omega),ahF (by omega) (by omega)]
    unfold yP
    rw [bA (x:=(q:Int)+1) (by omega) (by omega),arv hp (by omega) (by omega) (by omega) (by omega)]
    have hd:(bif(((l.getD (k:Int).toNat default).Home !=(-1))&&((l.getD (q:Int).toNat default).Home !=(-1)))then some false else some default)=some false:=by cases (((l.getD (k:Int).toNat default).Home !=(-1))&&((l.getD (q:Int).toNat default).Home !=(-1)))<;>rfl
    rw [hd]
    simp only [Option.bind_some,Bool.and_false,cond_false]
    exact ih2 _ rfl
   ·rintro m' x rfl
    show Ok (jG (iA 7 l p l ((l.length:Nat):Int) m) 7 l p l (k:Int) (k:Int) (k:Int) (m'+1) [] (k:Int)) _
    rw [jG,nG (by omega),bA (by omega) (by omega)]
    exact ih _ rfl
  ·rintro m x rfl
   show Ok (iA 7 l p l ((l.length:Nat):Int) (m+1) [] ((l.length:Nat):Int)) _
   rw [iA,nG (by omega)]
   exact Ok.some rfl
 unfold Og
 rw [e];rfl
end Go.CP
namespace Go.CP
open Go
variable {p:aF} {l X:List aK} {C:Prop}
theorem anE [Fuel] (hp:PV p) (hf:PF p l) (hc:C→∀k,k<l.length->((l.getD k default).Home≠-1->Ou p.Config (k:Int) (l.getD k default).Home=true)/\((l.getD k default).aN≠-1->Ou p.Config (k:Int) (l.getD k default).aN=true)):
  Ok (IZ p l) (λr=>r.length<=64/\(C->r= [])):=by
 have htl:=hp.vc.tl
 have hlen:=hf.len
 unfold IZ
 refine Ok.bind (P:=λr=>r.1.length<=64/\(C->r.1= [])) ?_ (λr hr=>Ok.some hr)
 unfold N9
 refine yA (L:=λm x i=>iW 4 l p ((l.length:Nat):Int) m x i) l.length (by omega) (λk x=>x.length<=2*k/\(C->x= [])) ⟨Nat.le_refl _,λ_=>rfl⟩ ?_ ?_
 ·rintro m k x hk ⟨hx1,hx2⟩ ih
  show Ok (iW 4 l p ((l.length:Nat):Int) (m+1) x (k:Int)) _
  rw [iW,nQ (by omega),dL (by omega) (by omega)]
  simp only [Int.toNat_natCast]
  refine yA (L:=λm' x i=>kE (iW 4 l p ((l.length:Nat):Int) m) 4 p (k:Int) (k:Int) [(l.getD k default).Home,(l.getD k default).aN] (([(l.getD k default).Home,(l.getD k default).aN].length:Nat):Int) m' x i) 2 (by omega) (λq x=>x.length<=2*k+q/\(C->x= [])) ⟨hx1,hx2⟩ ?_ ?_
  ·rintro m' q y hq ⟨hy1,hy2⟩ ih2
   show Ok (kE (iW 4 l p ((l.length:Nat):Int) m) 4 p (k:Int) (k:Int) [(l.getD k default).Home,(l.getD k default).aN] (([(l.getD k default).Home,(l.getD k default).aN].length:Nat):Int) (m'+1) y (q:Int)) _
   rw [kE,nQ (by show(q:Int)<((2:Nat):Int);omega),dL (by omega) (by show(q:Int)<((2:Nat):Int);omega)]
   simp only [Int.toNat_natCast]
   have hv:C-> [(l.getD k default).Home,(l.getD k default).aN].getD q default≠-1->Ou p.Config (k:Int) ([(l.getD k default).Home,(l.getD k default).aN].getD q default)=true:=by
    intro h
    match q,hq with
    |0,_=>exact(hc h k hk).1
    |1,_=>exact(hc h k hk).2
    |q+2,hq=>omega
   generalize [(l.getD k default).Home,(l.getD k default).aN].getD q default=cell at hv
   unfold Bl
   rw [bA (x:=(q:Int)+1) (by omega) (by omega)]
   have hu:p8 (k:Int) cell p=some (!(Ou p.Config (k:Int) cell)):=by
    unfold p8;rw [afL hp.vc];rfl
   rw [hu]
   by_cases hc1:cell= -1
   ·subst hc1
    exact ih2 _ ⟨by omega,hy2⟩
   ·have hb:(cell != -1)=true:=by simpa using hc1
    rw [hb]
    simp only [cond_true,Option.bind_some,Bool.true_and]
    cases hm:Ou p.Config (k:Int) cell with
    |true=>exact ih2 _ ⟨by omega,hy2⟩
    |false=>
     simp only [Bool.not_false,cond_true]
     refine Ok.chk (dT (by show(y.length+1)*40<=140737488355328;omega)) ?_
     exact ih2 _ ⟨by simp;omega,λh=>by have:=hv h hc1;rw [hm]at this;cases this⟩
  ·rintro m' y ⟨hy1,hy2⟩
   show Ok (kE (iW 4 l p ((l.length:Nat):Int) m) 4 p (k:Int) (k:Int) [(l.getD k default).Home,(l.getD k default).aN] (([(l.getD k default).Home,(l.getD k default).aN].length:Nat):Int) (m'+1) y ((2:Nat):Int)) _
   rw [kE,nG (by show¬(((2:Nat):Int)<((2:Nat):Int));omega),bA (by omega) (by omega)]
   exact ih _ ⟨by omega,hy2⟩
 ·rintro m x ⟨hx1,hx2⟩
  show Ok (iW 4 l p ((l.length:Nat):Int) (m+1) x ((l.length:Nat):Int)) _
  rw [iW,nG (by omega)]
  exact Ok.some ⟨by show x.length<=64;omega,hx2⟩
theorem arz [Fuel] (hp:PV p) (hf:PF p l) (hc:C→∀k,k<l.length->(l.getD k default).Home≠-1->(l.getD k default).aN≠-1->zn p.Config (l.getD k default).Home (l.getD k default).aN=true):
  Ok (Oa p l) (λr=>r.length<=32/\(C->r= [])):=by
 have htl:=hp.vc.tl
 have hlen:=hf.len
 unfold Oa
 refine yA (L:=λm x i=>ny p l ((l.length:Nat):Int) m x i) l.length (by omega) (λk x=>x.length<=k/\(C->x= [])) ⟨Nat.le_refl _,λ_=>rfl⟩ ?_ ?_
 ·rintro m k x hk ⟨hx1,hx2⟩ ih
  show Ok (ny p l ((l.length:Nat):Int) (m+1) x (k:Int)) _
  rw [ny,nQ (by omega),dL (by omega) (by omega),Q0 hp.vc]
  simp only [Int.toNat_natCast]
  unfold F9
  rw [bA (x:=(k:Int)+1) (by omega) (by omega)]
  have hcc:=λh=>hc h k hk
  cases hb:(((l.getD k default).Home !=(-1))&&((l.getD k default).aN !=(-1)))with
  |false=>exact ih _ ⟨by omega,hx2⟩
  | true=>
   have hb':(l.getD k default).Home≠-1/\(l.getD k default).aN≠-1:=by simpa using hb
   simp only [cond_true,Option.bind_some,Bool.true_and]
   cases hm:zn p.Config (l.getD k default).Home (l.getD k default).aN with
   |true=>exact ih _ ⟨by omega,hx2⟩
   |false=>
    simp only [Bool.not_false,cond_true]
    refine Ok.chk (dT (by show(x.length+1)*40<=140737488355328;omega)) ?_
    exact ih _ ⟨by simp;omega,λh=>by have:=hcc h hb'.1 hb'.2;rw [hm]at this;cases this⟩
 ·rintro m x ⟨hx1,hx2⟩
  show Ok (ny p l ((l.length:Nat):Int) (m+1) x ((l.length:Nat):Int)) _
  rw [ny,nG (by omega)]
  exact Ok.some ⟨by omega,hx2⟩
theorem akT [Fuel] (hp:PV p) {b:List Int} (hb:b.length=p.Config.Cells.length) (hc:C→∀j,j<p.Config.Cells.length->b.getD j default<=(p.Config.Cells.getD j default).kS):
  Ok (Gc p b) (λr=>r.length<=16/\(C->r= [])):=by
 have hcl:=hp.vc.cl
 unfold Gc
 refine yA (L:=λm x i=>jH b p.Config.Cells ((p.Config.Cells.length:Nat):Int) m x i) p.Config.Cells.length (by omega) (λk x=>x.length<=k/\(C->x= [])) ⟨Nat.le_refl _,λ_=>rfl⟩ ?_ ?_
 ·rintro m k x hk ⟨hx1,hx2⟩ ih
  show Ok (jH b p.Config.Cells ((p.Config.Cells.length:Nat):Int) (m+1) x (k:Int)) _
  rw [jH,nQ (by omega),dL (by omega) (by omega),dL (by omega) (by omega)]
  simp only [Int.toNat_natCast]
  unfold yQ
  rw [bA (x:=(k:Int)+1) (by omega) (by omega)]
  refine Ok.cond (λh=> ?_) (λh=> ?_)
  ·have h:=of_decide_eq_true h
   refine Ok.chk (dT (by show(x.length+1)*40<=140737488355328;omega)) ?_
   exact ih _ ⟨by simp;omega,λh'=>by have:=hc h' k hk;omega⟩
  ·exact ih _ ⟨by omega,hx2⟩
 ·rintro m x ⟨hx1,hx2⟩
  show Ok (jH b p.Config.Cells ((p.Config.Cells.length:Nat):Int) (m+1) x ((p.Config.Cells.length:Nat):Int)) _
  rw [jH,nG (by omega)]
  exact Ok.some ⟨by omega,hx2⟩
end Go.CP
namespace Go.CP
open Go
variable {p:aF} {l X:List aK} {C:Prop}
theorem avC [Fuel] {n:Int} (h:0<=n/\n<=100000):jh n=some []:=by
 unfold jh iB
 rw [nG (by omega),bA (x:=0 - ((0:Nat):Int)) (by omega) (by omega),bA (x:=n - (0 - ((0:Nat):Int))) (by omega) (by omega)]
 by_cases h1:0<n
 ·rw [nQ (by omega),D5 (by omega),D5 (by constructor;omega;rw [List.length_replicate];omega),D5 (by rw [List.length_replicate];show 0<=_;omega)]
  rfl
 ·rw [nG (by omega)]
theorem VH [Fuel] {W:List (List aI)} (h:∀x∈W,x.length<=2000):∀n,n<=W.length->(W.take n).flatten.length<=2000*n
 |0,_=>by simp
 |n+1,hn=>by
  have h1:=VH h n (by omega)
  have h2:=h _ (List.getElem_mem (show n<W.length by omega))
  rw [List.take_succ,List.getElem?_eq_getElem (show n<W.length by omega)]
  simp only [Option.toList_some,List.flatten_append,List.length_append,List.flatten_cons,List.flatten_nil,List.append_nil]
  omega
theorem acL [Fuel] {α:Type} [Inhabited α] {W:List α} {k:Nat} (hk:k<W.length):W.take (k+1)=W.take k++ [W.getD k default]:=by
 rw [List.take_add_one];simp [List.getD_eq_getElem?_getD,hk]
theorem acM [Fuel] {W:List (List aI)} {n:Nat} (hn:n<W.length):(W.take (n+1)).flatten=(W.take n).flatten++W.getD n default:=by
 rw [acL hn,List.flatten_append];simp
theorem arA [Fuel] {W:List (List aI)} (hl:W.length<=10) (h:∀x∈W,x.length<=2000):iP W=some W.flatten:=by
 unfold iP
 apply ai9
 refine yA (L:=λm x i=>bS W W ((W.length:Nat):Int) m x i) W.length (by omega) (λn x=>x=(((W.take n).flatten.length:Nat):Int)) rfl ?_ ?_
 ·rintro m n x hn rfl ih
  show Ok (bS W W _ (m+1) _ n) _
  have hf:=VH h n (by omega)
  have hx:=h _ (iG hn)
  rw [bS,nQ (by omega),dL (by omega) (by omega),Int.toNat_natCast,bA (x:=(((W.take n).flatten.length:Nat):Int)+(((W.getD n default).length:Nat):Int)) (by omega) (by omega),nG (by omega),bA (by omega) (by omega)]
  exact ih _ (by rw [acM hn,List.length_append];push_cast;rfl)
 ·rintro m x rfl
  show Ok (bS W W _ (m+1) _ _) _
  have hf:=VH h W.length (Nat.le_refl _)
  rw [bS,nG (by omega),avC ⟨by omega,by omega⟩,Option.bind_some]
  refine yA (L:=λm x i=>bR W ((W.length:Nat):Int) m x i) W.length (by omega) (λn x=>x=(W.take n).flatten) rfl ?_ ?_
  ·rintro m n x hn rfl ih
   show Ok (bR W _ (m+1) _ n) _
   have hf:=VH h n (by omega)
   have hx:=h _ (iG hn)
   rw [bR,nQ (by omega),dL (by omega) (by omega),Int.toNat_natCast,bA (by omega) (by omega)]
   refine Ok.chk (dT (by show _<=140737488355328;omega)) ?_
   exact ih _ (acM hn).symm
  ·rintro m x rfl
   show Ok (bR W _ (m+1) _ _) _
   rw [bR,nG (by omega),List.take_length]
   exact Ok.some rfl
structure XV (p:aF) (X:List aK):Prop where
 len:X.length=p.Config.ah.length
 home:∀i,i<X.length->0<=(X.getD i default).Home/\(X.getD i default).Home<(p.Config.Cells.length:Int)
 sby:∀i,i<X.length-> -1<=(X.getD i default).aN/\(X.getD i default).aN<(p.Config.Cells.length:Int)
 may:∀i,i<X.length->Ou p.Config (i:Int) (X.getD i default).Home=true
 aCr:∀i,i<X.length->(X.getD i default).aN≠-1->Ou p.Config (i:Int) (X.getD i default).aN=true
 apart:∀i,i<X.length->(X.getD i default).aN≠-1->zn p.Config (X.getD i default).Home (X.getD i default).aN=true
 cap:∀j,j<p.Config.Cells.length->bkN p.Config X j p.Config.ah.length<=(p.Config.Cells.getD j default).kS
 sg:∀i,i<X.length->(X.getD i default).aN= -1->pQ p (i:Int)=some true
def Cn (l X:List aK):Prop:=∀i,i<l.length->((l.getD i default).Home= -1\/(l.getD i default).Home=(X.getD i default).Home)/\((l.getD i default).aN= -1\/(l.getD i default).aN=(X.getD i default).aN)
theorem ap8 [Fuel] (hc:VC p.Config) (hx:XV p X) (hl:l.length=X.length) (h:Cn l X) {j:Nat}:∀n,n<=p.Config.ah.length->bkN p.Config l j n<=bkN p.Config X j n
 |0,_=>Int.le_refl _
 | n+1,hn=>by
  have ih:=ap8 hc hx hl h (j:=j) n (by omega)
  have h1:=h n (by rw [hl,hx.len];omega)
  have ht:=hc.t _ (iG (show n<p.Config.ah.length by omega))
  have hL:=ht.load
  have hS:=ht.shadow
  rw [bkN,bkN]
  have e1:(if(l.getD n default).Home=(j:Int)then(p.Config.ah.getD n default).Load else 0)<=(if(X.getD n default).Home=(j:Int)then(p.Config.ah.getD n default).Load else 0):=by
   rcases h1.1 with h2|h2
   ·rw [h2,if_neg (by omega)];split<;>omega
   ·rw [h2];exact Int.le_refl _
  have e2:(if(l.getD n default).aN=(j:Int)then(p.Config.ah.getD n default).pJ else 0)<=(if(X.getD n default).aN=(j:Int)then(p.Config.ah.getD n default).pJ else 0):=by
   rcases h1.2 with h2|h2
   ·rw [h2,if_neg (by omega)];split<;>omega
   ·rw [h2];exact Int.le_refl _
  omega
theorem afQ [Fuel] (hp:PV p) (hf:PF p l):Ok (DJ p l) (λr=>r.length<=20000/\(XV p X/\Cn l X->r= [])):=by
 have hlen:=hf.len
 unfold DJ
 rw [anD hp hf]
 simp only [Option.bind_some,Bool.not_true,cond_false]
 refine Ok.bind (ajh hp hf) (λb hb=> ?_)
 rw [apb hp hf,Option.bind_some]
 refine Ok.bind (anE (C:=XV p X/\Cn l X) hp hf (λh k hk=> ?_)) (λr4 h4=> ?_)
 ·have hk':k<X.length:=by rw [h.1.len,<-hlen];exact hk
  have q:=h.2 k hk
  refine⟨λh1=> ?_,λh1=> ?_⟩
  ·rcases q.1 with q1|q1
   ·exact absurd q1 h1
   ·rw [q1];exact h.1.may k hk'
  ·rcases q.2 with q1|q1
   ·exact absurd q1 h1
   ·rw [q1];exact h.1.aCr k hk' (by rw [<-q1];exact h1)
 refine Ok.bind (arz (C:=XV p X/\Cn l X) hp hf (λh k hk h1 h2=> ?_)) (λr5 h5=> ?_)
 ·have hk':k<X.length:=by rw [h.1.len,<-hlen];exact hk
  have q:=h.2 k hk
  rcases q.1 with q1|q1
  ·exact absurd q1 h1
  ·rcases q.2 with q2|q2
   ·exact absurd q2 h2
   ·rw [q1,q2];exact h.1.apart k hk' (by rw [<-q2];exact h2)
 rw [arw hp hf,Option.bind_some,arx hp hf,Option.bind_some]
 refine Ok.bind (akT (C:=XV p X/\Cn l X) hp hb.1 (λh j hj=> ?_)) (λr8 h8=> ?_)
 ·rw [hb.2 j hj]
  exact Int.le_trans (ap8 hp.vc h.1 (by rw [hlen,h.1.len]) h.2 _ (Nat.le_refl _)) (h.1.cap j hj)
 rw [akS hp,Option.bind_some,arA (by simp) (by
  intro x hx
  simp only [List.mem_cons,List.not_mem_nil,or_false]at hx
  rcases hx with rfl|rfl|rfl|rfl|rfl|rfl|rfl<;>first|omega|exact Nat.zero_le _),Option.bind_some]
 refine Ok.some ⟨by simp;omega,λh=> ?_⟩
 rw [h4.2 h,h5.2 h,h8.2 h];rfl
end Go.CP
namespace Go.CP
open Go
variable {p:aF} {l X:List aK} {C:Prop}
def inS (set r:Int):Bool:=jK .i64 (oI .i64 set r) 1==1
theorem arB [Fuel]:∀x:Fin 8,∀r:Fin 3,0<=orK .i64 (x.1:Int) (CW .i64 1 (r.1:Int))/\orK .i64 (x.1:Int) (CW .i64 1 (r.1:Int))<8/\inS (orK .i64 (x.1:Int) (CW .i64 1 (r.1:Int))) (r.1:Int)=true∧
  ∀q:Fin 3,inS (x.1:Int) (q.1:Int)=true->inS (orK .i64 (x.1:Int) (CW .i64 1 (r.1:Int))) (q.1:Int)=true:=by decide+kernel
theorem or_bit [Fuel] {x r:Int} (hx:0<=x/\x<8) (hr:0<=r/\r<3):0<=orK .i64 x (CW .i64 1 r)/\orK .i64 x (CW .i64 1 r)<8/\inS (orK .i64 x (CW .i64 1 r)) r=true∧∀q:Int,0<=q->q<3->inS x q=true->inS (orK .i64 x (CW .i64 1 r)) q=true:=by
 have h:=arB ⟨x.toNat,by omega⟩ ⟨r.toNat,by omega⟩
 rw [show((x.toNat:Nat):Int)=x by omega,show((r.toNat:Nat):Int)=r by omega]at h
 refine⟨h.1,h.2.1,h.2.2.1,λq h0 h1 hq=> ?_⟩
 have:=h.2.2.2 ⟨q.toNat,by omega⟩
 rw [show((q.toNat:Nat):Int)=q by omega]at this
 exact this hq
theorem apc [Fuel]:∀x:Fin 8,∀s:Fin 8,(Np .i64 (x.1:Int) (s.1:Int)==0)=true→∀q:Fin 3,inS (x.1:Int) (q.1:Int)=true->inS (s.1:Int) (q.1:Int)=true:=by decide+kernel
theorem arC [Fuel] {x s q:Int} (hx:0<=x/\x<8) (hs:0<=s/\s<8) (hq:0<=q/\q<3) (h:(Np .i64 x s==0)=true) (hi:inS x q=true):inS s q=true:=by
 have:=apc ⟨x.toNat,by omega⟩ ⟨s.toNat,by omega⟩
 rw [show((x.toNat:Nat):Int)=x by omega,show((s.toNat:Nat):Int)=s by omega]at this
 have:=this h ⟨q.toNat,by omega⟩
 rw [show((q.toNat:Nat):Int)=q by omega]at this
 exact this hi
theorem avD [Fuel] {set k:Int} (h0:0<=k) (h1:k<64):MI set k=some (inS set k):=by
 unfold MI inS
 rw [XY (by rw [dT (show(0:Int)<=k from h0)];simp),dT (show(0:Int)<=k from h0),dT (show k<64 from h1)]
 rfl
theorem aji [Fuel] (hp:PV p) {k:Int} (h0:0<=k) (h1:k<(p.Config.Cells.length:Int)):inS p.Cells k=true:=by
 unfold inS;rw [Sy hp h0 h1];rfl
theorem afR [Fuel] {c:ak} (hc:VC c) {k:Nat} (hk:k<c.Cells.length):0<=dw c (k:Int)/\dw c (k:Int)<c.bK:=by
 have h1:=hc.cel _ (iG hk)
 unfold dw
 rw [if_pos ⟨by omega,by omega⟩]
 simp only [Int.toNat_natCast]
 have h2:=hc.z _ (iG (show(c.Cells.getD k default).Zone.toNat<c.kT.length by omega))
 exact h2
theorem arD [Fuel] (hp:PV p) (t:Int):Ok (FD p t) (λR=>(0<=R/\R<8)∧∀k:Nat,k<p.Config.Cells.length->Ou p.Config t (k:Int)=true->inS R (dw p.Config (k:Int))=true):=by
 have hcl:=hp.vc.cl
 have aa4:=hp.vc.reg
 unfold FD
 refine yA (L:=λm x i=>nC p t ((p.Config.Cells.length:Nat):Int) m x i) p.Config.Cells.length (by omega) (λn R=>(0<=R/\R<8)∧∀k:Nat,k<n->Ou p.Config t (k:Int)=true->inS R (dw p.Config (k:Int))=true) ⟨by omega,λk hk=>absurd hk (Nat.not_lt_zero _)⟩ ?_ ?_
 ·rintro m n R hn ⟨hR,hb⟩ ih
  show Ok (nC p t ((p.Config.Cells.length:Nat):Int) (m+1) R (n:Int)) _
  have hr:=afR hp.vc hn
  rw [nC,nQ (by omega),JV hp.vc,Option.bind_some,dT hr.1,avD (by omega) (by omega),aji hp (by omega) (by omega),afL hp.vc]
  unfold Gg
  rw [bA (x:=(n:Int)+1) (by omega) (by omega)]
  simp only [cond_true,Option.bind_some,Bool.and_self,Bool.true_and]
  cases hm:Ou p.Config t (n:Int)with
  | true=>
   simp only [cond_true]
   refine Ok.chk rfl ?_
   obtain⟨q1,q2,q3,q4⟩:=or_bit hR (r:=dw p.Config (n:Int)) ⟨hr.1,by omega⟩
   refine ih _ ⟨⟨q1,q2⟩,λk hk hmk=> ?_⟩
   by_cases h:k<n
   ·have hrk:=afR hp.vc (show k<p.Config.Cells.length by omega)
    exact q4 _ hrk.1 (by omega) (hb k h hmk)
   ·have:k=n:=by omega
    subst this
    exact q3
  | false=>
   simp only [cond_false]
   refine ih _ ⟨hR,λk hk hmk=> ?_⟩
   by_cases h:k<n
   ·exact hb k h hmk
   ·have:k=n:=by omega
    subst this
    rw [hm]at hmk;cases hmk
 ·rintro m R ⟨hR,hb⟩
  show Ok (nC p t ((p.Config.Cells.length:Nat):Int) (m+1) R ((p.Config.Cells.length:Nat):Int)) _
  rw [nC,nG (by omega)]
  exact Ok.some ⟨hR,hb⟩
end Go.CP
