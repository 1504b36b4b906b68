/- The abstract machine: literals of own arrays. -/
import Derived.Laws.BytesString
import Derived.Test.YtodbmegkcniehaaGreatP069ea85a9
set_option linter.unusedSimpArgs false
set_option linter.unusedVariables false
namespace Go.AM
open Go Go.CP Go.RowKit
section
variable {P:Program} {X:Mu} {w:World} {m:vW} {h:List bF}
theorem Qo [Fuel]:∀(a b:List (Nat×bF)) (h:List bF),bD h (a++b)=bD (bD h a) b
 | [],b,h=>rfl
 |(k,o)::a,b,h=>Qo a b (h.set k o)
theorem Yx [Fuel]:∀(ks:List Nat) (h:List bF) (j:Nat),(bD h (X0 ks))[j]? =h[j]? /\j ∉ ks\/(bD h (X0 ks))[j]? =some .dead\/((bD h (X0 ks))[j]? =none)
 | [],h,j=> .inl ⟨rfl,by simp⟩
 | k::ks,h,j=>by
  have e:bD h (X0 (k::ks))=bD (h.set k .dead) (X0 ks):=rfl
  rw [e]
  rcases Yx ks (h.set k .dead) j with⟨h1,h2⟩|h1|h1
  ·by_cases q:k=j
   ·subst q
    rw [h1]
    by_cases hk:k<h.length
    ·exact .inr (.inl (by rw [List.getElem?_set_self hk]))
    ·exact .inr (.inr (by rw [List.getElem?_eq_none (by simp;omega)]))
   ·refine .inl ⟨by rw [h1,List.getElem?_set_ne q],?_⟩
    simp only [List.mem_cons,not_or]
    exact⟨λh=>q h.symm,h2⟩
  ·exact .inr (.inl h1)
  ·exact .inr (.inr h1)
theorem Stp.trans' [Fuel] {w' w'':World} {m' m'':vW} {h' h'':List bF} (a:Stp X w m h w' m' h') (b:Stp X w' m' h' w'' m'' h'') (hnw:∀k,h[k]? =some .dead->h''[k]? =some .dead->m k=none->m'' k=none):Stp X w m h w'' m'' h'':=by
 refine⟨b.rel,a.later.trans b.later,b.os.trans a.os,b.tape.trans a.tape,a.output.trans b.output,λk hk hM=> ?_,λk hk=> ?_,hnw⟩
 ·have hs:=a.later.size
  rw [b.keep k (by omega) (λhM'=>by rcases a.mt k hM' with h1|h1;exact hM h1;omega),a.keep k hk hM]
 ·rcases b.mt k hk with h1|h1
  ·exact a.mt k h1
  ·exact .inr (Nat.le_trans a.later.size h1)
theorem Stp.kill [Fuel] (H:bI X w m h) (k:Nat):Stp X w m h w m (h.set k .dead):=by
 have hd:∀j o,j=k->(h.set k .dead)[j]? =some o->o= .dead:=by
  intro j o e ho
  subst e
  by_cases hj:j<h.length
  ·rw [List.getElem?_set_self hj]at ho;cases ho;rfl
  ·rw [List.getElem?_eq_none (by simp;omega)]at ho;cases ho
 refine H.change (λj=>j=k) (by simp) (λj hj=>List.getElem?_set_ne (λe=>hj e.symm)) (λ_ _ h=>h) (λ_ _=>rfl) H.used rfl rfl (UG.same _) (Nat.le_refl _) ?_ (λ_ _=> .inl rfl) ?_ (λ_ _ _ h=>h) ?_
 ·intro j o l b hj ho hl _ _
  have:=hd j o hj ho;subst this;exact hl.elim
 ·intro j j' o o' l l' b hj ho _ hl _ _ _ _ _
  have:=hd j o hj ho;subst this;exact hl.elim
 ·intro _ j o hj ho
  have:=hd j o hj ho;subst this;trivial
theorem Stp.kills [Fuel]:∀(ks:List Nat) {h:List bF},bI X w m h->Stp X w m h w m (bD h (X0 ks))
 | [],h,H=>Stp.refl H
 |k::ks,h,H=>(Stp.kill H k).trans' (Stp.kills ks (Stp.kill H k).rel) (λ_ _ _ h=>h)
theorem anY [Fuel] (H:bI X w m h) {ks:List Nat} {k z n:Nat} {f:Nat->List CV} {v:Value} (hk:k∈ks) (hg:mX h k= .arr z n f) (hs:lU w m (MX X m h) (.own k) v):
  OZ w (MX X m (bD h (X0 ks))) (.rd z n f) v:=by
 have S:=Stp.kills ks H
 cases hs with
 |own _ l hm=>
 have hget:=l5 hg trivial
 obtain⟨l',e1,e2,⟨e3,e3'⟩,e4,e5⟩:=H.obj k _ hget
 rw [hm]at e1;cases e1
 subst e3
 cases hbl:l.blk with
 |none=>
  have:=e4 hbl
  have hn:l.n=0:=by omega
  rw [hn]
  exact .rd0 z f _ _
 | some b=>
  obtain⟨e6,T,vs,e7,e8,e9,e10⟩:=e5 b hbl
  rw [e6]
  have hle:l.n*z<=vs.size:=by rw [e8];exact Nat.mul_le_mul_right _ e3'
  refine .rd z l.n f b 0 l.cap (λj=>vs.getD j undef) ?_ (lt_of_block e7) e3' (λi hi=>(e10 i hi).1) (λj hj=> ?_) (λj hj=>e9 j (by omega)) (λi j x hi hx=>((e10 i hi).2 j x hx).later S.later)
  ·rintro(hX|⟨j,o,lj,h1,h2,h3,h4⟩)
   ·exact H.adA b ⟨k,_,l,hget,trivial,hm,hbl⟩ hX
   ·rcases Yx ks h j with⟨q1,q2⟩|q1|q1
    ·rw [q1]at h1
     have:=H.inj j k o _ lj l b h1 hget h2 trivial h3 hm h4 hbl
     subst this
     exact q2 hk
    ·rw [q1]at h1;cases h1;exact h2.elim
    ·rw [q1]at h1;cases h1
  ·rw [Nat.zero_add,cell_of_row w b j vs T (0,0) e7,Array.getElem?_eq_getElem (show j<vs.size by omega)]
   simp [Array.getD,show j<vs.size by omega]
def apf:Nat->List CV->List (Nat×AV)
 |_,[]=> []
 |j,v::r=>(j,.s (.c v))::apf (j+1) r
theorem agO [Fuel] (H:bI X w m h) {KS:List Nat}:∀{l:List (Nat×AV)} {j:Nat} {ks:List Nat} {qs:List (Nat×Value)},Xi j l=some ks->(∀k∈ks,k∈KS)->(∀k∈ks,Xj (mX h k)=true)→
  K7 (λ(a:Nat×AV) (b:Nat×Value)=>a.1=b.1/\Fp w m (MX X m h) a.2 b.2) l qs→
  K7 (λ(a:Nat×AV) (b:Nat×Value)=>a.1=b.1/\Fp w m (MX X m (bD h (X0 KS))) a.2 b.2) (apf j (ks.map λk=>rdO (mX h k))) qs
 | [],j,ks,qs,ho,_,_,hq=>by
  simp only [Xi,Option.some.injEq]at ho
  subst ho
  cases hq
  exact .nil
 | (i, a)::l,j,ks,qs,ho,hK,hA,hq=>by
  cases a with
  |agg cs=>simp [Xi]at ho
  | s x =>
   cases x with
   | own k=>
    simp only [Xi]at ho
    cases hb:Nat.beq i j with
    |false=>rw [hb]at ho;cases ho
    | true=>
     rw [hb]at ho
     simp only [cond_true]at ho
     have hb:=Nat.eq_of_beq_eq_true hb
     subst hb
     split at ho
     ·rename_i r hr
      cases ho
      cases hq with
      | cons hh ht=>
       obtain⟨h1,h2⟩:=hh
       have ha:=hA k List.mem_cons_self
       cases hg:mX h k with
       |arr z n f=>
        refine .cons ⟨h1,?_⟩ (agO H hr (λq hq=>hK q (List.mem_cons_of_mem _ hq)) (λq hq=>hA q (List.mem_cons_of_mem _ hq)) ht)
        simp only [hg,rdO]
        exact .c (anY H (hK k List.mem_cons_self) hg h2)
       |box cs=>rw [hg]at ha;cases ha
       |mp es=>rw [hg]at ha;cases ha
       |ra z1 n1 cs1=>rw [hg]at ha;cases ha
       |ms es1=>rw [hg]at ha;cases ha
       |dead=>rw [hg]at ha;cases ha
     ·cases ho
   |_=>simp [Xi]at ho
theorem agP [Fuel] {sz:Nat} (hs:sz=1) {zs:List SC} (hz:zs.length=1):∀(vs:List CV) (done:List SC) (r:Nat),vs.length=r->(∀v∈vs,(SC.c v).scalar=true)→
  PE (λk=>some (k*sz,sz)) (done++rep zs r) (apf done.length vs)=some (done++vs.map .c)
 | [],done,r,hr,_=>by
  subst hr
  simp [apf,PE,rep]
 | v::vs,done,r,hr,hv=>by
  subst hr
  subst hs
  have hlen:(rep zs vs.length).length=vs.length:=by rw [JA];simp [hz]
  obtain⟨z0,rfl⟩:∃z0,zs= [z0]:=by
   cases zs with
   |nil=>simp at hz
   |cons a b=>cases b with
    |nil=>exact⟨a,rfl⟩
    |cons=>simp at hz
  simp only [apf,PE,iq,List.length_cons,List.length_nil,Nat.mul_one]
  have c1:Nat.beq (0+1) 1=true:=rfl
  have c2:Nat.ble (done.length+1) (done++rep [z0] (vs.length+1)).length=true:=by
   apply Nat.ble_eq_true_of_le
   simp [rep]
  have c3: [SC.c v].all SC.scalar=true:=by simp [hv v List.mem_cons_self]
  rw [c1,c2,c3]
  simp only [Bool.and_self,cond_true]
  have e:splice (done++rep [z0] (vs.length+1)) done.length [SC.c v]=(done++ [SC.c v])++rep [z0] vs.length:=by
   unfold splice
   rw [List.take_left]
   simp [rep,List.drop_append]
  have e2:done.length+1=(done++ [SC.c v]).length:=by simp
  rw [e,e2]
  have:=agP (sz:=1) rfl (zs:= [z0]) rfl vs (done++ [SC.c v]) vs.length rfl (λq hq=>hv q (List.mem_cons_of_mem _ hq))
  simp only [Nat.mul_one]at this
  rw [this]
  simp
theorem ajP [Fuel] (vs:List CV):Mv (vs.map .c)=some vs:=by
 induction vs with
 |nil=>rfl
 |cons v vs ih=>simp [Mv,ih]
theorem aie [Fuel] (H:bI X w m h) {id:Nat} (hid:h[id]? =some .dead) (hm:m id=none) {t:TypeId} {n:Nat} {ps:List (Nat×AV)} {qs:Array (Nat×Value)} {eff:Eff}
  (hq:K7 (λ(a:Nat×AV) (b:Nat×Value)=>a.1=b.1/\Fp w m (MX X m h) a.2 b.2) ps qs.toList) (he:abb P t id (mX h) n ps=some eff):
  ∃v w' m',(Instr.buildSlice t n qs).run P w= .ok v w'/\Stp X w m h w' m' (bD h eff.ws)/\nZ w' m' (MX X m' (bD h eff.ws)) eff.r v:=by
 unfold abb at he
 split at he
 ·rename_i ks hks
  unfold ajA at he
  cases hei:mY P t with
  |none=>rw [hei]at he;cases he
  | some q=>
   obtain⟨e,i,z⟩:=q
   rw [hei]at he
   simp only at he
   cases hb:(Nat.beq i.size 1&&Nat.beq ks.length n&&Nat.ble (n*i.size) 16777216&&ks.all (λk=>Xj (mX h k)))with
   |false=>rw [hb]at he;cases he
   | true=>
    rw [hb]at he
    cases he
    simp only [Bool.and_eq_true]at hb
    obtain⟨⟨⟨b1,b2⟩,b3⟩,b4⟩:=hb
    have b1:=Nat.eq_of_beq_eq_true b1
    have b2:=Nat.eq_of_beq_eq_true b2
    have hall:=List.all_eq_true.1 b4
    have S:=Stp.kills ks H
    obtain⟨hu,hi,⟨zv,hz,hzc⟩,hzs,hz1,hpos,YN⟩:=pE hei
    have hq':=agO H (KS:=ks) hks (λ_ h=>h) (λk hk=>hall k hk) hq
    have atM:(bD h (X0 ks))[id]? =some .dead:=by
     rcases Yx ks h id with⟨q1,_⟩|q1|q1
     ·rw [q1];exact hid
     ·exact q1
     ·have hlen:∀(a:List (Nat×bF)) (h:List bF),(bD h a).length=h.length:=by
       intro a
       induction a with
       |nil=>intro h;rfl
       |cons x a ih=>intro h;obtain⟨k,o⟩:=x;show(bD (h.set k o) a).length=_;rw [ih];simp
      have h1:=aR hid
      rw [List.getElem?_eq_none_iff,hlen]at q1
      omega
    have apA:=agP (sz:=i.size) b1 (zs:=vals z.toList) (by simp [vals];omega) (ks.map λk=>rdO (mX h k)) [] n (by simp [b2]) (λv hv=>by
     obtain⟨k,hk,rfl⟩:=List.mem_map.1 hv
     have:=hall k hk
     revert this
     cases mX h k<;>intro h<;>first|rfl|cases h)
    simp only [List.nil_append,List.length_nil]at apA
    have hbs:Cv P t id n (apf 0 (ks.map λk=>rdO (mX h k)))=some {r:= .one (.s (.own id)),ws:= [(id,.arr i.size n (λj=>((ks.map λk=>rdO (mX h k)).drop (j*i.size)).take i.size))]}:=by
     unfold Cv
     rw [hei]
     simp only
     rw [b3]
     simp only [cond_true]
     rw [apA]
     simp only
     rw [ajP]
    obtain⟨v,w',m',hr,hS,hs⟩:=O1 (P:=P) S.rel atM hm hq' hbs
    refine⟨v,w',m',hr,?_,?_⟩
    ·rw [Qo]
     refine S.trans' hS (λk h1 h2 h3=>hS.nw k ?_ h2 h3)
     rcases Yx ks h k with⟨q1,_⟩|q1|q1
     ·rw [q1];exact h1
     ·exact q1
     ·have hlen:∀(a:List (Nat×bF)) (h:List bF),(bD h a).length=h.length:=by
       intro a
       induction a with
       |nil=>intro h;rfl
       |cons x a ih=>intro h;obtain⟨k,o⟩:=x;show(bD (h.set k o) a).length=_;rw [ih];simp
      have h1:=aR h1
      rw [List.getElem?_eq_none_iff,hlen]at q1
      omega
    ·rw [Qo];exact hs
 ·exact O1 (P:=P) H hid hm hq he
end
end Go.AM
namespace Go.AM
open Go Go.CP Go.RowKit
def Yields [Fuel] (P:Program) (X:Mu) (w:World) (m:vW) (h:List bF) (o:Oper) (a:Act) (ws:List (Nat×bF)) (r:SV):Prop:=
 ∃nx w' m' v,(execOp a.eval o).run P w= .ok nx w'/\(nx= .value v\/(nx= .skip/\v=undef))/\Stp X w m h w' m' (bD h ws)/\nZ w' m' (MX X m' (bD h ws)) r v
section
variable {P:Program} {X:Mu} {w:World} {m:vW} {h:List bF}
theorem Yields.pure [Fuel] (H:bI X w m h) {o:Oper} {a:Act} {eff:Eff} {v:Value} (hr:(execOp a.eval o).run P w= .ok (.value v) w) (hw:eff.ws= []) (hs:nZ w m (MX X m h) eff.r v):
  Yields P X w m h o a eff.ws eff.r:=
 ⟨_,w,m,v,hr,.inl rfl,by rw [hw];exact Stp.refl H,by rw [hw];exact hs⟩
theorem ajQ [Fuel] (H:bI X w m h) {src dst e:TypeId} {k z n:Nat} {f:Nat->List CV} {v:Value}
  (hs:P.underlying src=some (.slice e)) (hd:P.underlying dst=some .string) (he:P.underlying e=some (.int .u8))
  (ho:mX h k= .arr z n f) (hz:z=1) (hall:∀i,i<n->aqW (f i)=true) (hv:nZ w m (MX X m h) (.one (.s (.own k))) v):
  (convert src dst v).run P w= .ok (.string (adD n f)) w:=by
 subst hz
 cases hv with
 |own _ l hk=>
 obtain⟨l',e1,e2,⟨e3,e3'⟩,e4,e5⟩:=H.obj k _ (l5 ho trivial)
 rw [hk]at e1;cases e1
 subst e3
 have arE:(convert src dst (.slice l.base l.n l.cap)).run P w=(Conv.bytesToString (.slice l.base l.n l.cap)).run P w:=by
  simp [convert,run_underlying hs,run_underlying hd,run_underlying he]
 rw [arE]
 have hb0:∀ns:List Int,(∀i,i<l.n->u8v (f i)=UInt8.ofNat (ns.getD i 0).toNat)->ns.length=l.n→
   ns.foldl (λr n=>r.push (UInt8.ofNat n.toNat)) ByteArray.empty=adD l.n f:=by
  intro ns h1 h2
  have:ns=(List.range l.n).map λi=>ns.getD i 0:=by
   apply List.ext_getElem (by simp [h2])
   intro i h3 h4
   simp [List.getD_eq_getElem?_getD,List.getElem?_eq_getElem h3]
  rw [this,List.foldl_map]
  unfold adD
  have:∀(xs:List Nat) (r:ByteArray),(∀i∈xs,i<l.n)->xs.foldl (λr i=>r.push (UInt8.ofNat (ns.getD i 0).toNat)) r=xs.foldl (λr i=>r.push (u8v (f i))) r:=by
   intro xs
   induction xs with
   |nil=>intro r _;rfl
   |cons x xs ih=>
    intro r hx
    simp only [List.foldl_cons]
    rw [h1 x (hx x List.mem_cons_self)]
    exact ih _ λi hi=>hx i (List.mem_cons_of_mem _ hi)
  exact this _ _ λi hi=>List.mem_range.1 hi
 cases hbl:l.blk with
 |none=>
  have hc0:=e4 hbl
  have hn0:l.n=0:=by omega
  have:=hb0 [] (λi hi=>by omega) (by simp [hn0])
  rw [<-this,hn0]
  cases l.base with
  |none=>rfl
  |some a=>simpa using run_bytesToString (P:=P) w a 0 l.cap [] (by simp [loadCells,loadCellsFrom])
 | some b=>
  obtain⟨e6,T,vs,e7,e8,e9,e10⟩:=e5 b hbl
  rw [e6]
  have hint:∀i,i<l.n→∃q:Int,f i= [.val (.int .u8 q)]/\vs.getD i undef= .int .u8 q:=by
   intro i hi
   have h1:=hall i hi
   obtain⟨h2,h3⟩:=e10 i hi
   unfold aqW at h1
   split at h1
   ·rename_i q hq
    rw [hq]at h3
    have:=h3 0 _ rfl
    simp only [Nat.mul_one,Nat.add_zero]at this
    generalize hg:vs.getD i undef=g at this
    cases this
    exact⟨q,hq,rfl⟩
   ·cases h1
  have hns:∃ns:List Int,ns.length=l.n∧∀i,i<l.n->f i= [.val (.int .u8 (ns.getD i 0))]/\vs.getD i undef= .int .u8 (ns.getD i 0):=by
   refine⟨(List.range l.n).map λi=>match f i with| [.val (.int .u8 q)]=>q|_=>0,by simp,λi hi=> ?_⟩
   obtain⟨q,h1,h2⟩:=hint i hi
   have:((List.range l.n).map λi=>match f i with| [.val (.int .u8 q)]=>q|_=>(0:Int)).getD i 0=q:=by
    simp [List.getD_eq_getElem?_getD,hi,h1]
   rw [this];exact⟨h1,h2⟩
  obtain⟨ns,hl,hns⟩:=hns
  rw [run_bytesToString (P:=P) w ⟨b,0,none⟩ l.n l.cap ns,hb0 ns (λi hi=>by rw [(hns i hi).1];rfl) hl]
  have hcell:∀j,j<l.n->w.cell? ((⟨b,0,none⟩:Addr).add j)=some (.int .u8 (ns.getD j 0)):=by
   intro j hj
   rw [addr_add,Nat.zero_add,<-(hns j hj).2]
   rw [cell_of_row w b j vs T (0,0) e7,Array.getElem?_eq_getElem (show j<vs.size by rw [e8];omega)]
   simp [Array.getD,show j<vs.size by rw [e8];omega]
  rw [run_loadCells w _ l.n _ hcell]
  congr 2
  rw [List.map_congr_left (g:=λi=>Value.int .u8 (ns.getD i 0)) (λ_ _=>rfl)]
  apply List.ext_getElem (by simp [hl])
  intro i h3 h4
  simp only [List.length_map,List.length_range]at h3
  simp [List.getD_eq_getElem?_getD,List.getElem?_eq_getElem (show i<ns.length by omega)]
theorem Qp [Fuel] (H:bI X w m h) {id:Nat} (hid:h[id]? =some .dead) (hm:m id=none) {a:Act} {o:Oper} {ρ:Operand->Option SV}
  (hρ:∀x s,ρ x=some s->nZ w m (MX X m h) s (a.eval x)) {eff:Eff} (he:evalOp P id ρ (mX h) o.op=some eff) (hc:∀q∈eff.bs,q=true):
  Yields P X w m h o a eff.ws eff.r:=by
 obtain⟨dst,op,type,pos,after,guard⟩:=o
 cases op with
 |move x=>
  simp only [evalOp]at he
  cases hx:ρ x with
  |none=>rw [hx]at he;cases he
  |some s=>rw [hx]at he;cases he;exact Yields.pure H (eff:={r:=s}) (by simp [execOp]) rfl (hρ x s hx)
 |assign x=>
  simp only [evalOp]at he
  cases hx:ρ x with
  |none=>rw [hx]at he;cases he
  |some s=>rw [hx]at he;cases he;exact Yields.pure H (eff:={r:=s}) (by simp [execOp]) rfl (hρ x s hx)
 | pick c x y=>
  simp only [evalOp]at he
  split at he
  ·rename_i hcv
   have hb:=hρ c _ hcv
   generalize hec:a.eval c=vc at hb
   cases hb with
   |c hb=>
    cases hb
    cases hx:ρ x with
    |none=>rw [hx]at he;cases he
    |some s=>rw [hx]at he;cases he;exact Yields.pure H (eff:={r:=s}) (by simp [execOp,hec,asBool]) rfl (hρ x s hx)
  ·rename_i hcv
   have hb:=hρ c _ hcv
   generalize hec:a.eval c=vc at hb
   cases hb with
   |c hb=>
    cases hb
    cases hx:ρ y with
    |none=>rw [hx]at he;cases he
    |some s=>rw [hx]at he;cases he;exact Yields.pure H (eff:={r:=s}) (by simp [execOp,hec,asBool]) rfl (hρ y s hx)
  ·cases he
 | alloc T=>
  simp only [evalOp]at he
  cases hi:P.info? T with
  |none=>rw [hi]at he;cases he
  | some i=>
   rw [hi]at he
   simp only at he
   cases hz:i.zero with
   |none=>rw [hz]at he;cases he
   | some z=>
    rw [hz]at he
    simp only at he
    cases hb:z.cells.all Value.oneCell' with
    |false=>rw [hb]at he;cases he
    |true=>
     rw [hb]at he
     simp only [cond_true]at he
     cases he
     obtain⟨m',hS,hs⟩:=Stp.am7 H hid hm T (Qn z.cells.toList) (ab6 hb)
     refine⟨.value _,_,m',_,?_,.inl rfl,hS,hs⟩
     simp [execOp,Instr.alloc,mZ hi hz,newVar,newRow]
 | box T x=>
  simp only [evalOp]at he
  split at he
  ·rename_i v hx
   cases hb:(iq v).all SC.scalar with
   |false=>rw [hb]at he;cases he
   | true=>
    rw [hb]at he
    simp only [cond_true]at he
    cases he
    obtain⟨hL,h1⟩:=Fp.cells (hρ x _ hx) hb
    obtain⟨m',hS,hs⟩:=Stp.am7 H hid hm T hL (λi hi=>by
     have:=h1 ((a.eval x).cells[i]) (by simp)
     simpa [Array.getD,hi]using this)
    refine⟨.value _,_,m',_,?_,.inl rfl,hS,hs⟩
    simp [execOp,Instr.box,newVar,newRow]
  ·cases he
 | build t ps=>
  simp only [evalOp]at he
  cases hp:partsOf ρ ps.toList with
  |none=>rw [hp]at he;cases he
  |some l=>
   rw [hp]at he
   simp only at he
   have hq:=Nt hρ hp
   obtain⟨v,hr,hw,_,hs⟩:=afz (P:=P) (qs:=ps.map λ(i,x)=>(i,a.eval x)) (by simpa using hq) he
   exact Yields.pure H (by simp [execOp,hr]) hw hs
 | buildSlice t n ps=>
  simp only [evalOp]at he
  cases hp:partsOf ρ ps.toList with
  |none=>rw [hp]at he;cases he
  |some l=>
   rw [hp]at he
   simp only at he
   have hq:=Nt hρ hp
   obtain⟨v,w',m',hr,hS,hs⟩:=aie (P:=P) H hid hm (qs:=ps.map λ(i,x)=>(i,a.eval x)) (by simpa using hq) he
   exact⟨.value v,w',m',v,by simp [execOp,hr],.inl rfl,hS,hs⟩
 | load T x=>
  simp only [evalOp]at he
  split at he
  ·rename_i p hx
   obtain⟨u,hr,hw,hs⟩:=ah1 H (hρ x _ hx) he
   exact Yields.pure H (by simp [execOp,hr]) hw hs
  ·cases he
 | store T x y=>
  simp only [evalOp]at he
  split at he
  ·rename_i p v hx hy
   obtain⟨w',hr,hw,hS⟩:=afy H (hρ x _ hx) (hρ y _ hy) he
   refine⟨.skip,w',m,undef,by simp [execOp,hr],.inr ⟨rfl,rfl⟩,hS,?_⟩
   rw [hw];exact .c (.val _)
  ·cases he
 | nilCheck x=>
  simp only [evalOp]at he
  split at he
  ·rename_i p hx
   cases hb:apz p with
   |false=>rw [hb]at he;cases he
   | true=>
    rw [hb]at he
    simp only [cond_true]at he
    cases he
    have hp:=hρ x _ hx
    have hv:∃q,a.eval x= .pointer (some q):=by
     generalize a.eval x=v at hp
     cases p with
     |pb k off=>cases hp with|pb=>exact⟨_,rfl⟩
     |pe k i off=>cases hp with|pe=>exact⟨_,rfl⟩
     |rp cs=>cases hp with|rp=>exact⟨_,rfl⟩
     |_=>cases hb
    obtain⟨q,hq⟩:=hv
    exact Yields.pure H (eff:={r:= .one (.s p)}) (by simp only [execOp,hq,Sem.run_pure];rfl) rfl (by rw [<-hq];exact hp)
  ·cases he
 | binOp op t x y t'=>
  simp only [evalOp]at he
  split at he
  ·rename_i sx sy hx hy
   obtain⟨v,hr,hw,hs⟩:=ajK (xo:=x) (yo:=y) (hρ x _ hx) (hρ y _ hy) he hc
   exact Yields.pure H (by simp only [execOp,Sem.run_bind]at hr⊢;rw [hr];rfl) hw hs
  ·cases he
 | unOp op t x=>
  simp only [evalOp]at he
  split at he
  ·rename_i v hx
   have hv:=hρ x _ hx
   generalize hev:a.eval x=v' at hv
   cases hv with
   | c hv=>
    cases hv
    cases hu:arD op v with
    |none=>rw [hu]at he;cases he
    |some u=>
     rw [hu]at he;cases he
     refine Yields.pure H (v:=u) ?_ rfl (.c (.val u))
     cases op<;>cases v<;>first|(cases hu;done)|skip
     all_goals (simp only [arD,Option.some.injEq]at hu;subst hu;simp [execOp,hev,Op.unary,Op.intArith])
  ·cases he
 | convert s d x=>
  simp only [evalOp]at he
  split at he
  ·rename_i k1 k k2 n hs' hd hx
   cases he
   have hv:=hρ x _ hx
   generalize hev:a.eval x=v' at hv
   cases hv with
   |c hv=>
    cases hv
    exact Yields.pure H (v:= .int k (k.wrap n)) (by simp [execOp,hev,convert,run_underlying hs',run_underlying hd,Conv.intToInt]) rfl (.c (.val _))
  ·rename_i b hs' hd hx
   cases he
   have hv:=hρ x _ hx
   generalize hev:a.eval x=v' at hv
   cases hv with
   |c hv=>
    cases hv
    exact Yields.pure H (v:= .string b) (by simp [execOp,hev,convert,run_underlying hs',run_underlying hd]) rfl (.c (.val _))
  ·rename_i e k hs' hd hx
   have hv:=hρ x _ hx
   cases ho:mX h k with
   |box=>rw [ho]at he;cases he
   |mp es=>rw [ho]at he;cases he
   |ra z1 n1 cs1=>rw [ho]at he;cases he
   |ms es1=>rw [ho]at he;cases he
   |dead=>rw [ho]at he;cases he
   | arr z n f=>
    rw [ho]at he
    unfold ajB at he
    simp only at he
    split at he
    ·rename_i hu
     cases hz:Nat.beq z 1 with
     |false=>rw [hz]at he;cases he
     |true=>
      rw [hz]at he
      simp only [cond_true]at he
      cases he
      have hall:∀i,i<n->aqW (f i)=true:=λi hi=>List.all_eq_true.1 (hc _ (List.mem_singleton.2 rfl)) i (List.mem_range.2 hi)
      exact Yields.pure H (v:= .string (adD n f)) (by simp only [execOp];rw [Sem.run_bind,ajQ H hs' hd hu ho (Nat.eq_of_beq_eq_true hz) hall hv];rfl) rfl (.c (.val _))
    ·cases he
  ·cases he
 | makeFunc f first caps=>
  simp only [evalOp]at he
  split at he
  ·rename_i f' ks hk
   cases hb:Nat.beq first.size 0 with
   |false=>rw [hb]at he;cases he
   |true=>
    rw [hb]at he;cases he
    have hf0:first= #[]:=Array.eq_empty_of_size_eq_zero (Nat.eq_of_beq_eq_true hb)
    subst hf0
    obtain⟨q1,q2⟩:=abf hρ hk
    refine Yields.pure H (v:= .func (.func f') #[] (caps.map a.eval)) (by simp [execOp,Instr.makeFunc]) rfl ?_
    refine .fn f' ks _ (by simpa using q1) (λi k hi=> ?_)
    obtain⟨l,b,e1,e2,e3⟩:=q2 i k hi
    exact⟨l,b,e1,e2,by simpa using e3⟩
  ·cases he
 | makeSlice t l c=>
  simp only [evalOp]at he
  split at he
  ·rename_i k1 n1 k2 n2 h1 h2
   have hv1:=hρ l _ h1
   have hv2:=hρ c _ h2
   generalize arF:a.eval l=v1 at hv1
   generalize arG:a.eval c=v2 at hv2
   cases hv1 with
   | c hv1=>cases hv1;cases hv2 with
    |c hv2=>
     cases hv2
     obtain⟨v,w',m',hr,hS,hs⟩:=ah2 (P:=P) (k1:=k1) (k2:=k2) H hid hm he hc
     exact⟨.value v,w',m',v,by simp [execOp,arF,arG,hr],.inl rfl,hS,hs⟩
  ·cases he
 | slice t x lo hi mx=>
  simp only [evalOp]at he
  split at he
  ·rename_i p lo' hi' mx' hx h1 h2 h3
   obtain⟨u,hr,hw,hs⟩:=afC H (hρ x _ hx) (Wn hρ h1) (Wn hρ h2) (Wn hρ h3) he hc
   exact Yields.pure H (by simp [execOp,hr]) hw hs
  ·cases he
 | fieldAddr s x f=>
  simp only [evalOp]at he
  split at he
  ·rename_i p hx
   obtain⟨u,hr,hw,hs⟩:=YQ (P:=P) (hρ x _ hx) he
   exact Yields.pure H (by simp [execOp,hr]) hw hs
  ·cases he
 | field s x f=>
  simp only [evalOp]at he
  split at he
  ·rename_i cs o' t' hx hf
   cases hl:Sw P t' cs o' with
   |none=>rw [hl]at he;cases he
   |some v=>
    rw [hl]at he;cases he
    obtain⟨vs,hev,hL⟩:=hρ x _ hx
    obtain⟨fs,fl,i,hu,hfl,hi,h0,rfl,rfl⟩:=YP hf
    obtain⟨u,hr,hs⟩:=agL (P:=P) hL hl
    exact Yields.pure H (v:=u) (by simp [execOp,Instr.field,run_underlying hu,hfl,hev,asAgg,hr]) rfl hs
  ·cases he
 | indexAddr t x i=>
  simp only [evalOp]at he
  split at he
  ·rename_i p k n hx hi
   have hv:=hρ i _ hi
   generalize hev:a.eval i=v' at hv
   cases hv with
   |c hv=>
    cases hv
    obtain⟨u,hr,hw,hs⟩:=YR (k:=k) H (hρ x _ hx) he hc
    exact Yields.pure H (by simp [execOp,hev,hr]) hw hs
  ·cases he
 | index t x i=>
  simp only [evalOp]at he
  split at he
  ·rename_i s k n hu hx hi
   cases he
   have hn:0<=n/\n<s.size:=of_decide_eq_true (hc _ (by simp))
   have hsx:=hρ x _ hx
   have hsi:=hρ i _ hi
   generalize hex:a.eval x=vx at hsx
   generalize hei:a.eval i=vi at hsi
   cases hsx with
   | c hsx=>
    cases hsi with
    | c hsi=>
     cases hsx;cases hsi
     have hlt:n.toNat<s.size:=by omega
     refine Yields.pure H (eff:={r:=mkv (.int .u8 (((s.data.toList.getD n.toNat 0).toNat:Nat):Int))}) (v:= .int .u8 (((s.data.toList.getD n.toNat 0).toNat:Nat):Int)) ?_ rfl (.c (.val _))
     have hg:s[n.toNat]? =some s[n.toNat]:=by simp [hlt]
     have hd:s.data.toList.getD n.toNat 0=s[n.toNat]:=by
      have:n.toNat<s.data.size:=hlt
      rw [List.getD_eq_getElem?_getD,Array.getElem?_toList,Array.getElem?_eq_getElem this];rfl
     rw [hd]
     simp [execOp,hex,hei,Instr.index,asIntOf,run_underlying hu,hn.1,hg]
  ·cases he
 | extract x i=>
  simp only [evalOp]at he
  split at he
  ·rename_i vs hx
   cases hv:vs[i]? with
   |none=>rw [hv]at he;cases he
   |some v=>
    rw [hv]at he;cases he
    obtain⟨us,hev,hz,hs⟩:=hρ x _ hx
    have hi:i<us.size:=by rw [hz];exact aR hv
    refine Yields.pure H (v:=us[i]) (by simp [execOp,hev,Instr.extract,hi]) rfl ?_
    have:=hs i v hv
    have e:us.getD i undef=us[i]:=by simp [Array.getD,hi]
    rw [e]at this
    exact this
  ·cases he
 | call c=>
  obtain⟨callee,args,argTypes⟩:=c
  simp only [evalOp]at he
  cases callee with
  |value f=>cases he
  |invoke r n=>cases he
  | builtin b=>
   simp only at he
   unfold GZ at he
   have hrun:∀{r:Result Value} {u:Value} {w':World},r= .ok u w'->True:=λ_=>trivial
   split at he
   ·rename_i _ _ _ x t ts ha ht
    cases hx:ρ x with
    |none=>rw [hx]at he;cases he
    |some v=>
     rw [hx]at he
     simp only at he
     obtain⟨u,hr,hw,hs⟩:=ajM (P:=P) H (ty:=type) (ts:=ts) (hρ x _ hx) he
     have e1:args= #[x]:=by cases args;simp_all
     have e2:argTypes=(t::ts).toArray:=by cases argTypes;simp_all
     subst e1;subst e2
     exact Yields.pure H (by simp only [execOp,resolve,Sem.run_bind,Sem.run_pure,Result.andThen_ok,invoke,builtin];simp only [List.map_toArray,List.map_cons,List.map_nil];rw [hr];rfl) hw hs
   ·rename_i _ _ _ s x t u' ha ht
    split at he
    ·rename_i sv xv e' hsv hxv hu'
     obtain⟨u,w',m',hr,hS,hs⟩:=adI (P:=P) (ty:=type) H hid hm hu' (hρ s _ hsv) (hρ x _ hxv) he hc
     have e1:args= #[s,x]:=by cases args;simp_all
     have e2:argTypes= #[t,u']:=by cases argTypes;simp_all
     subst e1;subst e2
     exact⟨.value u,w',m',u,by simp only [execOp,resolve,Sem.run_bind,Sem.run_pure,Result.andThen_ok,invoke,builtin];simp only [List.map_toArray,List.map_cons,List.map_nil];rw [hr];rfl,.inl rfl,hS,hs⟩
    ·rename_i kx n q hsv hxv hu'
     have h1:=hρ s _ hsv
     have h2:=hρ x _ hxv
     generalize hes:a.eval s=vs at h1
     generalize hex:a.eval x=vx at h2
     cases h1 with
     |c h1=>
     cases h1
     cases h2 with
     |c h2=>
     cases h2
     obtain⟨u,w',m',hr,hS,hs⟩:=aic (P:=P) (ty:=type) (k:=kx) H hid hm hu' he hc
     have e1:args= #[s,x]:=by cases args;simp_all
     have e2:argTypes= #[t,u']:=by cases argTypes;simp_all
     subst e1;subst e2
     exact⟨.value u,w',m',u,by simp only [execOp,resolve,Sem.run_bind,Sem.run_pure,Result.andThen_ok,invoke,builtin];simp only [List.map_toArray,List.map_cons,List.map_nil,hes,hex];rw [hr];rfl,.inl rfl,hS,hs⟩
    ·cases he
   ·rename_i _ _ _ s x t ts ha ht
    split at he
    ·rename_i sv xv hsv hxv
     have e1:args= #[s,x]:=by cases args;simp_all
     have e2:argTypes=(t::ts).toArray:=by cases argTypes;simp_all
     subst e1;subst e2
     obtain⟨u,w',hr,hS,hs⟩:=ah4 (P:=P) (ty:=type) (u:=t) H (hρ s _ hsv) (hρ x _ hxv) he hc
     have hr':(Builtin.copy_ (t::ts).toArray type #[a.eval s,a.eval x]).run P w= .ok u w':=by
      rw [<-hr];simp [Builtin.copy_]
     exact⟨.value u,w',m,u,by simp only [execOp,resolve,Sem.run_bind,Sem.run_pure,Result.andThen_ok,invoke,builtin];simp only [List.map_toArray,List.map_cons,List.map_nil];rw [hr'];rfl,.inl rfl,hS,hs⟩
    ·cases he
   ·rename_i _ _ _ s t ts ha ht
    split at he
    ·rename_i sv hsv
     have e1:args= #[s]:=by cases args;simp_all
     have e2:argTypes=(t::ts).toArray:=by cases argTypes;simp_all
     subst e1;subst e2
     obtain⟨u,w',hr,hS,hs⟩:=afB (P:=P) (ty:=type) (ts:=ts) H (hρ s _ hsv) he hc
     exact⟨.value u,w',m,u,by simp only [execOp,resolve,Sem.run_bind,Sem.run_pure,Result.andThen_ok,invoke,builtin];simp only [List.map_toArray,List.map_cons,List.map_nil];rw [hr];rfl,.inl rfl,hS,hs⟩
    ·cases he
   ·rename_i _ _ _ x t ts ha ht
    split at he
    ·rename_i e' hxv hu'
     have h1:=hρ x _ hxv
     generalize hex:a.eval x=vx at h1
     cases h1 with
     |c h1=>
     cases h1
     have e1:args= #[x]:=by cases args;simp_all
     have e2:argTypes=(t::ts).toArray:=by cases argTypes;simp_all
     subst e1;subst e2
     cases he
     exact Yields.pure H (eff:={r:=mkv (.int .i64 0)}) (by simp only [execOp,resolve,Sem.run_bind,Sem.run_pure,Result.andThen_ok,invoke,builtin];simp only [List.map_toArray,List.map_cons,List.map_nil,hex];rw [afD hu'];rfl) rfl (.c (.val _))
    ·cases he
   ·cases hv:JF ρ args.toList with
    |none=>rw [hv]at he;cases he
    | some vs=>
     rw [hv]at he
     simp only at he
     cases hmn:aqU vs with
     |none=>rw [hmn]at he;cases he
     |some v=>
      rw [hmn]at he;cases he
      have hr:=anW (P:=P) (w:=w) hmn argTypes type
      have e1:args.map a.eval=vs.toArray:=by apply Array.ext';rw [Array.toList_map];exact TW hρ hv
      exact Yields.pure H (by simp only [execOp,resolve,Sem.run_bind,Sem.run_pure,Result.andThen_ok,invoke,builtin,e1,hr]) rfl (.c (.val v))
   ·cases hv:JF ρ args.toList with
    |none=>rw [hv]at he;cases he
    | some vs=>
     rw [hv]at he
     simp only at he
     cases hmn:aqV vs with
     |none=>rw [hmn]at he;cases he
     |some v=>
      rw [hmn]at he;cases he
      have hr:=anX (P:=P) (w:=w) hmn argTypes type
      have e1:args.map a.eval=vs.toArray:=by apply Array.ext';rw [Array.toList_map];exact TW hρ hv
      exact Yields.pure H (by simp only [execOp,resolve,Sem.run_bind,Sem.run_pure,Result.andThen_ok,invoke,builtin,e1,hr]) rfl (.c (.val v))
   ·cases he
 | makeMap t r=>
  cases r with
  |some r=>cases he
  | none=>
   simp only [evalOp]at he
   split at he
   ·cases he
    obtain⟨w',m',v,hr,hS,hs⟩:=run_makeMap (P:=P) H hid hm t
    exact⟨.value v,w',m',v,by simp [execOp,hr],.inl rfl,hS,hs⟩
   ·cases he
 |lookup t x i ok=>
  simp only [evalOp]at he
  obtain⟨v,hr,hw,hs⟩:=aib (P:=P) H (λs hs=>hρ x s hs) (λs hs=>hρ i s hs) he
  exact Yields.pure H (by simp [execOp,hr]) hw hs
 |mapUpdate t x i v=>
  simp only [evalOp]at he
  obtain⟨w',hr,hw,hS⟩:=ajN (P:=P) H (λs hs=>hρ x s hs) (λs hs=>hρ i s hs) (λs hs=>hρ v s hs) he
  exact⟨.skip,w',m,undef,by simp [execOp,hr],.inr ⟨rfl,rfl⟩,hS,by rw [hw];exact .c (.val _)⟩
 |_=>cases he
end
end Go.AM
namespace Go.AM
open Go Go.CP Go.RowKit
def abj:TypeDesc->Value->Bool
 | .int k,.int k' _=>k'==k
 | .string,.string _=>true
 |_,_=>false
def anZ:AV->Option Value
 | .s (.c (.val v))=>some v
 | .agg cs=>match Mv cs with
  |some xs=>match xs.mapM (λx=>match x with| .val v=>some v|_=>none)with
   |some vs=>some (.agg vs.toArray)
   |none=>none
  |none=>none
 |_=>none
def apB (P:Program) (t:TypeId):Option (TypeDesc×Value):=
 match P.underlying t with
 | some (.map k e)=>match P.underlying k,P.info? e with
  |some d,some i=>match i.zero with
   |some z=>some (d,z)
   |none=>none
  |_,_=>none
 |_=>none
def ab7 (P:Program) (get:Nat->bF) (t:TypeId) (x i:SC) (ok:Bool):Option Eff:=
 match apB P t with
 | some (d,z)=>match x,i with
  | .mp k,.c (.val n)=>match get k with
   | .ms es=>bif abj d n then
     some {r:=bif ok then .tup [adC z,.s (.c (.val (.bool false)))]else .one (adC z),bs:= [es.isEmpty]}else none
   |_=>none
  |_,_=>none
 |none=>none
def agQ (P:Program) (get:Nat->bF) (t:TypeId) (x i:SC) (v:AV):Option Eff:=
 match apB P t with
 | some (d,_)=>match x,i,anZ v with
  | .mp k,.c (.val n),some u=>match get k with
   | .ms es=>bif abj d n then some {r:=mkv undef,ws:= [(k,.ms [(n,u)])],bs:= [es.isEmpty]}else none
   |_=>none
  |_,_,_=>none
 |none=>none
def abk (P:Program) (get:Nat->bF) (t:TypeId) (x:SC):Option Eff:=
 match P.underlying t,x with
 |some (.map _ _),.mp k=>match get k with
  | .ms es=>some {r:=mkv (.int .i64 (es.length:Int))}
  |_=>none
 |_,_=>none
def afE (P:Program) (t:TypeId) (id:Nat):Option Eff:=
 match apB P t with
 |some _=>some {r:= .one (.s (.mp id)),ws:= [(id,.ms [])]}
 |none=>none
section
variable {P:Program} {X:Mu} {w:World} {m:vW} {h:List bF}
theorem adN [Fuel] {t:TypeId} {d:TypeDesc} {z:Value} (ht:apB P t=some (d,z)):∃k e i,P.underlying t=some (.map k e)/\P.underlying k=some d/\P.info? e=some i/\i.zero=some z:=by
 unfold apB at ht
 split at ht
 ·rename_i k e h1
  split at ht
  ·rename_i d' i h2 h3
   split at ht
   ·rename_i z' h4;cases ht;exact⟨k,e,i,h1,h2,h3,h4⟩
   ·cases ht
  ·cases ht
 ·cases ht
theorem YW [Fuel] {d:TypeDesc} {n:Value} (h:abj d n=true):MapKept.IsKey d n:=by
 unfold abj at h
 split at h
 ·exact(by simpa using h:_=_)
 ·trivial
 ·cases h
theorem agR [Fuel] {M:Mu} (v:Value):Fp w m M (adC v) v:=by
 unfold adC
 split
 ·rename_i cs
  exact⟨cs,rfl,by have:=Qn (w:=w) (m:=m) (M:=M) cs.toList;simpa [vals]using this⟩
 ·exact .c (.val v)
theorem ajR [Fuel] {M:Mu} {a:AV} {u v:Value} (hu:anZ a=some u) (hs:Fp w m M a v):v=u:=by
 cases a with
 | s x=>
  cases x with
  |c y=>
   cases y with
   |val q=>cases hu;cases hs with|c hs=>cases hs;rfl
   |_=>cases hu
  |_=>cases hu
 | agg cs=>
  simp only [anZ]at hu
  split at hu
  ·rename_i xs hx
   split at hu
   ·rename_i vs hvs
    cases hu
    obtain⟨ws,rfl,hL⟩:=hs
    have hcs:=UH hx
    subst hcs
    have:∀(xs:List CV) (vs:List Value),xs.mapM (λx=>match x with| .val v=>some v|_=>none)=some vs->xs=vs.map .val:=by
     intro xs
     induction xs with
     |nil=>intro vs h;simp at h;subst h;rfl
     |cons x xs ih=>
      intro vs h
      simp only [List.mapM_cons,Option.bind_eq_bind,Option.bind_eq_some_iff]at h
      obtain⟨v,h1,vs',h2,h3⟩:=h
      cases x with
      |val q=>simp at h1;subst h1;simp at h3;subst h3;rw [ih _ h2];rfl
      |_=>simp at h1
    have hxs:=this xs vs hvs
    subst hxs
    obtain⟨h1,h2⟩:=hL
    congr 1
    apply Array.ext'
    apply List.ext_getElem (by simpa using h1)
    intro i h3 h4
    have h5:i<vs.length:=by simpa using h4
    have:=h2 i (.c (.val vs[i])) (by simp [h5])
    generalize hg:ws.getD i undef=g at this
    cases this with
    |c hc=>
     cases hc
     have h6:i<ws.size:=by simpa using h3
     have:ws.getD i undef=ws[i]:=by simp [Array.getD,h6]
     rw [this]at hg
     simpa using hg
   ·cases hu
  ·cases hu
theorem afF [Fuel] (H:bI X w m h) {t:TypeId} {ok:Bool} {sx si:SC} {x i:Value} {eff:Eff} (hx:lU w m (MX X m h) sx x) (hi:lU w m (MX X m h) si i)
  (he:ab7 P (mX h) t sx si ok=some eff) (hc:∀q∈eff.bs,q=true):∃v,(Instr.lookup t x i ok).run P w= .ok v w/\eff.ws= []/\nZ w m (MX X m h) eff.r v:=by
 unfold ab7 at he
 split at he
 ·rename_i d z ht
  split at he
  ·rename_i k n
   split at he
   ·rename_i es hg
    cases hk0:abj d n with
    |false=>rw [hk0]at he;cases he
    | true=>
     rw [hk0]at he
     cases he
     have hes:es= []:=by
      have:=hc es.isEmpty (by simp)
      simpa using this
     subst hes
     cases hx with
     |mp _ b l hk hb=>
     cases hi with
     |c h2=>
     cases h2
     obtain⟨kt,et,inf,u1,u2,u3,u4⟩:=adN ht
     obtain⟨l',b',rows,clock,e1,e2,e3,e4⟩:=H.obj k _ (l5 hg trivial)
     rw [hk]at e1;cases e1;rw [hb]at e2;cases e2
     have hr0:rows= #[]:=by simpa using e4
     subst hr0
     refine⟨if ok then .tuple #[z,.bool false]else z,?_,rfl,?_⟩
     ·simp [Instr.lookup,run_underlying u1,MapKept.run_getObj_map e3,MapKept.run_checkKey u2 (YW hk0),MapKept.run_findKey (l:= []) (a:=none) u2 rfl,mZ u3 u4,Result.andThen]
     ·cases ok with
      |false=>exact agR z
      |true=>
       refine⟨#[z,.bool false],rfl,rfl,λi a ha=> ?_⟩
       match i,ha with
       |0,ha=>cases ha;exact agR z
       |1,ha=>cases ha;exact .c (.val _)
       |i+2,ha=>simp at ha
   ·cases he
  ·cases he
 ·cases he
theorem aif [Fuel] (H:bI X w m h) {t:TypeId} {sx si:SC} {sv:AV} {x i v:Value} {eff:Eff} (hx:lU w m (MX X m h) sx x) (hi:lU w m (MX X m h) si i) (hv:Fp w m (MX X m h) sv v)
  (he:agQ P (mX h) t sx si sv=some eff) (hc:∀q∈eff.bs,q=true):
  ∃w',(Instr.mapUpdate t x i v).run P w= .ok () w'/\eff.r=mkv undef/\Stp X w m h w' m (bD h eff.ws):=by
 unfold agQ at he
 split at he
 ·rename_i d z ht
  split at he
  ·rename_i k n u hu
   split at he
   ·rename_i es hg
    cases hk0:abj d n with
    |false=>rw [hk0]at he;cases he
    | true=>
     rw [hk0]at he
     cases he
     have hes:es= []:=by
      have:=hc es.isEmpty (by simp)
      simpa using this
     subst hes
     cases hx with
     |mp _ b l hk hb=>
     cases hi with
     |c h2=>
     cases h2
     have hvu:=ajR hu hv
     subst hvu
     obtain⟨kt,et,inf,u1,u2,u3,u4⟩:=adN ht
     have hget:=l5 hg trivial
     obtain⟨l',b',rows,clock,e1,e2,e3,e4⟩:=H.obj k _ hget
     rw [hk]at e1;cases e1;rw [hb]at e2;cases e2
     have hr0:rows= #[]:=by simpa using e4
     subst hr0
     refine⟨{w with heap:=w.heap.setIfInBounds b (.map #[{key:=i,val:=v,born:=clock}] (clock+1))},?_,rfl,?_⟩
     ·simp [Instr.mapUpdate,run_underlying u1,MapKept.run_getObj_map e3,MapKept.run_checkKey u2 (YW hk0),MapKept.run_findKey (l:= []) (a:=none) u2 rfl,MapKept.run_setObj_map _ e3,Result.andThen]
     ·refine Stp.write H hget trivial hk hb rfl rfl ⟨rfl,λ_=>Nat.le_refl _⟩ (by simp) (λc _ hc=>(MapKept.heap_set e3).2 c hc) (λhLt=> ?_)
      exact⟨l,b,_,_,hk,hb,(MapKept.heap_set e3).1,rfl⟩
   ·cases he
  ·cases he
 ·cases he
theorem aii [Fuel] (H:bI X w m h) {t ty:TypeId} {ts:List TypeId} {x:SC} {v:Value} {eff:Eff} (hx:lU w m (MX X m h) x v) (he:abk P (mX h) t x=some eff):
  ∃u,(Builtin.len_ (t::ts).toArray ty #[v]).run P w= .ok u w/\eff.ws= []/\nZ w m (MX X m h) eff.r u:=by
 unfold abk at he
 split at he
 ·rename_i k0 e0 k hu
  split at he
  ·rename_i es hg
   cases he
   cases hx with
   |mp _ b l hk hb=>
   obtain⟨l',b',rows,clock,e1,e2,e3,e4⟩:=H.obj k _ (l5 hg trivial)
   rw [hk]at e1;cases e1;rw [hb]at e2;cases e2
   refine⟨_,?_,rfl,.c (.val _)⟩
   have:es.length=rows.size:=by rw [<-e4];simp
   simp [Builtin.len_,run_underlying hu,goInt,MapKept.run_getObj_map e3,Result.andThen,this]
  ·cases he
 ·cases he
theorem afG [Fuel] (H:bI X w m h) {id:Nat} (hid:h[id]? =some .dead) (hm:m id=none) {t:TypeId} {eff:Eff} (he:afE P t id=some eff):
  ∃w' m' v,(Instr.makeMap t none).run P w= .ok v w'/\Stp X w m h w' m' (bD h eff.ws)/\nZ w' m' (MX X m' (bD h eff.ws)) eff.r v:=by
 unfold afE at he
 split at he
 ·cases he
  let l:Loc:=⟨some ⟨w.heap.size,0,none⟩,0,0,some w.heap.size,0⟩
  refine⟨w.alloc (.map #[] 0),Qf m id l,.map (some w.heap.size),by simp [Instr.makeMap,Result.andThen],?_,?_⟩
  ·refine Stp.make H hid hm none l (.ms []) trivial rfl rfl ⟨rfl,λ_=>Nat.le_refl _⟩ (by simp) (λb hb=> .inl (yX w _ b hb)) (λb hb=> ?_) (λhLt=> ?_)
   ·cases hb;exact .inl (Nat.le_refl _)
   ·exact⟨l,w.heap.size, #[],0,by simp [Qf],rfl,Mx w _,rfl⟩
  ·exact lU.mp id w.heap.size l (by simp [Qf]) rfl
 ·cases he
end
end Go.AM
namespace Go.AM
open Go Go.CP Go.RowKit
def ab8 (P:Program) (T:TypeId) (get:Nat->bF):SC->Option Eff
 | .pe k i off=>match get k with
  | .ra z _ cs=>match Sw P T cs (i*z+off)with
   |some v=>some {r:= .one v}
   |none=>none
  |_=>none
 |_=>none
def Yy (P:Program) (T:TypeId) (get:Nat->bF) (p:SC) (v:AV):Option Eff:=
 match P.info? T with
 |none=>none
 | some i=>
  bif Nat.beq (iq v).length i.size&&(iq v).all SC.scalar then
   match p with
   | .pe k j off=>match get k with
    | .ra z n cs=>bif Nat.ble (j*z+off+i.size) cs.length then some {r:=mkv undef,ws:= [(k,.ra z n (splice cs (j*z+off) (iq v)))]}else none
    |_=>none
   |_=>none
  else none
def Yz (P:Program) (t:TypeId) (get:Nat->bF) (x:SC) (i:Int):Option Eff:=
 match x with
 | .own k=>match P.underlying t with
  |some (.slice e)=>match P.info? e,get k with
   |some ie,.ra z n _=>bif Nat.beq z ie.size then some {r:= .one (.s (.pe k i.toNat 0)),bs:= [decide (0<=i/\i<n)]}else none
   |_,_=>none
  |_=>none
 |_=>none
def Xn (P:Program) (get:Nat->bF) (t:TypeId) (x:SC):Option Eff:=
 match P.underlying t with
 | some (.slice _)=>match x with
  | .own k=>match get k with
   | .ra _ n _=>some {r:=mkv (.int .i64 (n:Int))}
   |_=>none
  |_=>none
 |_=>none
def ab9 (P:Program) (t:TypeId) (id len:Nat) (ps:List (Nat×AV)):Option Eff:=
 match mY P t with
 |none=>none
 | some (_,i,z)=>
  bif Nat.ble (len*i.size) 16777216 then
   match PE (λk=>some (k*i.size,i.size)) (rep (vals z.toList) len) ps with
   |some cs=>some {r:= .one (.s (.own id)),ws:= [(id,.ra i.size len cs)]}
   |none=>none
  else none
def an0 (z:Nat) (get:Nat->bF):SC->Option (Nat×List SC)
 | .own k=>match get k with
  | .ra z' n cs=>bif Nat.beq z z' then some (n,cs)else none
  |_=>none
 |_=>none
def UL (P:Program) (t:TypeId) (id:Nat) (get:Nat->bF) (s x:SC):Option Eff:=
 match mY P t with
 |none=>none
 | some (_,i,_)=>
  match an0 i.size get x with
  |none=>none
  | some (k,ys)=>match s with
   | .own j=>match get j with
    | .ra z n cs=>bif Nat.beq i.size z then
      some {r:= .one (.s (.own id)),ws:= [(j,.dead),(id,.ra i.size (n+k) (cs++ys))],bs:= [decide ((n+k)*i.bytes<=140737488355328)]}else none
    |_=>none
   | .c (.val (.slice none 0 0))=>some {r:= .one (.s (.own id)),ws:= [(id,.ra i.size k ys)],bs:= [decide (0<k/\k*i.bytes<=140737488355328)]}
   |_=>none
def an1 (P:Program) (op:BinOp) (t:TypeId) (x y:SC):Option Eff:=
 match P.underlying t with
 |some (.pointer _)=>match x,y,op with
  | .pb _ _,.c (.val (.pointer none)),.eql=>some {r:=mkv (.bool false)}
  | .pb _ _,.c (.val (.pointer none)),.neq=>some {r:=mkv (.bool true)}
  | .c (.val (.pointer none)),.c (.val (.pointer none)),.eql=>some {r:=mkv (.bool true)}
  | .c (.val (.pointer none)),.c (.val (.pointer none)),.neq=>some {r:=mkv (.bool false)}
  |_,_,_=>none
 |_=>none
def vY (P:Program) (id:Nat) (ρ:Operand->Option SV) (get:Nat->bF):Op->Option Eff
 | .load T a=>match ρ a with
  |some (.one (.s p))=>ab8 P T get p
  |_=>none
 | .store T a v=>match ρ a,ρ v with
  |some (.one (.s p)),some (.one v)=>Yy P T get p v
  |_,_=>none
 | .indexAddr t x i=>match ρ x,ρ i with
  |some (.one (.s p)),some (.one (.s (.c (.val (.int _ n)))))=>Yz P t get p n
  |_,_=>none
 | .buildSlice t n ps=>match partsOf ρ ps.toList with
  |some l=>ab9 P t id n l
  |none=>none
 | .makeFunc fn first caps=>match fn,first.toList with
  | .func f,[x]=>match ρ x with
   |some (.one (.s (.pb k off)))=>bif Nat.beq caps.size 0 then some {r:= .one (.s (.fb f k off))}else none
   |_=>none
  |_,_=>none
 | .binOp op t x y _=>match ρ x,ρ y with
  |some (.one (.s x)),some (.one (.s y))=>an1 P op t x y
  |_,_=>none
 | .index t x i=>match P.underlying t,ρ x,ρ i with
  | some (.array n e),some (.one (.agg cs)),some (.one (.s (.c (.val (.int _ j)))))=>match P.info? e with
   |some ie=>match Sw P e cs (j.toNat*ie.size)with
    |some v=>some {r:= .one v,bs:= [decide (0<=j/\j<n)]}
    |none=>none
   |none=>none
  |_,_,_=>none
 | .makeMap t none=>afE P t id
 | .lookup t x i ok=>match ρ x,ρ i with
  |some (.one (.s x)),some (.one (.s i))=>ab7 P get t x i ok
  |_,_=>none
 | .mapUpdate t x i v=>match ρ x,ρ i,ρ v with
  |some (.one (.s x)),some (.one (.s i)),some (.one v)=>agQ P get t x i v
  |_,_,_=>none
 | .unOp .xor _ x=>match ρ x with
  |some (.one (.s (.c (.val (.int k n)))))=>some {r:=mkv (.int k (k.wrap ((BitVec.ofInt k.bits (if k.signed then -1 else k.max)^^^BitVec.ofInt k.bits n).toNat)))}
  |_=>none
 | .call c=>match c.callee,c.args.toList,c.argTypes.toList with
  | .builtin .len,[x],t::_=>match ρ x with
   |some (.one (.s x))=>match Xn P get t x with
    |some e=>some e
    |none=>abk P get t x
   |_=>none
  | .builtin .append,[s,x],[t,u]=>match ρ s,ρ x,P.underlying u with
   |some (.one (.s s)),some (.one (.s x)),some (.slice _)=>UL P t id get s x
   |_,_,_=>none
  |_,_,_=>none
 |_=>none
section
variable {P:Program} {X:Mu} {w:World} {m:vW} {h:List bF}
theorem al2 [Fuel] (H:bI X w m h) {k z n:Nat} {cs:List SC} (e:mX h k= .ra z n cs) {b:Nat} {l:Loc} (hk:m k=some l) (hb:l.blk=some b):
  Ns w m (MX X m h) b 0 cs/\l.z=z/\l.n=n:=by
 obtain⟨l',b',T,vs,e1,e2,e3,e4,e5,e6,e7,e8,e9,e10⟩:=H.obj k _ (l5 e trivial)
 rw [hk]at e1;cases e1;rw [hb]at e4;cases e4
 refine⟨λj x hx=> ?_,e2,e3.1⟩
 have hj:j<cs.length:=aR hx
 have hle:n*z<=l.cap*z:=Nat.mul_le_mul_right _ e3.2
 have hv:j<vs.size:=by omega
 refine⟨vs.getD j undef,?_,e10 j x hx⟩
 rw [cell_of_row w b _ vs T _ e6]
 simp [Array.getD,hv]
theorem afH [Fuel] (H:bI X w m h) {T:TypeId} {p:SC} {v:Value} {eff:Eff} (hp:lU w m (MX X m h) p v) (he:ab8 P T (mX h) p=some eff):
  ∃u,(Instr.loadAt T v).run P w= .ok u w/\eff.ws= []/\nZ w m (MX X m h) eff.r u:=by
 unfold ab8 at he
 split at he
 ·rename_i k i off
  split at he
  ·rename_i z n cs hg
   split at he
   ·rename_i a hl
    cases he
    cases hp with
    |pe _ _ _ b l hk hb hi=>
     obtain⟨hC,hz,hn⟩:=al2 H hg hk hb
     obtain⟨u,hr,hs⟩:=Ql (P:=P) hC hl
     refine⟨u,?_,rfl,hs⟩
     rw [Nat.zero_add,<-hz]at hr
     simp only [Instr.loadAt,Instr.sureAddr,Sem.run_bind,Sem.run_pure,Result.andThen_ok,hr]
   ·cases he
  ·cases he
 ·cases he
theorem adO [Fuel] (H:bI X w m h) {T:TypeId} {p:SC} {a:AV} {pv v:Value} {eff:Eff} (hp:lU w m (MX X m h) p pv) (ha:Fp w m (MX X m h) a v)
  (he:Yy P T (mX h) p a=some eff):
  ∃w',(Instr.storeAt T pv v).run P w= .ok () w'/\eff.r=mkv undef/\Stp X w m h w' m (bD h eff.ws):=by
 unfold Yy at he
 cases hi:P.info? T with
 |none=>rw [hi]at he;cases he
 | some i=>
  rw [hi]at he
  simp only at he
  cases hb:(Nat.beq (iq a).length i.size&&(iq a).all SC.scalar)with
  |false=>rw [hb]at he;cases he
  | true =>
   rw [hb]at he
   simp only [cond_true]at he
   simp only [Bool.and_eq_true]at hb
   obtain⟨hsz,hsc⟩:=hb
   have hsz:=Nat.eq_of_beq_eq_true hsz
   obtain⟨hL,h1⟩:=Fp.cells ha hsc
   have hvs:v.cells.size=i.size:=by rw [hL.1];exact hsz
   split at he
   ·rename_i k j off
    split at he
    ·rename_i z n cs hg
     cases hle:Nat.ble (j*z+off+i.size) cs.length with
     |false=>rw [hle]at he;cases he
     | true=>
      rw [hle]at he;simp only [cond_true]at he;cases he
      have hle:=Nat.le_of_ble_eq_true hle
      cases hp with
      | pe _ _ _ b l hk hbk hjl=>
       have hget:=l5 hg trivial
       obtain⟨l',b',t,cur,e1,e2,e3,e4,e5,e6,e7,e8,e9,e10⟩:=H.obj k _ hget
       rw [hk]at e1;cases e1;rw [hbk]at e4;cases e4
       subst e2
       have hle2:n*l.z<=l.cap*l.z:=Nat.mul_le_mul_right _ e3.2
       have hcl:j*l.z+off+v.cells.size<=cur.size:=by omega
       have hst:=Qm (off:=j*l.z+off) hi e6 hvs hcl h1
       refine⟨_,hst,rfl,?_⟩
       refine Stp.write H hget trivial hk hbk rfl rfl ⟨rfl,λ_=>Nat.le_refl _⟩ (by simp) (λc _ hc=>setRow_other w b c _ hc) (λhLt=> ?_)
       have arH:j*l.z+off+v.cells.toList.length<=cur.toList.length:=by simpa using hcl
       refine⟨l,b,t,_,hk,rfl,e3,hbk,e5,setRow_heap w b cur _ t _ e6,?_,?_,?_,λq x hx=> ?_⟩
       ·rw [List.size_toArray,jh _ _ _ arH];simpa using e7
       ·exact Cy arH (λq hq=>by have:=e8 q (by simpa using hq);rwa [iY]at this) h1
       ·rw [jh _ _ _ (by rw [<-hL.1,hvs];exact hle)];exact e9
       ·rw [dU _ _ _ (by rw [<-hL.1,hvs];exact hle)]at hx
        rw [jw,dU _ _ _ arH]
        have hll:(iq a).length=v.cells.toList.length:=by rw [<-hL.1];simp
        rw [hll]at hx
        split at hx
        ·rename_i hin
         rw [if_pos hin]
         have:=(hL.2 _ _ hx).later hLt
         rwa [iY]at this
        ·rename_i hin
         rw [if_neg hin]
         have:=(e10 _ _ hx).later hLt
         rwa [iY]at this
    ·cases he
   ·cases he
theorem adP [Fuel] {t:TypeId} {x:SC} {v:Value} {k:IntKind} {i:Int} {eff:Eff} (H:bI X w m h) (hx:lU w m (MX X m h) x v) (he:Yz P t (mX h) x i=some eff) (hc:∀q∈eff.bs,q=true):
  ∃u,(Instr.indexAt t v (.int k i)).run P w= .ok u w/\eff.ws= []/\nZ w m (MX X m h) eff.r u:=by
 unfold Yz at he
 split at he
 ·rename_i k'
  split at he
  ·rename_i e hu
   split at he
   ·rename_i ie z n cs hi hg
    cases hbz:Nat.beq z ie.size with
    |false=>rw [hbz]at he;cases he
    | true=>
     rw [hbz]at he
     simp only [cond_true]at he
     cases he
     have hb:0<=i/\i<n:=of_decide_eq_true (hc _ (by simp))
     have hz:=Nat.eq_of_beq_eq_true hbz
     cases hx with
     |own _ l hk=>
      obtain⟨l',b,T,vs,e1,e2,e3,e4,e5,e6,e7,e8,e9,e10⟩:=H.obj k' _ (l5 hg trivial)
      rw [hk]at e1;cases e1
      rw [e5]
      have hr:=run_indexAt_slice (P:=P) (w:=w) (k:=k) (b:=b) (off:=0) (n:=l.n) (c:=l.cap) hu hi (i:=i) (by rw [e3.1];exact hb)
      refine⟨_,hr,rfl,?_⟩
      have:=lU.pe (w:=w) (m:=m) (M:=MX X m h) k' i.toNat 0 b l hk e4 (by rw [e3.1];omega)
      rw [e2,hz]at this
      simp only [Nat.add_zero]at this
      simpa using(show nZ w m (MX X m h) (.one (.s (.pe k' i.toNat 0))) _ from this)
   ·cases he
  ·cases he
 ·cases he
theorem aij [Fuel] (H:bI X w m h) {t ty:TypeId} {ts:List TypeId} {x:SC} {v:Value} {eff:Eff} (hx:lU w m (MX X m h) x v) (he:Xn P (mX h) t x=some eff):
  ∃u,(Builtin.len_ (t::ts).toArray ty #[v]).run P w= .ok u w/\eff.ws= []/\nZ w m (MX X m h) eff.r u:=by
 unfold Xn at he
 split at he
 ·rename_i e hu
  split at he
  ·rename_i k
   split at he
   ·rename_i z n cs hg
    cases he
    cases hx with
    |own _ l hk=>
     obtain⟨l',b,T,vs,e1,e2,e3,_⟩:=H.obj k _ (l5 hg trivial)
     rw [hk]at e1;cases e1
     refine⟨_,?_,rfl,.c (.val _)⟩
     simp [Builtin.len_,run_underlying hu,goInt,e3.1]
   ·cases he
  ·cases he
 ·cases he
theorem Stp.apC [Fuel] (H:bI X w m h) {id:Nat} (hid:h[id]? =some .dead) (hm:m id=none) {w1:World} (hw1:w1.heap=w.heap) (hos:w1.os=w.os) (ht:w1.tape=w.tape) (ho:UG w w1)
  (kl:Option Nat) {z n cap:Nat} {cs:List SC} {vs:Array Value} (T:TypeId)
  (hn:n<=cap) (hsz:vs.size=cap*z) (h1:∀i,i<vs.size->(vs.getD i undef).oneCell'=true) (hcl:cs.length=n*z)
  (hf:∀(i:Nat) x,cs[i]? =some x->lU w m (MX X m h) x (vs.getD i undef)):
  ∃m',Stp X w m h (w1.alloc (.cells vs T)) m' ((LQ h kl).set id (.ra z n cs))∧
   lU (w1.alloc (.cells vs T)) m' (MX X m' ((LQ h kl).set id (.ra z n cs))) (.own id) (.slice (some ⟨w.heap.size,0,none⟩) n cap):=by
 let l:Loc:=⟨some ⟨w.heap.size,0,none⟩,cap,z,some w.heap.size,n⟩
 have hsz1:w1.heap.size=w.heap.size:=by rw [hw1]
 refine⟨Qf m id l,?_,.own id l (by simp [Qf])⟩
 refine Stp.make H hid hm kl l (.ra z n cs) trivial hos ht ho (by simp [hsz1]) (λb hb=> .inl ?_) (λb hb=> ?_) (λhLt=> ?_)
 ·rw [yX w1 _ b (by rw [hsz1];exact hb),hw1]
 ·cases hb;exact .inl (Nat.le_refl _)
 ·refine⟨l,w.heap.size,T,vs,by simp [Qf],rfl,⟨rfl,hn⟩,rfl,rfl,?_,hsz,h1,hcl,λi x hx=>(hf i x hx).later hLt⟩
  rw [<-hsz1];exact Mx w1 _
theorem adQ [Fuel] (H:bI X w m h) {id:Nat} (hid:h[id]? =some .dead) (hm:m id=none) {t:TypeId} {n:Nat} {ps:List (Nat×AV)} {qs:Array (Nat×Value)} {eff:Eff}
  (hq:K7 (λ(a:Nat×AV) (b:Nat×Value)=>a.1=b.1/\Fp w m (MX X m h) a.2 b.2) ps qs.toList) (he:ab9 P t id n ps=some eff):
  ∃v w' m',(Instr.buildSlice t n qs).run P w= .ok v w'/\Stp X w m h w' m' (bD h eff.ws)/\nZ w' m' (MX X m' (bD h eff.ws)) eff.r v:=by
 unfold ab9 at he
 cases hei:mY P t with
 |none=>rw [hei]at he;cases he
 | some q=>
  obtain⟨e,i,z⟩:=q
  rw [hei]at he
  simp only at he
  obtain⟨hu,hi,⟨zv,hz,hzc⟩,hzs,hz1,hpos,YN⟩:=pE hei
  cases hb:Nat.ble (n*i.size) 16777216 with
  |false=>rw [hb]at he;cases he
  | true=>
   rw [hb]at he
   simp only [cond_true]at he
   have hb:=Nat.le_of_ble_eq_true hb
   cases hf:PE (λk=>some (k*i.size,i.size)) (rep (vals z.toList) n) ps with
   |none=>rw [hf]at he;cases he
   | some cs=>
    rw [hf]at he
    cases he
    obtain⟨hr,hr1⟩:=ab4 (w:=w) (m:=m) (M:=MX X m h) z n (by omega) hz1
    obtain⟨vs',r1,r2,r3⟩:=UJ hq hr hr1 hf
    have hlen:cs.length=n*i.size:=by rw [YM hf,JA];simp [vals,hzs]
    obtain⟨m',hS,hs⟩:=Stp.apC H hid hm (w1:=w) rfl rfl rfl (UG.same _) none (z:=i.size) (n:=n) (cap:=n) (cs:=cs) (vs:=vs') e (Nat.le_refl _)
     (by rw [r2.1,hlen]) r3 hlen r2.2
    refine⟨_,_,m',?_,hS,hs⟩
    have hzero:∀zz:Array Value,zz=(if n*i.size=0 then #[]else z)->((Array.range (n*i.size)).map (zz[· %zz.size]!))=((Array.range (n*z.size)).map (z[· %z.size]!)):=by
     intro zz hzz
     rw [hzs]
     by_cases h0:n*i.size=0
     ·rw [h0];simp
     ·rw [if_neg h0]at hzz;rw [hzz,hzs]
    simp only [Instr.buildSlice,Sem.run_bind,run_underlying hu,Result.andThen_ok,oF hi]
    rw [if_neg (by omega)]
    by_cases h0:n*i.size=0
    ·rw [if_pos h0]
     simp only [Sem.run_bind,Sem.run_pure,Result.andThen_ok]
     rw [hzero #[] (by rw [if_pos h0]),r1]
     simp [newRow]
    ·rw [if_neg h0]
     simp only [Sem.run_bind,Sem.run_pure,Result.andThen_ok,mZ hi hz,hzc]
     rw [hzero z (by rw [if_neg h0]),r1]
     simp [newRow]
def pins (news:List Value) (z:Nat):Nat->List CV:=λi=>((news.drop (i*z)).take z).map .val
theorem ajS [Fuel] (H:bI X w m h) {z k:Nat} {ys:List SC} {x:SC} {v:Value} (hx:lU w m (MX X m h) x v) (hs:an0 z (mX h) x=some (k,ys)):
  ∃news,Src w (MX X m h) z k (pins news z) v news/\ys.length=k*z∧∀(i:Nat) y,ys[i]? =some y->lU w m (MX X m h) y ((news[i]?).getD undef):=by
 unfold an0 at hs
 split at hs
 ·rename_i k'
  split at hs
  ·rename_i z' n cs hg
   cases hb:Nat.beq z z' with
   |false=>rw [hb]at hs;cases hs
   | true=>
    rw [hb]at hs
    have hb:=Nat.eq_of_beq_eq_true hb
    subst hb
    simp only [cond_true]at hs
    cases hs
    cases hx with
    | own _ l hk=>
     obtain⟨l',b,T,vs,e1,e2,e3,e4,e5,e6,e7,e8,e9,e10⟩:=H.obj k' _ (l5 hg trivial)
     rw [hk]at e1;cases e1
     have hle:k*z<=vs.size:=by rw [e7];exact Nat.mul_le_mul_right _ e3.2
     have hln:(vs.toList.take (k*z)).length=k*z:=by simp;omega
     have hget:∀j,j<k*z->(vs.toList.take (k*z))[j]? =some (vs.getD j undef):=by
      intro j hj
      rw [List.getElem?_take,if_pos hj]
      have:j<vs.size:=by omega
      simp [Array.getD,this]
     refine⟨vs.toList.take (k*z),⟨⟨l.base,l.cap,by rw [e3.1],?_⟩,hln,λu hu=> ?_,λi hi=> ?_⟩,e9,λi y hy=> ?_⟩
     ·right
      refine⟨b,0,e5,λj u hu=> ?_⟩
      have hj:j<k*z:=by have:=aR hu;omega
      rw [hget j hj]at hu
      rw [cell_of_row w b _ vs T _ e6,<-hu]
      have:j<vs.size:=by omega
      simp [Array.getD,this]
     ·obtain⟨j,hj,rfl⟩:=List.getElem_of_mem hu
      have hj':j<k*z:=by omega
      have:=hget j hj'
      rw [List.getElem?_eq_getElem hj]at this
      rw [Option.some.inj this]
      exact e8 j (by omega)
     ·have hiz:i*z+z<=k*z:=by rw [<-Nat.succ_mul];exact Nat.mul_le_mul_right _ (by omega)
      refine⟨by unfold pins;simp only [List.length_map,List.length_take,List.length_drop,hln];omega,λj x hx=> ?_⟩
      unfold pins at hx
      rw [List.getElem?_map]at hx
      cases hq:(((vs.toList.take (k*z)).drop (i*z)).take z)[j]? with
      |none=>rw [hq]at hx;cases hx
      |some u=>
       rw [hq]at hx;cases hx
       have hj:j<z:=by have:=aR hq;simp at this;omega
       rw [List.getElem?_take,if_pos hj,List.getElem?_drop]at hq
       rw [hq]
       exact .val u
     ·have hi:i<k*z:=by have:=aR hy;omega
      rw [hget i hi]
      exact e10 i y hy
  ·cases hs
 ·cases hs
theorem al3 [Fuel] {M:Mu} {cs ys:List SC} {us news:List Value} (hc:cs.length=us.length) (hf:∀(i:Nat) x,cs[i]? =some x->lU w m M x ((us[i]?).getD undef)) (hg:∀(i:Nat) x,ys[i]? =some x->lU w m M x ((news[i]?).getD undef)) (rest:List Value) (hn:ys.length=news.length):
  ∀(i:Nat) x,(cs++ys)[i]? =some x->lU w m M x (((us++(news++rest))[i]?).getD undef):=by
 intro i x hx
 rcases Nat.lt_or_ge i cs.length with h1|h1
 ·rw [List.getElem?_append_left h1]at hx
  rw [List.getElem?_append_left (by omega)]
  exact hf i x hx
 ·rw [List.getElem?_append_right h1]at hx
  rw [List.getElem?_append_right (by omega),<-hc]
  have:=aR hx
  rw [List.getElem?_append_left (by omega)]
  exact hg _ x hx
theorem acd [Fuel] (H:bI X w m h) {id:Nat} (hid:h[id]? =some .dead) (hm:m id=none) {t u ty:TypeId} {e':TypeId} (hu':P.underlying u=some (.slice e')) {s x:SC} {sv xv:Value} {eff:Eff}
  (hs:lU w m (MX X m h) s sv) (hx:lU w m (MX X m h) x xv) (he:UL P t id (mX h) s x=some eff) (hc:∀q∈eff.bs,q=true):
  ∃v w' m',(Builtin.append_ #[t,u] ty #[sv,xv]).run P w= .ok v w'/\Stp X w m h w' m' (bD h eff.ws)/\nZ w' m' (MX X m' (bD h eff.ws)) eff.r v:=by
 unfold UL at he
 cases hei:mY P t with
 |none=>rw [hei]at he;cases he
 | some q =>
  obtain⟨e,i,z⟩:=q
  rw [hei]at he
  simp only at he
  obtain⟨hu,hi,⟨zv,hz,hzc⟩,hzs,hz1,hpos,YN⟩:=pE hei
  cases hsr:an0 i.size (mX h) x with
  |none=>rw [hsr]at he;cases he
  | some q =>
   obtain⟨k,ys⟩:=q
   rw [hsr]at he
   simp only at he
   obtain⟨news,hS,hyl,hys⟩:=ajS H hx hsr
   have hnl:news.length=k*i.size:=hS.2.1
   have grown:∀(base:Option Addr) (n cap:Nat) (cs:List SC) (olds:List Value) (kl:Option Nat),cap<n+k->(n+k)*i.bytes<=140737488355328->cs.length=n*i.size->olds.length=n*i.size->(∀u∈olds,u.oneCell'=true)→
     (∀w1:World,w1.heap=w.heap->(Builtin.firstCells i.size n (.slice base n cap)).run P w1= .ok olds.toArray w1)->(∀(q:Nat) y,cs[q]? =some y->lU w m (MX X m h) y ((olds[q]?).getD undef))→
     ∃v w' m',(Builtin.append_ #[t,u] ty #[.slice base n cap,xv]).run P w= .ok v w'/\Stp X w m h w' m' ((LQ h kl).set id (.ra i.size (n+k) (cs++ys)))/\nZ w' m' (MX X m' ((LQ h kl).set id (.ra i.size (n+k) (cs++ys)))) (.one (.s (.own id))) v:=by
    intro base n cap cs olds kl hgrow hbytes hcs ho1 ho2 ho3 ho4
    have h63:n+k<=9223372036854775807:=by
     have:(n+k)*1<=(n+k)*i.bytes:=Nat.mul_le_mul_left _ YN
     omega
    have hfit:=growslice_fits hgrow hbytes
    have hrun:=agJ (ty:=ty) hu hu' hi hz hS ho3 hgrow h63 hfit
    have hge:=grownCap_ge w (n+k) cap e
    generalize grownCap w (n+k) cap e=nc at hrun hge
    have hsz:(olds.toArray++news.toArray++Builtin.zeroCells zv.cells (nc - (n+k))).size=nc*i.size:=by
     simp only [Array.size_append,List.size_toArray,size_zeroCells,hzc,hzs,ho1,hnl,<-Nat.add_mul]
     congr 1;omega
    have htl:(olds.toArray++news.toArray++Builtin.zeroCells zv.cells (nc - (n+k))).toList=olds++(news++(Builtin.zeroCells zv.cells (nc - (n+k))).toList):=by simp
    obtain⟨m',hSt,Cz⟩:=Stp.apC H hid hm (w1:=w.drew) rfl rfl rfl ⟨rfl,λ_=>Nat.le_succ _⟩ kl (z:=i.size) (n:=n+k) (cap:=nc) (cs:=cs++ys) (vs:=olds.toArray++news.toArray++Builtin.zeroCells zv.cells (nc - (n+k))) e hge hsz
     (λq hq=>by
      rw [iY,htl]
      rcases Nat.lt_or_ge q olds.length with h1|h1
      ·rw [List.getElem?_append_left h1,List.getElem?_eq_getElem h1];exact ho2 _ (List.getElem_mem h1)
      ·rw [List.getElem?_append_right h1]
       rcases Nat.lt_or_ge (q - olds.length) news.length with h2|h2
       ·rw [List.getElem?_append_left h2,List.getElem?_eq_getElem h2];exact hS.2.2.1 _ (List.getElem_mem h2)
       ·rw [List.getElem?_append_right h2]
        have h3:q - olds.length - news.length<(Builtin.zeroCells zv.cells (nc - (n+k))).toList.length:=by
         have h5:(Builtin.zeroCells zv.cells (nc - (n+k))).toList.length=(nc - (n+k))*i.size:=by simp only [Array.length_toList,size_zeroCells,hzc,hzs]
         rw [h5]
         rw [hsz]at hq
         have e2:(nc - (n+k))*i.size+(n+k)*i.size=nc*i.size:=by rw [<-Nat.add_mul];congr 1;omega
         rw [Nat.add_mul]at e2
         omega
        rw [List.getElem?_eq_getElem h3]
        simp only [Option.getD_some,Array.getElem_toList,Builtin.zeroCells,Array.getElem_map,Array.getElem_range,hzc]
        have h4:(q - olds.length - news.length)%z.size<z.size:=Nat.mod_lt _ (by omega)
        simp only [h4,getElem!_pos]
        exact(Array.all_eq_true.1 hz1) _ h4)
     (by rw [List.length_append,hcs,hyl,Nat.add_mul])
     (by
      simp only [iY,htl]
      exact al3 (by rw [hcs,ho1]) ho4 hys _ (by rw [hyl,hnl]))
    exact⟨_,_,m',hrun,hSt,Cz⟩
   split at he
   ·rename_i j
    split at he
    ·rename_i z1 n cs hg
     cases hb:Nat.beq i.size z1 with
     |false=>rw [hb]at he;cases he
     | true =>
      rw [hb]at he
      have hb:=Nat.eq_of_beq_eq_true hb
      subst hb
      simp only [cond_true]at he
      cases he
      have hbytes:(n+k)*i.bytes<=140737488355328:=of_decide_eq_true (hc _ (by simp))
      cases hs with
      | own _ l hk=>
       have hget:=l5 hg trivial
       obtain⟨l',b,T,vs,g1,g6,g3,g4,g7,g10,g11,g12,g13,g14⟩:=H.obj j _ hget
       rw [hk]at g1;cases g1
       rw [g3.1,g7]
       have hle:n*i.size<=vs.size:=by rw [g11];exact Nat.mul_le_mul_right _ g3.2
       show∃v w' m',_/\Stp X w m h w' m' ((LQ h (some j)).set id (.ra i.size (n+k) (cs++ys)))/\nZ w' m' (MX X m' ((LQ h (some j)).set id (.ra i.size (n+k) (cs++ys)))) (.one (.s (.own id))) v
       by_cases hroom:n+k<=l.cap
       ·have hfit:n*i.size+news.length<=vs.size:=by rw [hnl,g11,<-Nat.add_mul];exact Nat.mul_le_mul_right _ hroom
        refine⟨_,_,Qf m id {l with n:=n+k},agK hu hu' hi hS g10 hroom hfit,?_,?_⟩
        ·refine Stp.make H hid hm (some j) {l with n:=n+k} _ (by exact trivial) rfl rfl ⟨rfl,λ_=>Nat.le_refl _⟩ (by simp) (λc hcb=> ?_) (λc hcb=> ?_) (λhLt=> ?_)
         ·by_cases hcc:c=b
          ·subst hcc;exact .inr ⟨j,_,l,rfl,hget,trivial,hk,g4⟩
          ·exact .inl (setRow_other w b c _ hcc)
         ·have hcb:l.blk=some c:=hcb
          rw [g4]at hcb;cases hcb
          exact .inr ⟨j,_,l,rfl,hget,trivial,hk,g4⟩
         ·refine⟨{l with n:=n+k},b,T,_,if_pos rfl,g6,⟨rfl,hroom⟩,g4,g7,setRow_heap w b vs _ T _ g10,?_,?_,?_,?_⟩
          ·rw [List.size_toArray,jh _ _ _ (by simpa using hfit)];simpa using g11
          ·exact Cy (by simpa using hfit) (λq hq=>by have:=g12 q (by simpa using hq);rwa [iY]at this) hS.2.2.1
          ·rw [List.length_append,g13,hyl,Nat.add_mul]
          ·intro q y hy
           rw [jw,dU _ _ _ (by simpa using hfit)]
           rcases Nat.lt_or_ge q cs.length with h1|h1
           ·rw [List.getElem?_append_left h1]at hy
            rw [if_neg (by omega)]
            have:=(g14 q y hy).later hLt
            rwa [iY]at this
           ·rw [List.getElem?_append_right h1]at hy
            have:=aR hy
            rw [if_pos (by omega),show q - n*i.size=q - cs.length by omega]
            exact(hys _ y hy).later hLt
        ·show lU _ (Qf m id {l with n:=n+k}) _ (.own id) _
         rw [<-g7]
         exact .own id {l with n:=n+k} (if_pos rfl)
       ·refine grown _ n l.cap cs (vs.toList.take (n*i.size)) (some j) (by omega) hbytes g13 (by simp;omega) (λu hu=> ?_) (λw1 hw1=> ?_) (λq y hy=> ?_)
        ·obtain⟨q,hq,rfl⟩:=List.getElem_of_mem hu
         have hq':q<n*i.size:=by simp at hq;omega
         have:=g12 q (by omega)
         rw [iY]at this
         rw [List.getElem_take]
         have hq2:q<vs.toList.length:=by simp;omega
         rw [List.getElem?_eq_getElem hq2]at this
         exact this
        ·refine run_firstCells_some w1 i.size n ⟨b,0,none⟩ n l.cap _ (by simp;omega) (λq v hv=> ?_)
         rw [addr_add]
         have hq:q<n*i.size:=by have:=aR hv;simp at this;omega
         rw [cell_of_row w1 b _ vs T _ (by rw [hw1];exact g10)]
         rw [List.getElem?_take,if_pos hq]at hv
         simpa using hv
        ·have hq:q<n*i.size:=by have:=aR hy;omega
         rw [List.getElem?_take,if_pos hq]
         have:=g14 q y hy
         rwa [iY]at this
    ·cases he
   ·cases he
    have hb:0<k/\k*i.bytes<=140737488355328:=of_decide_eq_true (hc _ (by simp))
    cases hs with
    |c hs=>
     cases hs
     have:=grown none 0 0 [] [] none (by omega) (by rw [Nat.zero_add];exact hb.2) (by simp) (by simp) (by simp) (λw1 _=>by simp [Builtin.firstCells,loadCells,loadCellsFrom]) (by simp)
     simpa [bD,LQ]using this
   ·cases he
theorem Qq [Fuel] (w:World) (d:Nat) {T e:TypeId} (a:Option Addr) (hT:P.underlying T=some (.pointer e)):
  (Op.equalIn (d+1) T (.pointer a) (.pointer none)).run P w= .ok a.isNone w:=by
 have hu:=run_underlying (P:=P) (w:=w) hT
 cases a with
 |none=>simp [Op.equalIn,hu]
 |some a=>simp [Op.equalIn,hu]
theorem agS [Fuel] {w:World} {T e:TypeId} {xo yo:Operand} {a:Option Addr} (hT:P.underlying T=some (.pointer e)):
  (do eqGuard .eql T xo yo (.pointer a) (.pointer none);binOp .eql T (.pointer a) (.pointer none):Sem Value).run P w= .ok (.bool a.isNone) w:=by
 have hq:=Qq (P:=P) w 9999 a hT
 have hg:(eqGuard .eql T xo yo (.pointer a) (.pointer none)).run P w= .ok () w:=by simp [eqGuard]
 rw [Sem.run_bind,hg]
 simp [binOp,Op.equal,Op.maxDepth,hq]
theorem agT [Fuel] {w:World} {T e:TypeId} {xo yo:Operand} {a:Option Addr} (hT:P.underlying T=some (.pointer e)):
  (do eqGuard .neq T xo yo (.pointer a) (.pointer none);binOp .neq T (.pointer a) (.pointer none):Sem Value).run P w= .ok (.bool (!a.isNone)) w:=by
 have hq:=Qq (P:=P) w 9999 a hT
 have hg:(eqGuard .neq T xo yo (.pointer a) (.pointer none)).run P w= .ok () w:=by simp [eqGuard]
 rw [Sem.run_bind,hg]
 simp [binOp,Op.equal,Op.maxDepth,hq]
theorem ajT [Fuel] {op:BinOp} {t:TypeId} {xo yo:Operand} {x y:SC} {a b:Value} {M:Mu} {eff:Eff} (hx:lU w m M x a) (hy:lU w m M y b) (he:an1 P op t x y=some eff):
  ∃v,(do eqGuard op t xo yo a b;binOp op t a b:Sem Value).run P w= .ok v w/\eff.ws= []/\nZ w m M eff.r v:=by
 unfold an1 at he
 split at he
 ·rename_i e hu
  split at he
  ·cases he;cases hx;cases hy with
   |c hy=>cases hy;exact⟨_,agS hu,rfl,.c (.val _)⟩
  ·cases he;cases hx;cases hy with
   |c hy=>cases hy;exact⟨_,agT hu,rfl,.c (.val _)⟩
  ·cases he;cases hx with
   |c hx=>cases hx;cases hy with
    |c hy=>cases hy;exact⟨_,agS hu,rfl,.c (.val _)⟩
  ·cases he;cases hx with
   |c hx=>cases hx;cases hy with
    |c hy=>cases hy;exact⟨_,agT hu,rfl,.c (.val _)⟩
  ·cases he
 ·cases he
theorem afI [Fuel] (H:bI X w m h) {id:Nat} (hid:h[id]? =some .dead) (hm:m id=none) {a:Act} {o:Oper} {ρ:Operand->Option SV}
  (hρ:∀x s,ρ x=some s->nZ w m (MX X m h) s (a.eval x)) {eff:Eff} (he:vY P id ρ (mX h) o.op=some eff) (hc:∀q∈eff.bs,q=true):
  Yields P X w m h o a eff.ws eff.r:=by
 obtain⟨dst,op,type,pos,after,guard⟩:=o
 cases op with
 | load T x=>
  simp only [vY]at he
  split at he
  ·rename_i p hx
   obtain⟨u,hr,hw,hs⟩:=afH H (hρ x _ hx) he
   exact Yields.pure H (by simp [execOp,hr]) hw hs
  ·cases he
 | store T x y=>
  simp only [vY]at he
  split at he
  ·rename_i p v hx hy
   obtain⟨w',hr,hw,hS⟩:=adO H (hρ x _ hx) (hρ y _ hy) he
   refine⟨.skip,w',m,undef,by simp [execOp,hr],.inr ⟨rfl,rfl⟩,hS,?_⟩
   rw [hw];exact .c (.val _)
  ·cases he
 | indexAddr t x i=>
  simp only [vY]at he
  split at he
  ·rename_i p k n hx hi
   have hv:=hρ i _ hi
   generalize hev:a.eval i=v' at hv
   cases hv with
   |c hv=>
    cases hv
    obtain⟨u,hr,hw,hs⟩:=adP (k:=k) H (hρ x _ hx) he hc
    exact Yields.pure H (by simp [execOp,hev,hr]) hw hs
  ·cases he
 | buildSlice t n ps=>
  simp only [vY]at he
  cases hp:partsOf ρ ps.toList with
  |none=>rw [hp]at he;cases he
  |some l=>
   rw [hp]at he
   simp only at he
   have hq:=Nt hρ hp
   obtain⟨v,w',m',hr,hS,hs⟩:=adQ (P:=P) H hid hm (qs:=ps.map λ(i,x)=>(i,a.eval x)) (by simpa using hq) he
   exact⟨.value v,w',m',v,by simp [execOp,hr],.inl rfl,hS,hs⟩
 | binOp op t x y t'=>
  simp only [vY]at he
  split at he
  ·rename_i sx sy hx hy
   obtain⟨v,hr,hw,hs⟩:=ajT (xo:=x) (yo:=y) (hρ x _ hx) (hρ y _ hy) he
   exact Yields.pure H (by simp only [execOp,Sem.run_bind]at hr⊢;rw [hr];rfl) hw hs
  ·cases he
 | makeMap t r=>
  cases r with
  |some r=>cases he
  |none=>
   obtain⟨w',m',v,hr,hS,hs⟩:=afG (P:=P) H hid hm (t:=t) he
   exact⟨.value v,w',m',v,by simp [execOp,hr],.inl rfl,hS,hs⟩
 | lookup t x i ok=>
  simp only [vY]at he
  split at he
  ·rename_i sx si hx hi
   obtain⟨v,hr,hw,hs⟩:=afF (P:=P) H (hρ x _ hx) (hρ i _ hi) he hc
   exact Yields.pure H (by simp [execOp,hr]) hw hs
  ·cases he
 | mapUpdate t x i v=>
  simp only [vY]at he
  split at he
  ·rename_i sx si sv hx hi hv
   obtain⟨w',hr,hw,hS⟩:=aif (P:=P) H (hρ x _ hx) (hρ i _ hi) (hρ v _ hv) he hc
   exact⟨.skip,w',m,undef,by simp [execOp,hr],.inr ⟨rfl,rfl⟩,hS,by rw [hw];exact .c (.val _)⟩
  ·cases he
 | index t x i=>
  simp only [vY]at he
  split at he
  ·rename_i n e cs k j hu hx hi
   split at he
   ·rename_i ie hie
    split at he
    ·rename_i v hl
     cases he
     have hb:0<=j/\j<n:=of_decide_eq_true (hc _ (by simp))
     obtain⟨vs,hev,hL⟩:=hρ x _ hx
     have hv:=hρ i _ hi
     generalize hei:a.eval i=v' at hv
     cases hv with
     |c hv=>
      cases hv
      obtain⟨u,hr,hs⟩:=agL (P:=P) hL hl
      exact Yields.pure H (v:=u) (by simp [execOp,hev,hei,Instr.index,asIntOf,run_underlying hu,hb.1,hb.2,oF hie,hr]) rfl hs
    ·cases he
   ·cases he
  ·cases he
 | unOp op t x=>
  cases op<;>first|(cases he;done)|skip
  simp only [vY]at he
  split at he
  ·rename_i k n hx
   cases he
   have hv:=hρ x _ hx
   generalize hev:a.eval x=v' at hv
   cases hv with
   |c hv=>
    cases hv
    exact Yields.pure H (v:= .int k _) (by simp [execOp,hev,Op.unary,Op.intBits]) rfl (.c (.val _))
  ·cases he
 | makeFunc f first caps=>
  simp only [vY]at he
  split at he
  ·rename_i f' x hf
   split at he
   ·rename_i k off hx
    cases hb:Nat.beq caps.size 0 with
    |false=>rw [hb]at he;cases he
    | true=>
     rw [hb]at he;cases he
     have hc0:caps= #[]:=Array.eq_empty_of_size_eq_zero (Nat.eq_of_beq_eq_true hb)
     subst hc0
     have hf1:first= #[x]:=by cases first;simp_all
     subst hf1
     have hv:=hρ x _ hx
     generalize hev:a.eval x=v at hv
     cases hv with
     |pb _ _ b l hk hbk=>
      exact Yields.pure H (eff:={r:= .one (.s (.fb f' k off))}) (v:= .func (.func f') #[.pointer (some ⟨b,off,none⟩)] #[]) (by simp [execOp,Instr.makeFunc,hev]) rfl (.fb f' k off b l hk hbk)
   ·cases he
  ·cases he
 | call c=>
  obtain⟨callee,args,argTypes⟩:=c
  simp only [vY]at he
  split at he
  ·rename_i x t ts ha ht
   split at he
   ·rename_i v hx
    obtain⟨u,hr,hw,hs⟩:∃u,(Builtin.len_ (t::ts).toArray type #[a.eval x]).run P w= .ok u w/\eff.ws= []/\nZ w m (MX X m h) eff.r u:=by
     split at he
     ·rename_i e' h1
      cases he
      exact aij (P:=P) H (ty:=type) (ts:=ts) (hρ x _ hx) h1
     ·exact aii (P:=P) H (ty:=type) (ts:=ts) (hρ x _ hx) he
    have e1:args= #[x]:=by cases args;simp_all
    have e2:argTypes=(t::ts).toArray:=by cases argTypes;simp_all
    subst e1;subst e2
    exact Yields.pure H (by simp only [execOp,resolve,Sem.run_bind,Sem.run_pure,Result.andThen_ok,invoke,builtin];simp only [List.map_toArray,List.map_cons,List.map_nil];rw [hr];rfl) hw hs
   ·cases he
  ·rename_i s x t u' ha ht
   split at he
   ·rename_i sv xv e' hsv hxv hu'
    obtain⟨u,w',m',hr,hS,hs⟩:=acd (P:=P) (ty:=type) H hid hm hu' (hρ s _ hsv) (hρ x _ hxv) he hc
    have e1:args= #[s,x]:=by cases args;simp_all
    have e2:argTypes= #[t,u']:=by cases argTypes;simp_all
    subst e1;subst e2
    exact⟨.value u,w',m',u,by simp only [execOp,resolve,Sem.run_bind,Sem.run_pure,Result.andThen_ok,invoke,builtin];simp only [List.map_toArray,List.map_cons,List.map_nil];rw [hr];rfl,.inl rfl,hS,hs⟩
   ·cases he
  ·cases he
 |_=>cases he
end
theorem abl [Fuel] {P:Program} {id:Nat} {ρ:Operand->Option SV} {get get':Nat->bF} {o:Op} {e:Eff} (hg:∀k,(get k).live->get' k=get k) (he:vY P id ρ get o=some e):vY P id ρ get' o=some e:=by
 have hra:∀{k z n cs},get k= .ra z n cs->get' k= .ra z n cs:=λ{k z n cs} h=>by rw [hg k (by rw [h];trivial),h]
 have hms:∀{k es},get k= .ms es->get' k= .ms es:=λ{k es} h=>by rw [hg k (by rw [h];trivial),h]
 cases o with
 | load T a=>
  simp only [vY]at he⊢
  split at he
  ·rename_i p _
   unfold ab8 at he⊢
   split at he
   ·split at he
    ·rename_i hk;rw [hra hk];exact he
    ·cases he
   ·cases he
  ·cases he
 | store T a v=>
  simp only [vY]at he⊢
  split at he
  ·rename_i p v _ _
   unfold Yy at he⊢
   cases hi:P.info? T with
   |none=>rw [hi]at he;cases he
   | some i=>
    rw [hi]at he
    simp only at he⊢
    cases hb:(Nat.beq (iq v).length i.size&&(iq v).all SC.scalar)with
    |false=>rw [hb]at he;cases he
    | true=>
     rw [hb]at he
     simp only [cond_true]at he⊢
     split at he
     ·split at he
      ·rename_i hk;rw [hra hk];exact he
      ·cases he
     ·cases he
  ·cases he
 | indexAddr t x i=>
  simp only [vY]at he⊢
  split at he
  ·unfold Yz at he⊢
   split at he
   ·split at he
    ·split at he
     ·rename_i hi hk;rw [hi,hra hk];exact he
     ·cases he
    ·cases he
   ·cases he
  ·cases he
 | call c=>
  simp only [vY]at he⊢
  split at he
  ·rename_i hc ha ht
   split at he
   ·rename_i x hx
    have hlx:∀{t e'},Xn P get t x=some e'->Xn P get' t x=some e':=by
     intro t e' h
     unfold Xn at h⊢
     split at h
     ·rename_i hu
      split at h
      ·split at h
       ·rename_i hk;rw [hra hk];exact h
       ·cases h
      ·cases h
     ·cases h
    split at he
    ·rename_i e' h1;cases he;rw [hlx h1]
    ·rename_i h1
     have hn:∀{t},abk P get t x=some e->Xn P get' t x=none:=by
      intro t hq
      clear he
      unfold abk at hq
      split at hq
      ·rename_i hu;unfold Xn;simp only [hu]
      ·cases hq
     rw [hn he]
     unfold abk at he⊢
     split at he
     ·split at he
      ·rename_i hk;rw [hms hk];exact he
      ·cases he
     ·cases he
   ·cases he
  ·rename_i hc ha ht
   split at he
   ·unfold UL at he⊢
    split at he
    ·cases he
    ·split at he
     ·cases he
     ·rename_i hs'
      have hs2:∀{z x r},an0 z get x=some r->an0 z get' x=some r:=by
       intro z x r h
       unfold an0 at h⊢
       split at h
       ·split at h
        ·rename_i hk;rw [hra hk];exact h
        ·cases h
       ·cases h
      rw [hs2 hs']
      simp only at he⊢
      split at he
      ·split at he
       ·rename_i hk;rw [hra hk];exact he
       ·cases he
      ·exact he
      ·cases he
   ·cases he
  ·cases he
 | lookup t x i ok=>
  simp only [vY]at he⊢
  split at he
  ·unfold ab7 at he⊢
   split at he
   ·split at he
    ·split at he
     ·rename_i hk;rw [hms hk];exact he
     ·cases he
    ·cases he
   ·cases he
  ·cases he
 | mapUpdate t x i v=>
  simp only [vY]at he⊢
  split at he
  ·unfold agQ at he⊢
   split at he
   ·split at he
    ·split at he
     ·rename_i hk;rw [hms hk];exact he
     ·cases he
    ·cases he
   ·cases he
  ·cases he
 |makeMap t r=>cases r<;>exact he
 |unOp op t x=>cases op<;>exact he
 |_=>exact he
end Go.AM
namespace Go.AM
open Go Go.CP Go.RowKit
def CV.eqv (x y:CV):Prop:=
 match y with
 | .rd z' n' f'=>match x with
  | .rd z n f=>z=z'/\n=n'∧∀i,i<n->f i=f' i
  | .val (.slice _ 0 _)=>n'=0
  | .e0=>n'=0
  |_=>False
 | .ls t xs=>match x with
  | .rd z n f=>z=wd t/\n=xs.length∧∀i,i<n->f i=fE t xs i
  | .val (.slice _ 0 _)=>xs= []
  | .e0=>xs= []
  | .ls t' xs'=>CV.ls t' xs'=CV.ls t xs
  | .lsn t' xs'=>CV.lsn t' xs'=CV.lsn t xs
  |_=>False
 | .lsn t xs=>match x with
  | .val (.slice none 0 0)=>xs= []
  | .ls t' (x'::xs')=>CV.ls t' (x'::xs')=CV.ls t xs
  | .lsn t' xs'=>CV.lsn t' xs'=CV.lsn t xs
  |_=>False
 |y=>x=y
def SC.eqv (x y:SC):Prop:=
 match y with
 | .bot=>True
 | .c y=>match x with
  | .c x=>x.eqv y
  |_=>False
 |y=>x=y
def al4:List CV->List CV->Prop
 | [],[]=>True
 |x::xs,y::ys=>x.eqv y/\al4 xs ys
 |_,_=>False
theorem CV.rD [Fuel] (x:CV):x.eqv x:=by
 cases x with
 |rd z n f=>exact⟨rfl,rfl,λ_ _=>rfl⟩
 |_=>rfl
theorem SC.rD [Fuel] (x:SC):x.eqv x:=by
 cases x with
 |c y=>exact y.rD
 |bot=>trivial
 |_=>rfl
theorem Aq [Fuel]:∀xs:List CV,al4 xs xs
 | []=>trivial
 |x::xs=>⟨x.rD,Aq xs⟩
theorem agU [Fuel]:∀{xs ys:List CV},al4 xs ys->xs.length=ys.length∧∀(i:Nat) y,ys[i]? =some y→∃x,xs[i]? =some x/\x.eqv y
 | [],[],_=>⟨rfl,λi y h=>by simp at h⟩
 |x::xs,y::ys,⟨e,r⟩=>by
  obtain⟨q1,q2⟩:=agU r
  refine⟨by simp [q1],λi z hz=> ?_⟩
  cases i with
  |zero=>simp at hz;subst hz;exact⟨x,rfl,e⟩
  |succ i=>simpa using q2 i z (by simpa using hz)
 | [],_::_,h=>by cases h
 |_::_,[],h=>by cases h
def al5:List SC->List SC->Prop
 | [],[]=>True
 |x::xs,y::ys=>x.eqv y/\al5 xs ys
 |_,_=>False
def AV.eqv:AV->AV->Prop
 | .s x,.s y=>x.eqv y
 | .agg xs,.agg ys=>al5 xs ys
 |_,_=>False
def aqX:List AV->List AV->Prop
 | [],[]=>True
 |x::xs,y::ys=>x.eqv y/\aqX xs ys
 |_,_=>False
def SV.eqv:SV->SV->Prop
 | .one x,.one y=>x.eqv y
 | .tup xs,.tup ys=>aqX xs ys
 |_,_=>False
def bF.eqv:bF->bF->Prop
 | .arr z n f,.arr z' n' f'=>z=z'/\n=n'∧∀i,i<n->al4 (f i) (f' i)
 | .box xs,.box ys=>al5 xs ys
 | .mp a,.mp b=>a=b
 | .ms a,.ms b=>a=b
 | .ra z n xs,.ra z' n' ys=>z=z'/\n=n'/\al5 xs ys
 | .dead,.dead=>True
 |_,_=>False
def agV:List (Nat×bF)->List (Nat×bF)->Prop
 | [],[]=>True
 |(k,o)::xs,(k',o')::ys=>k=k'/\o.eqv o'/\agV xs ys
 |_,_=>False
section
variable {w:World} {m:vW} {M:Mu}
theorem OZ.am9 [Fuel] {z n:Nat} {f f':Nat->List CV} {v:Value} (h:OZ w M (.rd z n f) v) (hf:∀i,i<n->f i=f' i):OZ w M (.rd z n f') v:=by
 cases h with
 |rd0 _ _ a cap=>exact .rd0 z f' a cap
 |rd _ _ _ b off cap c hb hs hn hl hc h1 Cz=>
  exact .rd z n f' b off cap c hb hs hn (λi hi=>by rw [<-hf i hi];exact hl i hi) hc h1 (λi j x hi hx=>by rw [<-hf i hi]at hx;exact Cz i j x hi hx)
theorem OZ.eqv [Fuel] {x y:CV} {v:Value} (h:OZ w M x v) (e:x.eqv y):OZ w M y v:=by
 cases y with
 | rd z' n' f'=>
  cases x with
  |rd z n f=>
   obtain⟨rfl,rfl,hf⟩:=e
   exact h.am9 hf
  |e0=>
   have e:n'=0:=e
   subst e
   cases h with|e0 a=>exact .rd0 z' f' a 0
  | val u=>
   cases u with
   | slice a n c=>
    cases n with
    |zero=>
     have e:n'=0:=e
     subst e
     cases h;exact .rd0 z' f' a c
    |succ n=>exact False.elim e
   |_=>exact False.elim e
  |ls t xs=>exact False.elim e
  |lsn t xs=>exact False.elim e
 | ls t xs=>
  cases x with
  |rd z n f=>
   obtain⟨rfl,rfl,hf⟩:=e
   exact .ls t xs v (h.am9 hf)
  |e0=>
   have e:xs= []:=e
   subst e
   cases h with|e0 a=>exact .ls t [] _ (.rd0 _ _ a 0)
  | val u=>
   cases u with
   | slice a n c=>
    cases n with
    |zero=>
     have e:xs= []:=e
     subst e
     cases h;exact .ls t [] _ (.rd0 _ _ a c)
    |succ n=>exact False.elim e
   |_=>exact False.elim e
  |ls t' xs'=>have e:CV.ls t' xs'=CV.ls t xs:=e;rw [<-e];exact h
  |lsn t' xs'=>have e:CV.lsn t' xs'=CV.lsn t xs:=e;cases e;cases h with|lsn _ _ _ h _=>exact .ls t xs v h
 | lsn t xs=>
  cases x with
  |rd z n f=>exact False.elim e
  |e0=>exact False.elim e
  | val u=>
   cases u with
   | slice a n c=>
    cases a with
    |some a=>exact False.elim e
    | none=>
     cases n with
     |succ n=>exact False.elim e
     | zero=>
      cases c with
      |succ c=>exact False.elim e
      |zero=>
       have e:xs= []:=e
       subst e
       cases h;exact .lsn t [] _ (.rd0 _ _ none 0) (λ_=>rfl)
   |_=>exact False.elim e
  | ls t' xs'=>
   cases xs' with
   |nil=>exact False.elim e
   |cons x' xs'=>
    have e:CV.ls t' (x'::xs')=CV.ls t xs:=e
    cases e
    cases h with|ls _ _ _ h=>exact .lsn t _ v h (λh=>by cases h)
  |lsn t' xs'=>have e:CV.lsn t' xs'=CV.lsn t xs:=e;rw [<-e];exact h
 |val u=>have e:x=_:=e;subst e;exact h
 |e0=>have e:x=_:=e;subst e;exact h
theorem lU.eqv [Fuel] {x y:SC} {v:Value} (h:lU w m M x v) (e:x.eqv y):lU w m M y v:=by
 cases y with
 |bot=>exact .bot v
 |c y=>
  cases x with
  |c x=>cases h with|c h=>exact .c (h.eqv e)
  |_=>exact False.elim e
 |_=>have e:x=_:=e;subst e;exact h
theorem ace [Fuel]:∀{xs ys:List SC},al5 xs ys->xs.length=ys.length∧∀(i:Nat) y,ys[i]? =some y→∃x,xs[i]? =some x/\x.eqv y
 | [],[],_=>⟨rfl,λi y h=>by simp at h⟩
 |x::xs,y::ys,⟨e,r⟩=>by
  obtain⟨q1,q2⟩:=ace r
  refine⟨by simp [q1],λi z hz=> ?_⟩
  cases i with
  |zero=>simp at hz;subst hz;exact⟨x,rfl,e⟩
  |succ i=>simpa using q2 i z (by simpa using hz)
 | [],_::_,h=>by cases h
 |_::_,[],h=>by cases h
theorem UF.eqv [Fuel] {xs ys:List SC} {vs:Array Value} (h:UF w m M xs vs) (e:al5 xs ys):UF w m M ys vs:=by
 obtain⟨q1,q2⟩:=ace e
 refine⟨by rw [h.1,q1],λi y hy=> ?_⟩
 obtain⟨x,hx,exy⟩:=q2 i y hy
 exact(h.2 i x hx).eqv exy
theorem Fp.eqv [Fuel] {x y:AV} {v:Value} (h:Fp w m M x v) (e:x.eqv y):Fp w m M y v:=by
 cases x with
 |s x=>cases y with
  |s y=>exact lU.eqv h e
  |agg=>cases e
 |agg xs=>cases y with
  |s y=>cases e
  |agg ys=>obtain⟨vs,rfl,hL⟩:=h;exact⟨vs,rfl,hL.eqv e⟩
theorem agW [Fuel]:∀{xs ys:List AV},aqX xs ys->xs.length=ys.length∧∀(i:Nat) y,ys[i]? =some y→∃x,xs[i]? =some x/\x.eqv y
 | [],[],_=>⟨rfl,λi y h=>by simp at h⟩
 |x::xs,y::ys,⟨e,r⟩=>by
  obtain⟨q1,q2⟩:=agW r
  refine⟨by simp [q1],λi z hz=> ?_⟩
  cases i with
  |zero=>simp at hz;subst hz;exact⟨x,rfl,e⟩
  |succ i=>simpa using q2 i z (by simpa using hz)
 | [],_::_,h=>by cases h
 |_::_,[],h=>by cases h
theorem nZ.eqv [Fuel] {x y:SV} {v:Value} (h:nZ w m M x v) (e:x.eqv y):nZ w m M y v:=by
 cases x with
 |one x=>cases y with
  |one y=>exact Fp.eqv h e
  |tup=>cases e
 | tup xs=>cases y with
  |one y=>cases e
  |tup ys=>
   obtain⟨vs,rfl,hz,hs⟩:=h
   obtain⟨q1,q2⟩:=agW e
   refine⟨vs,rfl,by rw [hz,q1],λi y hy=> ?_⟩
   obtain⟨x,hx,exy⟩:=q2 i y hy
   exact(hs i x hx).eqv exy
theorem bF.YA [Fuel] {o o':bF} (e:o.eqv o'):o.live ↔ o'.live:=by
 cases o<;>cases o'<;>first|(cases e;done)|exact Iff.rfl
theorem Sr.eqv [Fuel] {k:Nat} {o o':bF} (h:Sr w m M k o) (e:o.eqv o'):Sr w m M k o':=by
 cases o with
 |dead=>cases o'<;>first|(cases e;done)|trivial
 | mp es=>
  cases o' with
  |mp es'=>
   have e:es=es':=e
   rw [<-e];exact h
  |_=>cases e
 | ms es=>
  cases o' with
  |ms es'=>
   have e:es=es':=e
   rw [<-e];exact h
  |_=>cases e
 | ra z n xs=>
  cases o' with
  |ra z' n' ys=>
   obtain⟨rfl,rfl,hx⟩:=e
   obtain⟨l,b,T,vs,e1,e2,e3,e4,e5,e6,e7,e8,e9,e10⟩:=h
   obtain⟨q1,q2⟩:=ace hx
   refine⟨l,b,T,vs,e1,e2,e3,e4,e5,e6,e7,e8,by rw [<-q1];exact e9,λi y hy=> ?_⟩
   obtain⟨x,hx,exy⟩:=q2 i y hy
   exact(e10 i x hx).eqv exy
  |_=>cases e
 |box xs=>
  cases o' with
  |box ys=>obtain⟨l,b,T,vs,e1,e2,e3,e4,e5⟩:=h;exact⟨l,b,T,vs,e1,e2,e3,e4.eqv e,e5⟩
  |_=>cases e
 | arr z n f=>
  cases o' with
  |arr z' n' f'=>
   obtain⟨rfl,rfl,hf⟩:=e
   obtain⟨l,e1,e2,e3,e4,e5⟩:=h
   refine⟨l,e1,e2,e3,e4,λb hb=> ?_⟩
   obtain⟨e6,T,vs,e7,e8,e9,e10⟩:=e5 b hb
   refine⟨e6,T,vs,e7,e8,e9,λi hi=> ?_⟩
   obtain⟨q1,q2⟩:=agU (hf i hi)
   refine⟨by rw [<-q1];exact(e10 i hi).1,λj x hx=> ?_⟩
   obtain⟨y,hy,hxy⟩:=q2 j x hx
   exact((e10 i hi).2 j y hy).eqv hxy
  |_=>cases e
end
def adR (h h':List bF):Prop:=h.length=h'.length∧∀(k:Nat) o',h'[k]? =some o'→∃o,h[k]? =some o/\o.eqv o'
theorem bF.rD [Fuel] (o:bF):o.eqv o:=by
 cases o with
 |dead=>trivial
 |mp es=>exact rfl
 |ms es=>exact rfl
 |box xs=>
  show al5 xs xs
  induction xs with
  |nil=>trivial
  |cons x xs ih=>exact⟨x.rD,ih⟩
 |arr z n f=>exact⟨rfl,rfl,λi _=>Aq (f i)⟩
 |ra z n xs=>
  refine⟨rfl,rfl,?_⟩
  induction xs with
  |nil=>trivial
  |cons x xs ih=>exact⟨x.rD,ih⟩
theorem adR.refl [Fuel] (h:List bF):adR h h:=⟨rfl,λk o ho=>⟨o,ho,o.rD⟩⟩
theorem adR.set [Fuel] {h h':List bF} (e:adR h h') (k:Nat) {o o':bF} (ho:o.eqv o'):adR (h.set k o) (h'.set k o'):=by
 refine⟨by simp [e.1],λj x hx=> ?_⟩
 by_cases hj:k=j
 ·subst hj
  have hlt:=aR hx
  simp at hlt
  rw [List.getElem?_set_self hlt]at hx
  cases hx
  exact⟨o,List.getElem?_set_self (by rw [e.1];exact hlt),ho⟩
 ·rw [List.getElem?_set_ne hj]at hx
  rw [List.getElem?_set_ne hj]
  exact e.2 j x hx
theorem adR.asD [Fuel]:∀{ws ws':List (Nat×bF)} {h h':List bF},adR h h'->agV ws ws'->adR (bD h ws) (bD h' ws')
 | [],[],h,h',e,_=>e
 |(k,o)::ws,(k',o')::ws',h,h',e,⟨hk,ho,hr⟩=>by
  subst hk
  show adR (bD (h.set k o) ws) (bD (h'.set k o') ws')
  exact adR.asD (adR.set e k ho) hr
 | [],_::_,_,_,_,h=>by cases h
 |_::_,[],_,_,_,h=>by cases h
theorem Mut.eqv [Fuel] {m:vW} {h h':List bF} (e:adR h h') (b:Nat):Mut m h b ↔ Mut m h' b:=by
 constructor
 ·rintro⟨k,o,l,hk,hl,r⟩
  have hlt:k<h'.length:=by rw [<-e.1];exact aR hk
  obtain⟨o2,ho2,he⟩:=e.2 k h'[k] (List.getElem?_eq_getElem hlt)
  rw [hk]at ho2;cases ho2
  exact⟨k,h'[k],l,List.getElem?_eq_getElem hlt,(bF.YA he).1 hl,r⟩
 ·rintro⟨k,o,l,hk,hl,r⟩
  obtain⟨o2,ho2,he⟩:=e.2 k o hk
  exact⟨k,o2,l,ho2,(bF.YA he).2 hl,r⟩
theorem MX.eqv [Fuel] {X:Mu} {m:vW} {h h':List bF} (e:adR h h'):MX X m h=MX X m h':=by
 funext b
 simp only [MX,Mut.eqv e b]
theorem bI.eqv [Fuel] {X:Mu} {w:World} {m:vW} {h h':List bF} (H:bI X w m h) (e:adR h h'):bI X w m h':=by
 refine⟨λk o hk=> ?_,λk k' o o' l l' b h1 h2 h3 h4 h5 h6 h7 h8=> ?_,λk hk=>H.used k (by rw [e.1];exact hk),λb hb=>H.adA b ((Mut.eqv e b).2 hb),H.xlt⟩
 ·obtain⟨o2,ho2,he⟩:=e.2 k o hk
  rw [<-MX.eqv e]
  exact(H.obj k o2 ho2).eqv he
 ·obtain⟨o2,ho2,he2⟩:=e.2 k o h1
  obtain⟨o3,ho3,he3⟩:=e.2 k' o' h2
  exact H.inj k k' o2 o3 l l' b ho2 ho3 ((bF.YA he2).2 h3) ((bF.YA he3).2 h4) h5 h6 h7 h8
theorem Stp.eqv [Fuel] {X:Mu} {w w':World} {m m':vW} {h h' h'':List bF} (S:Stp X w m h w' m' h') (e:adR h' h''):Stp X w m h w' m' h'':=
 ⟨S.rel.eqv e,by rw [<-MX.eqv e];exact S.later,S.os,S.tape,S.output,S.keep,λb hb=>S.mt b ((Mut.eqv e b).2 hb),λk h1 h2 h3=>S.nw k h1 (by obtain⟨o,ho,he⟩:=e.2 k _ h2;cases o with|dead=>exact ho|_=>cases he) h3⟩
def acf [Fuel] (P:Program) (f:FuncId) (args:List SV) (objs:List (Nat×bF)) (r:SV) (ws:List (Nat×bF)):Prop:=
 (∀(vs:Array Value) (w:World),(callFunc f vs).run P w= .ok (.enter f vs) w)∧
 ∀(X:Mu) (w:World) (m:vW) (h:List bF) (vs:List Value),bI X w m h->(∀k o,(k,o)∈objs->h[k]? =some o)→
  (∀k o,(k,o)∈ws->(∃o',(k,o')∈objs)\/(h[k]? =some .dead/\m k=none))->K7 (nZ w m (MX X m h)) args vs→
  Calls P f vs.toArray w λe w'=>∃v m',e= .returned v/\Stp X w m h w' m' (bD h ws)/\nZ w' m' (MX X m' (bD h ws)) r v
inductive Orc where
 |ov (r:SV)
 |ovo (r:SV) (ws:List (Nat×bF))
 |xo
 |call (r:SV) (ks:List Nat) (ws:List (Nat×bF))
def EM:List (Nat×Orc)->Nat->Option Orc
 | [],_=>none
 |(j,o)::r,i=>bif Nat.beq j i then some o else EM r i
def YX (ρ:Operand->Option SV):List Operand->Option (List SV)
 | []=>some []
 |x::r=>match ρ x,YX ρ r with
  |some s,some l=>some (s::l)
  |_,_=>none
def arI:SV->Option (FuncId×List SV)
 | .one (.s (.c (.val (.func (.func f) first caps))))=>bif Nat.beq first.size 0&&Nat.beq caps.size 0 then some (f,[])else none
 | .one (.s (.fn f ks))=>some (f,ks.map λk=> .one (.s (.pb k 0)))
 |_=>none
def aau (k:Nat):List (Nat×bF)->Bool
 | []=>false
 |(j,_)::r=>Nat.beq j k||aau k r
def adT (fv:SV) (as':List SV):Option (FuncId×List SV):=
 match fv with
 | .one (.s (.fb f k off))=>some (f,.one (.s (.pb k off))::as')
 |_=>match arI fv with
  |some (f,caps)=>some (f,as'++caps)
  |none=>none
def adU (id:Nat) (objs:List (Nat×bF)):List (Nat×bF)->Bool
 | []=>true
 |(k,_)::r=>(aau k objs||(Nat.ble id k&&Nat.blt k (id+64)))&&adU id objs r
def nJ (get:Nat->bF):List Nat->List (Nat×bF)
 | []=> []
 |k::r=>(k,get k)::nJ get r
def UM:List (Nat×bF)->Bool
 | []=>true
 |(_,.dead)::_=>false
 |_::r=>UM r
def bsP (l:List Bool):List Prop:=l.map (· =true)
theorem acg [Fuel] {l:List Bool} (h:∀q∈bsP l,q):∀b∈l,b=true:=λb hb=>h _ (List.mem_map.2 ⟨b,hb,rfl⟩)
def oG [Fuel] (P:Program) (id:Nat) (ρ:Operand->Option SV) (get:Nat->bF) (o:Op) (orc:Option Orc):Option Eff:=
 match orc with
 |none=>match evalOp P id ρ get o with
  |some e=>some {r:=e.r,ws:=e.ws,cs:=bsP e.bs}
  |none=>none
 |some (.ov r)=>match evalOp P id ρ get o with
  |some e=>some {r:=r,ws:=e.ws,cs:=bsP e.bs++ [e.r.eqv r]}
  |none=>none
 |some (.ovo r ws)=>match evalOp P id ρ get o with
  |some e=>some {r:=r,ws:=ws,cs:=bsP e.bs++ [e.r.eqv r,agV e.ws ws]}
  |none=>none
 |some .xo=>match vY P id ρ get o with
  |some e=>some {r:=e.r,ws:=e.ws,cs:=bsP e.bs}
  |none=>none
 | some (.call r ks ws)=>match o with
  | .call c=>match c.callee with
   | .value fo=>match ρ fo,YX ρ c.args.toList with
    |some fv,some as'=>match adT fv as' with
     |some (f,all)=>bif adU id (nJ get ks) ws&&UM (nJ get ks)then some {r:=r,ws:=ws,cs:= [acf P f all (nJ get ks) r ws]}else none
     |none=>none
    |_,_=>none
   |_=>none
  |_=>none
def apD [Fuel] (P:Program) (X:Mu) (w:World) (m:vW) (h:List bF) (o:Oper) (a:Act) (ws:List (Nat×bF)) (r:SV):Prop:=
 ∀(K:Act->World->Prop) (Q:Exit->Act->World->Prop),
  (∀w' m' v,Stp X w m h w' m' (bD h ws)->nZ w' m' (MX X m' (bD h ws)) r v->K (a.put o.dst v) w')->o.wp P a w K Q
theorem Yields.ok [Fuel] {P:Program} {X:Mu} {w:World} {m:vW} {h:List bF} {o:Oper} {a:Act} {ws:List (Nat×bF)} {r:SV} (hy:Yields P X w m h o a ws r):apD P X w m h o a ws r:=by
 intro K Q hK
 obtain⟨nx,w',m',v,hr,hn,hS,hs⟩:=hy
 unfold Oper.wp
 rw [hr]
 rcases hn with rfl|⟨rfl,rfl⟩
 ·exact hK w' m' v hS hs
 ·exact hK w' m' undef hS hs
theorem apD.eqv [Fuel] {P:Program} {X:Mu} {w:World} {m:vW} {h:List bF} {o:Oper} {a:Act} {ws ws':List (Nat×bF)} {r r':SV} (hy:apD P X w m h o a ws r) (hw:agV ws ws') (hr:r.eqv r'):
  apD P X w m h o a ws' r':=by
 intro K Q hK
 have e:=adR.asD (adR.refl h) hw
 refine hy K Q (λw' m' v hS hs=>hK w' m' v (hS.eqv e) ?_)
 rw [<-MX.eqv e]
 exact hs.eqv hr
theorem YZ [Fuel]:∀ws:List (Nat×bF),agV ws ws
 | []=>trivial
 |(k,o)::r=>⟨rfl,o.rD,YZ r⟩
theorem adV [Fuel] {w:World} {m:vW} {M:Mu} {ρ:Operand->Option SV} {ev:Operand->Value} (hρ:∀x s,ρ x=some s->nZ w m M s (ev x)):∀{xs:List Operand} {l:List SV},YX ρ xs=some l->K7 (nZ w m M) l (xs.map ev)
 | [],l,hv=>by simp [YX]at hv;subst hv;exact .nil
 | x::xs,l,hv=>by
  simp only [YX]at hv
  split at hv
  ·rename_i s l' h1 h2
   cases hv
   exact .cons (hρ x _ h1) (adV hρ h2)
  ·cases hv
theorem K7.append [Fuel] {α β:Type} {R:α->β->Prop}:∀{l l':List α} {r r':List β},K7 R l r->K7 R l' r'->K7 R (l++l') (r++r')
 |_,_,_,_,.nil,h=>h
 |_,_,_,_,.cons h t,h'=> .cons h (K7.append t h')
theorem abm [Fuel] {k:Nat}:∀{l:List (Nat×bF)},aau k l=true→∃o,(k,o)∈l
 | [],h=>by cases h
 |(j,o)::r,h=>by
  simp only [aau,Bool.or_eq_true]at h
  rcases h with h|h
  ·have:=Nat.eq_of_beq_eq_true h;subst this;exact⟨o,by simp⟩
  ·obtain⟨o',ho⟩:=abm h;exact⟨o',by simp [ho]⟩
theorem abn [Fuel] {id:Nat} {objs:List (Nat×bF)}:∀{ws:List (Nat×bF)},adU id objs ws=true→∀k o,(k,o)∈ws->(∃o',(k,o')∈objs)\/(id<=k/\k<id+64)
 | [],_,k,o,h=>by cases h
 | (j,o')::r,hn,k,o,h=>by
  simp only [adU,Bool.and_eq_true,Bool.or_eq_true]at hn
  obtain⟨h1,h2⟩:=hn
  cases h with
  | head=>
   rcases h1 with h1|⟨h1,h3⟩
   ·exact .inl (abm h1)
   ·refine .inr ⟨Nat.le_of_ble_eq_true h1,?_⟩
    simp only [Nat.blt]at h3
    exact Nat.le_of_ble_eq_true h3
  |tail _ h=>exact abn h2 k o h
theorem Nu [Fuel]:∀{l:List (Nat×bF)},UM l=true→∀k o,(k,o)∈l->o.live
 | [],_,k,o,h=>by cases h
 | (j,o')::r,hl,k,o,h=>by
  cases h with
  |head=>cases o' with
   |dead=>cases hl
   |_=>trivial
  |tail _ h=>cases o' with
   |dead=>cases hl
   |_=>exact Nu (l:=r) hl k o h
theorem Y0 [Fuel] {get:Nat->bF}:∀{l:List Nat} {k:Nat} {o:bF},(k,o)∈nJ get l->get k=o
 | [],_,_,h=>by cases h
 |j::r,k,o,h=>by
  cases h with
  |head=>rfl
  |tail _ h=>exact Y0 h
theorem Xo [Fuel] {get get':Nat->bF} (hg:∀k,(get k).live->get' k=get k):∀{l:List Nat},UM (nJ get l)=true->nJ get' l=nJ get l
 | [],_=>rfl
 | k::r,h=>by
  have h1:=Nu h k (get k) (by simp [nJ])
  have h2:UM (nJ get r)=true:=by
   simp only [nJ]at h
   generalize get k=o at h h1
   cases o with
   |dead=>exact h1.elim
   |_=>exact h
  simp only [nJ,hg k h1,Xo hg h2]
section
variable {P:Program} {X:Mu} {w:World} {m:vW} {h:List bF}
theorem ach [Fuel] (H:bI X w m h) {id:Nat} (hid:∀k,id<=k->k<id+64->h[k]? =some .dead/\m k=none) {a:Act} {o:Oper} {ρ:Operand->Option SV} {orc:Option Orc}
  (hρ:∀x s,ρ x=some s->nZ w m (MX X m h) s (a.eval x)) {eff:Eff} (he:oG P id ρ (mX h) o.op orc=some eff) (hc:∀q∈eff.cs,q):
  apD P X w m h o a eff.ws eff.r:=by
 obtain⟨hd,hm⟩:=hid id (Nat.le_refl _) (by omega)
 cases orc with
 |none=>
  simp only [oG]at he
  cases hv:evalOp P id ρ (mX h) o.op with
  |none=>rw [hv]at he;cases he
  |some e=>rw [hv]at he;cases he;exact(Qp H hd hm hρ hv (acg hc)).ok
 | some orc =>
  cases orc with
  | ov r=>
   simp only [oG]at he
   cases hv:evalOp P id ρ (mX h) o.op with
   |none=>rw [hv]at he;cases he
   |some e=>
    rw [hv]at he;cases he
    exact(Qp H hd hm hρ hv (acg λq hq=>hc q (by simp [hq]))).ok.eqv (YZ _) (hc _ (by simp))
  | ovo r ws=>
   simp only [oG]at he
   cases hv:evalOp P id ρ (mX h) o.op with
   |none=>rw [hv]at he;cases he
   |some e=>
    rw [hv]at he;cases he
    exact(Qp H hd hm hρ hv (acg λq hq=>hc q (by simp [hq]))).ok.eqv (hc _ (by simp)) (hc _ (by simp))
  |xo=>
   simp only [oG]at he
   cases hv:vY P id ρ (mX h) o.op with
   |none=>rw [hv]at he;cases he
   |some e=>rw [hv]at he;cases he;exact(afI H hd hm hρ hv (acg hc)).ok
  | call r ks ws=>
   obtain⟨dst,op,type,pos,after,guard⟩:=o
   simp only [oG]at he
   generalize an2:nJ (mX h) ks=objs at he
   cases op<;>first|(cases he;done)|skip
   rename_i c
   obtain⟨callee,args,argTypes⟩:=c
   simp only at he
   cases callee<;>first|(cases he;done)|skip
   rename_i fo
   simp only at he
   cases hf:ρ fo with
   |none=>rw [hf]at he;cases he
   | some fv =>
    cases has:YX ρ args.toList with
    |none=>rw [hf,has]at he;cases he
    | some as' =>
     rw [hf,has]at he
     simp only at he
     cases hfn:adT fv as' with
     |none=>rw [hfn]at he;cases he
     | some q =>
      obtain⟨f,all⟩:=q
      rw [hfn]at he
      simp only at he
      cases hb:adU id objs ws&&UM objs with
      |false=>rw [hb]at he;cases he
      | true =>
       rw [hb]at he
       simp only [cond_true]at he
       cases he
       simp only [Bool.and_eq_true]at hb
       have hcall:acf P f all objs r ws:=hc _ (by simp)
       have ajw:∀k o,(k,o)∈objs->h[k]? =some o:=λk o hk=>
        l5 (Y0 (by rw [an2];exact hk)) (Nu hb.2 k o hk)
       obtain ⟨fvs,cvs,hcv,hargs⟩:∃fvs cvs:List Value,a.eval fo= .func (.func f) fvs.toArray cvs.toArray/\K7 (nZ w m (MX X m h)) all (fvs++(args.toList.map a.eval++cvs)):=by
        have hs:=hρ fo _ hf
        have ha:=adV hρ has
        unfold adT at hfn
        split at hfn
        ·rename_i f' k off
         cases hfn
         generalize a.eval fo=v at hs
         cases hs with
         |fb _ _ _ b l hk hb'=>exact⟨[_],[],rfl,.cons (.pb k off b l hk hb') (by rw [List.append_nil];exact ha)⟩
        ·cases hfn':arI fv with
         |none=>rw [hfn']at hfn;cases hfn
         | some q=>
          obtain⟨f2,caps⟩:=q
          rw [hfn']at hfn
          cases hfn
          suffices∃cvs:List Value,a.eval fo= .func (.func f) #[] cvs.toArray/\K7 (nZ w m (MX X m h)) caps cvs by
           obtain⟨cvs,e1,e2⟩:=this
           exact⟨[],cvs,e1,ha.append e2⟩
          unfold arI at hfn'
          split at hfn'
          ·rename_i f' first arJ hno
           cases hz:Nat.beq first.size 0&&Nat.beq arJ.size 0 with
           |false=>rw [hz]at hfn';cases hfn'
           |true=>
            rw [hz]at hfn';cases hfn'
            simp only [Bool.and_eq_true]at hz
            have h1:=Array.eq_empty_of_size_eq_zero (Nat.eq_of_beq_eq_true hz.1)
            have h2:=Array.eq_empty_of_size_eq_zero (Nat.eq_of_beq_eq_true hz.2)
            subst h1;subst h2
            generalize a.eval fo=v at hs
            cases hs with
            |c hs=>cases hs;exact⟨[],rfl,.nil⟩
          ·rename_i f' ks hno
           cases hfn'
           generalize a.eval fo=v at hs
           cases hs with
           | fn _ _ vs hsz hk=>
            refine⟨vs.toList,by simp,?_⟩
            have:∀(ks:List Nat) (l:List Value),l.length=ks.length->(∀(i:Nat) k,ks[i]? =some k→∃lo b,m k=some lo/\lo.blk=some b/\l[i]? =some (.pointer (some ⟨b,0,none⟩)))→
              K7 (nZ w m (MX X m h)) (ks.map λk=>SV.one (.s (.pb k 0))) l:=by
             intro ks
             induction ks with
             |nil=>intro l hl _;have:l= []:=List.eq_nil_of_length_eq_zero (by simpa using hl);subst this;exact .nil
             | cons k ks ih=>
              intro l hl hk
              cases l with
              |nil=>simp at hl
              |cons v l=>
               obtain⟨lo,b,e1,e2,e3⟩:=hk 0 k rfl
               simp at e3;subst e3
               refine .cons (.pb k 0 b lo e1 e2) (ih l (by simpa using hl) (λi k' hi=> ?_))
               have:=hk (i+1) k' (by simpa using hi)
               simpa using this
            exact this ks vs.toList (by simpa using hsz) (λi k hi=>by obtain⟨lo,b,e1,e2,e3⟩:=hk i k hi;exact⟨lo,b,e1,e2,by simpa using e3⟩)
          ·cases hfn'
       have hC:=hcall.2 X w m h _ H ajw (λk o hk=>by
        rcases abn hb.1 k o hk with h1|h1
        ·exact .inl h1
        ·exact .inr (hid k h1.1 h1.2)) hargs
       intro K Q hK
       unfold Oper.wp
       have hrun:(execOp a.eval ⟨dst,.call ⟨.value fo,args,argTypes⟩,type,pos,after,guard⟩).run P w= .ok (.enter f (fvs++(args.toList.map a.eval++cvs)).toArray) w:=by
        simp only [execOp,resolve,Sem.run_bind,hcv,Deferred.ofValue,Sem.run_pure,Result.andThen_ok,invoke]
        rw [hcall.1]
        congr 2
        apply Array.ext'
        simp
       rw [hrun]
       simp only [Oper.upon]
       refine hC.mono (λe w' he=> ?_)
       obtain⟨v,m',rfl,hS,hs⟩:=he
       exact hK w' m' v hS hs
end
end Go.AM
namespace Go.AM
open Go Go.CP Go.RowKit
structure Far [Fuel] (X:Mu) (w:World) (m:vW) (h:List bF) (w':World) (m':vW) (h':List bF):Prop where
  rel:bI X w' m' h'
  later:Later w m (MX X m h) w' m' (MX X m' h')
  os:w'.os=w.os
  tape:w'.tape=w.tape
  output:UG w w'
  keep:∀b,b<w.heap.size→¬Mut m h b->w'.heap[b]? =w.heap[b]?
  mt:∀b,Mut m' h' b->Mut m h b\/w.heap.size<=b
theorem Stp.far [Fuel] {X:Mu} {w w':World} {m m':vW} {h h':List bF} (s:Stp X w m h w' m' h'):Far X w m h w' m' h':=⟨s.rel,s.later,s.os,s.tape,s.output,s.keep,s.mt⟩
theorem Far.refl [Fuel] {X:Mu} {w:World} {m:vW} {h:List bF} (H:bI X w m h):Far X w m h w m h:=
  ⟨H,Later.refl,rfl,rfl,UG.same _,λ_ _ _=>rfl,λ_ hb=> .inl hb⟩
theorem Far.trans [Fuel] {X:Mu} {w w' w'':World} {m m' m'':vW} {h h' h'':List bF} (a:Far X w m h w' m' h') (b:Far X w' m' h' w'' m'' h''):Far X w m h w'' m'' h'':=by
  refine⟨b.rel,a.later.trans b.later,b.os.trans a.os,b.tape.trans a.tape,a.output.trans b.output,λk hk hM=> ?_,λk hk=> ?_⟩
  · have hs:=a.later.size
    rw [b.keep k (by omega) (λhM'=>by rcases a.mt k hM' with h1|h1;exact hM h1;omega),a.keep k hk hM]
  · rcases b.mt k hk with h1|h1
    · exact a.mt k h1
    · exact .inr (Nat.le_trans a.later.size h1)
theorem Nv [Fuel] {P:Program} {id:Nat} {ρ:Operand->Option SV} {get get':Nat->bF} {o:Op} {e:Eff} (hg:∀k,(get k).live->get' k=get k) (he:evalOp P id ρ get o=some e):evalOp P id ρ get' o=some e:=by
  have asE:∀{k cs},get k= .box cs->get' k= .box cs:=λ{k cs} h=>by rw [hg k (by rw [h];trivial),h]
  have harr:∀{k z n f},get k= .arr z n f->get' k= .arr z n f:=λ{k z n f} h=>by rw [hg k (by rw [h];trivial),h]
  have hvw:∀x,vw get' x=vw get x∨∃k,vw get x= .own k:=by
    intro x
    cases x with
    | own k=>
      simp only [vw]
      cases hk:get k with
      |arr z n f=>rw [harr hk];exact .inl rfl
      |box=>exact .inr ⟨k,rfl⟩
      |mp=>exact .inr ⟨k,rfl⟩
      |ra=>exact .inr ⟨k,rfl⟩
      |ms=>exact .inr ⟨k,rfl⟩
      |dead=>exact .inr ⟨k,rfl⟩
    |c y=>cases y<;>exact .inl rfl
    |_=>exact .inl rfl
  have hsrc:∀{z x r},LP z get x=some r->LP z get' x=some r:=by
    intro z x r hr
    cases x with
    | sl k lo len=>
      simp only [LP,Tg]at hr⊢
      cases hk:get k with
      |arr z' n f=>rw [hk]at hr;rw [harr hk];exact hr
      |box=>rw [hk]at hr;cases hr
      |mp es=>rw [hk]at hr;cases hr
      |ra z1 n1 cs1=>rw [hk]at hr;cases hr
      |ms es1=>rw [hk]at hr;cases hr
      |dead=>rw [hk]at hr;cases hr
    | own k=>
      simp only [LP]at hr⊢
      cases hk:get k with
      |arr z' n f=>rw [hk]at hr;rw [harr hk];exact hr
      |box=>rw [hk]at hr;cases hr
      |mp es=>rw [hk]at hr;cases hr
      |ra z1 n1 cs1=>rw [hk]at hr;cases hr
      |ms es1=>rw [hk]at hr;cases hr
      |dead=>rw [hk]at hr;cases hr
    |c y=>cases y<;>exact hr
    |_=>exact hr
  have hdst:∀{z x r},YK z get x=some r->YK z get' x=some r:=by
    intro z x r hr
    unfold YK at hr⊢
    cases x with
    |own k=>
        simp only at hr⊢
        cases hk:get k with
        |arr z' n f=>rw [hk]at hr;rw [harr hk];exact hr
        |box=>rw [hk]at hr;cases hr
        |mp es=>rw [hk]at hr;cases hr
        |ra z1 n1 cs1=>rw [hk]at hr;cases hr
        |ms es1=>rw [hk]at hr;cases hr
        |dead=>rw [hk]at hr;cases hr
    |_=>exact hr
  cases o with
  | load T a=>
    simp only [evalOp]at he⊢
    split at he
    · rename_i p hp
      unfold agB at he⊢
      cases p with
      | pb k off=>
        simp only at he⊢
        cases hk:get k with
        |box cs=>rw [hk]at he;rw [asE hk];exact he
        |arr=>rw [hk]at he;cases he
        |mp es=>rw [hk]at he;cases he
        |ra z1 n1 cs1=>rw [hk]at he;cases he
        |ms es1=>rw [hk]at he;cases he
        |dead=>rw [hk]at he;cases he
      | pe k i off=>
        simp only at he⊢
        cases hk:get k with
        |arr z n f=>rw [hk]at he;rw [harr hk];exact he
        |box=>rw [hk]at he;cases he
        |mp es=>rw [hk]at he;cases he
        |ra z1 n1 cs1=>rw [hk]at he;cases he
        |ms es1=>rw [hk]at he;cases he
        |dead=>rw [hk]at he;cases he
      |_=>exact he
    · cases he
  | store T a v=>
    simp only [evalOp]at he⊢
    split at he
    · rename_i p v' hp hv
      unfold YJ at he⊢
      cases hi:P.info? T with
      |none=>rw [hi]at he;cases he
      | some i=>
        rw [hi]at he
        simp only at he⊢
        cases hb:(Nat.beq (iq v').length i.size&&(iq v').all SC.scalar)with
        |false=>rw [hb]at he;cases he
        | true=>
          rw [hb]at he
          simp only [cond_true]at he⊢
          cases p with
          | pb k off=>
            simp only at he⊢
            cases hk:get k with
            |box cs=>rw [hk]at he;rw [asE hk];exact he
            |arr=>rw [hk]at he;cases he
            |mp es=>rw [hk]at he;cases he
            |ra z1 n1 cs1=>rw [hk]at he;cases he
            |ms es1=>rw [hk]at he;cases he
            |dead=>rw [hk]at he;cases he
          | pe k j off=>
            simp only at he⊢
            cases hk:get k with
            |arr z n f=>rw [hk]at he;rw [harr hk];exact he
            |box=>rw [hk]at he;cases he
            |mp es=>rw [hk]at he;cases he
            |ra z1 n1 cs1=>rw [hk]at he;cases he
            |ms es1=>rw [hk]at he;cases he
            |dead=>rw [hk]at he;cases he
          |_=>exact he
    · cases he
  | slice t x lo hi mx=>
    simp only [evalOp]at he⊢
    split at he
    · rename_i p lo' hi' mx' hx h1 h2 h3
      unfold ab3 at he⊢
      have hno:∀k,vw get p≠.own k:=by
        intro k hk
        rw [hk]at he
        unfold RO at he
        split at he
        · split at he
          · cases he
          · split at he
            · split at he
              · rename_i hl;simp [lenOf]at hl
              · cases he
            · cases he
        · cases he
        · cases he
      have hv:vw get' p=vw get p:=by
        rcases hvw p with hv|⟨k,hv⟩
        · exact hv
        · exact absurd hv (hno k)
      rw [hv]
      generalize vw get p=p at he
      unfold RO at he⊢
      cases hu:P.underlying t with
      |none=>rw [hu]at he;cases he
      | some d=>
        rw [hu]at he
        cases d with
        | slice e'=>
          simp only at he⊢
          cases hie:P.info? e' with
          |none=>rw [hie]at he;cases he
          | some ie=>
            rw [hie]at he
            simp only at he⊢
            cases mx' with
            |some m=>exact he
            | none=>
              simp only at he⊢
              cases p with
              | sl k l len=>
                simp only at he⊢
                cases hk:get k with
                |arr z n f=>rw [hk]at he;rw [harr hk];exact he
                |box=>rw [hk]at he;cases he
                |mp es=>rw [hk]at he;cases he
                |ra z1 n1 cs1=>rw [hk]at he;cases he
                |ms es1=>rw [hk]at he;cases he
                |dead=>rw [hk]at he;cases he
              |c y=>cases y<;>exact he
              |_=>exact he
        |_=>exact he
    · cases he
  | convert s d x=>
    simp only [evalOp]at he⊢
    split at he
    · exact he
    · exact he
    · rename_i e k h1 h2 h3
      cases hk:get k with
      |arr z n f=>rw [hk]at he;rw [harr hk];exact he
      |box=>rw [hk]at he;cases he
      |mp es=>rw [hk]at he;cases he
      |ra z1 n1 cs1=>rw [hk]at he;cases he
      |ms es1=>rw [hk]at he;cases he
      |dead=>rw [hk]at he;cases he
    · cases he
  | indexAddr t x i=>
    simp only [evalOp]at he⊢
    split at he
    · rename_i p k n hx hi
      cases p with
      | own k=>
        simp only [JE]at he⊢
        split at he
        · split at he
          · rename_i h1 h2;rw [h1,harr h2];exact he
          · cases he
        · cases he
      |_=>
      try (rename_i y;cases y)
      all_goals simp only [JE]at he⊢
      all_goals unfold Cw at he⊢
      all_goals
        cases hu:P.underlying t with
        |none=>rw [hu]at he;cases he
        | some d=>
          rw [hu]at he
          cases d with
          | slice e'=>
            simp only at he⊢
            cases hie:P.info? e' with
            |none=>rw [hie]at he;cases he
            | some ie=>
              rw [hie]at he
              simp only at he⊢
              first
                |exact he
                | (split at he
                   · rename_i hk;rw [harr hk];exact he
                   · cases he)
          |_=>exact he
    · cases he
  | call c=>
    simp only [evalOp]at he⊢
    cases alM:c.callee with
    |value f=>rw [alM]at he;cases he
    |invoke r n=>rw [alM]at he;cases he
    | builtin b =>
      rw [alM]at he
      simp only at he⊢
      unfold GZ at he⊢
      split at he
      · split at he
        · rename_i v hv
          unfold alZ at he⊢
          split at he
          · exact he
          · split at he
            · rename_i y
              rcases hvw y with hy|⟨k,hy⟩
              · rw [hy];exact he
              · rw [hy]at he;simp [lenOf]at he
            · cases he
          · exact he
          · cases he
        · cases he
      · split at he
        · rename_i s x u h1 h2 h3
          unfold RJ at he⊢
          split at he
          · cases he
          · rename_i q i z hq
            split at he
            · rename_i n f c1 w1 k g c2 hd hs
              rw [hdst hd,hsrc hs]
              exact he
            · cases he
        · exact he
        · cases he
      · split at he
        · rename_i s x h1 h2
          unfold agD at he⊢
          have hv:vw get' s=vw get s:=by
            rcases hvw s with hv|⟨k,hv⟩
            · exact hv
            · rw [hv]at he
              unfold Wj at he
              split at he
              · cases he
              · rename_i i _ _
                cases hs:LP i.size get x<;>rw [hs]at he<;>cases he
          rw [hv]
          generalize vw get s=s at he
          unfold Wj at he⊢
          split at he
          · cases he
          · rename_i q i z hq
            cases s with
            | sl k lo len=>
              cases hs:LP i.size get x with
              |none=>rw [hs]at he;cases he
              | some r=>
                rw [hs]at he
                rw [hsrc hs]
                simp only at he⊢
                cases hk:get k with
                |arr z n f=>rw [hk]at he;rw [harr hk];exact he
                |box=>rw [hk]at he;cases he
                |mp es=>rw [hk]at he;cases he
                |ra z1 n1 cs1=>rw [hk]at he;cases he
                |ms es1=>rw [hk]at he;cases he
                |dead=>rw [hk]at he;cases he
            |_=>cases LP i.size get x<;>cases he
        · cases he
      · split at he
        · rename_i s h1
          unfold ab2 at he⊢
          have hv:vw get' s=vw get s:=by
            rcases hvw s with hv|⟨k,hv⟩
            · exact hv
            · rw [hv]at he
              unfold RN at he
              split at he
              · cases he
              · cases he
          rw [hv]
          generalize vw get s=s at he
          unfold RN at he⊢
          split at he
          · cases he
          · cases s with
            | sl k lo len=>
              simp only at he⊢
              cases hk:get k with
              |arr z n f=>rw [hk]at he;rw [harr hk];exact he
              |box=>rw [hk]at he;cases he
              |mp es=>rw [hk]at he;cases he
              |ra z1 n1 cs1=>rw [hk]at he;cases he
              |ms es1=>rw [hk]at he;cases he
              |dead=>rw [hk]at he;cases he
            |_=>cases he
        · cases he
      · exact he
      · exact he
      · exact he
      · cases he
  | lookup t x i ok=>
    simp only [evalOp]at he⊢
    unfold adE at he⊢
    split at he
    · rename_i z k n h1 h2 h3
      cases hk:get k with
      |mp es=>rw [hk]at he;rw [hg k (by rw [hk];trivial),hk];exact he
      |ra z1 n1 cs1=>rw [hk]at he;rw [hg k (by rw [hk];trivial),hk];exact he
      |ms es1=>rw [hk]at he;rw [hg k (by rw [hk];trivial),hk];exact he
      |box=>rw [hk]at he;cases he
      |arr=>rw [hk]at he;cases he
      |dead=>rw [hk]at he;cases he
    · cases he
  | mapUpdate t x i v=>
    simp only [evalOp]at he⊢
    unfold ajD at he⊢
    split at he
    · rename_i z k n u h1 h2 h3 h4
      cases hk:get k with
      |mp es=>rw [hk]at he;rw [hg k (by rw [hk];trivial),hk];exact he
      |ra z1 n1 cs1=>rw [hk]at he;rw [hg k (by rw [hk];trivial),hk];exact he
      |ms es1=>rw [hk]at he;rw [hg k (by rw [hk];trivial),hk];exact he
      |box=>rw [hk]at he;cases he
      |arr=>rw [hk]at he;cases he
      |dead=>rw [hk]at he;cases he
    · cases he
  |makeMap t r=>cases r<;>exact he
  | buildSlice t n ps=>
    simp only [evalOp]at he⊢
    cases hp:partsOf ρ ps.toList with
    |none=>rw [hp]at he;cases he
    | some l=>
      rw [hp]at he
      simp only at he⊢
      unfold abb at he⊢
      split at he
      · rename_i ks hks
        unfold ajA at he⊢
        split at he
        · cases he
        · rename_i i z hei
          cases hb:(Nat.beq i.size 1&&Nat.beq ks.length n&&Nat.ble (n*i.size) 16777216&&ks.all (λk=>Xj (get k)))with
          |false=>rw [hb]at he;cases he
          | true=>
            have hb0:=hb
            rw [Bool.and_eq_true]at hb
            have hall:=List.all_eq_true.1 hb.2
            have hgk:∀k∈ks,get' k=get k:=λk hk=>hg k (by have:=hall k hk;revert this;cases get k<;>intro h<;>first|trivial|cases h)
            have e1:ks.all (λk=>Xj (get' k))=true:=List.all_eq_true.2 λk hk=>by rw [hgk k hk];exact hall k hk
            have e2:(ks.map λk=>rdO (get' k))=ks.map λk=>rdO (get k):=List.map_congr_left λk hk=>by rw [hgk k hk]
            rw [hb0]at he
            rw [hb.1,e1,e2]
            exact he
      · exact he
  |_=>exact he
def al6:bF->Bool
  | .dead=>false
  |_=>true
theorem Wo [Fuel] {o:bF} (h:al6 o=true):o.live:=by cases o<;>first|trivial|cases h
def SC.refs:SC->List Nat
  | .own k=> [k]
  | .sl k _ _=> [k]
  | .pb k _=> [k]
  | .pe k _ _=> [k]
  | .fn _ ks=>ks
  | .mp k=> [k]
  | .fb _ k _=> [k]
  |_=> []
def AV.refs:AV->List Nat
  | .s x=>x.refs
  | .agg cs=>cs.flatMap SC.refs
def SV.refs:SV->List Nat
  | .one a=>a.refs
  | .tup as'=>as'.flatMap AV.refs
def JG:Op->Bool
  | .load _ _=>true
  | .store _ _ _=>true
  | .indexAddr _ _ _=>true
  | .slice _ _ _ _ _=>true
  | .convert _ _ _=>true
  | .lookup _ _ _ _=>true
  | .mapUpdate _ _ _ _=>true
  | .buildSlice _ _ _=>true
  | .call c=>match c.callee with
    | .builtin .append=>true
    | .builtin .copy=>true
    | .builtin .clear=>true
    | .builtin .len=>true
    |_=>false
  |_=>false
def Qg (k:Nat):List Nat->Bool
  | []=>false
  |j::r=>Nat.beq j k||Qg k r
theorem mD [Fuel] {k:Nat}:∀{l:List Nat},Qg k l=true ↔ k∈l
  | []=>by simp [Qg]
  | j ::r=>by
    simp only [Qg,Bool.or_eq_true,List.mem_cons,mD]
    constructor
    · rintro(h|h)
      · exact .inl (Nat.eq_of_beq_eq_true h).symm
      · exact .inr h
    · rintro(h|h)
      · subst h;exact .inl (Nat.beq_refl k)
      · exact .inr h
def cut (σ:List (Nat×SV)):List Nat->List (Nat×SV)
  | []=> []
  | x::r=>match look σ x with
    |some s=>(x,s)::cut σ r
    |none=>cut σ r
def Nw (h:List bF) (R:List Nat):Nat->bF:=λk=>bif Qg k R then mX h k else .dead
def afJ:Option Orc->List Nat
  |some (.call _ ks _)=>ks
  |_=> []
def readsOf (σ:List (Nat×SV)) (o:Op) (orc:Option Orc):List Nat:=
  bif JG o then σ.flatMap (λp=>p.2.refs)else afJ orc
def ajU (ops:Array Oper) (σ:List (Nat×SV)):Option (Nat×Bool)->Option Bool
  |none=>some true
  | some (j,want)=>match(ops[j]?).bind (·.dst)with
    | some d=>match look σ d with
      |some (.one (.s (.c (.val (.bool b)))))=>some (b==want)
      |some (.one (.s (.c (.val (.tuple _)))))=>some false
      |_=>none
    |none=>none
def CB (id:Nat) (get:Nat->bF):List (Nat×bF)->Bool
  | []=>true
  |(k,_)::r=>((Nat.ble id k&&Nat.blt k (id+64))||al6 (get k))&&CB id get r
def aav (nt:Nat):Option Nat->Bool
  |none=>true
  |some d=>Nat.blt d nt
structure Rec where
  r:SV
  ws:List (Nat×bF)
  cs:List Prop
  R:List Nat
def G6 [Fuel] (P:Program) (nt:Nat) (ops:Array Oper) (orc:List (Nat×Orc)) (base i:Nat) (o:Oper) (σ:List (Nat×SV)) (h:List bF):Option Rec:=
  let σr:=cut σ (o.looksAt ops)
  bif aav nt o.dst then
    match ajU ops σr o.guard with
    | some true=>
      let R:=readsOf σr o.op (EM orc i)
      match oG P (base+64*i) (opd σr) (Nw h R) o.op (EM orc i)with
      |some e=>bif CB (base+64*i) (Nw h R) e.ws then some {r:=e.r,ws:=e.ws,cs:=e.cs,R:=R}else none
      |none=>none
    |some false=>some {r:=mkv undef,ws:= [],cs:= [],R:= []}
    |none=>none
  else none
end Go.AM
namespace Go.AM
open Go Go.CP Go.RowKit
def Slots (w:World) (m:vW) (M:Mu) (nt:Nat) (σ:List (Nat×SV)) (a:Act):Prop:=
 a.tmps.size=nt∧∀x s,look σ x=some s→∃v,a.tmps[x]? =some v/\nZ w m M s v
theorem RP [Fuel]:∀(σ:List (Nat×SV)) (d x:Nat),look (del σ d) x=if d=x then none else look σ x
 | [],d,x=>by simp [del,look]
 | (i,s)::r,d,x=>by
  simp only [del]
  cases hid:Nat.beq i d with
  | true=>
   have:=Nat.eq_of_beq_eq_true hid;subst this
   simp only [cond_true,RP r i x,look]
   by_cases hx:i=x
   ·simp [hx]
   ·have:Nat.beq i x=false:=by cases hb:Nat.beq i x;rfl;exact absurd (Nat.eq_of_beq_eq_true hb) hx
    simp [hx,this]
  | false=>
   simp only [cond_false,look,RP r d x]
   cases hix:Nat.beq i x with
   |true=>
    have:=Nat.eq_of_beq_eq_true hix;subst this
    have:¬d=i:=by intro e;subst e;rw [Nat.beq_refl]at hid;cases hid
    simp [this]
   |false=>simp
theorem uN [Fuel] (σ:List (Nat×SV)) (d:Option Nat) (s:SV) (x:Nat):look (Sv σ d s) x=if d=some x then some s else look σ x:=by
 cases d with
 |none=>simp [Sv]
 | some d=>
  simp only [Sv,look,RP]
  cases hb:Nat.beq d x with
  |true=>have:=Nat.eq_of_beq_eq_true hb;subst this;simp
  |false=>
   have:¬d=x:=by intro e;subst e;rw [Nat.beq_refl]at hb;cases hb
   simp [this]
theorem RQ [Fuel] (σ:List (Nat×SV)) (x:Nat):∀(L:List Nat) (s:SV),look (cut σ L) x=some s->look σ x=some s
 | [],s,h=>by simp [cut,look]at h
 | y::L,s,h=>by
  simp only [cut]at h
  cases hy:look σ y with
  |none=>rw [hy]at h;exact RQ σ x L s h
  |some u=>
   rw [hy]at h
   simp only [look]at h
   cases hb:Nat.beq y x with
   |true=>have:=Nat.eq_of_beq_eq_true hb;subst this;rw [hb]at h;simp at h;rw [hy,h]
   |false=>rw [hb]at h;exact RQ σ x L s h
theorem uz [Fuel] (σ:List (Nat×SV)) (x:Nat):∀(L:List Nat),x∈L->look (cut σ L) x=look σ x
 | [],h=>by cases h
 | y::L,h=>by
  simp only [cut]
  cases hy:look σ y with
  | none=>
   cases h with
   |head=>
    cases hl:look (cut σ L) x with
    |none=>rw [hy]
    |some s=>rw [RQ σ x L s hl]
   |tail _ h=>exact uz σ x L h
  | some u=>
   simp only [look]
   cases hb:Nat.beq y x with
   |true=>have:=Nat.eq_of_beq_eq_true hb;subst this;simp [hy]
   |false=>
    cases h with
    |head=>rw [Nat.beq_refl]at hb;cases hb
    |tail _ h=>simp;exact uz σ x L h
theorem adW [Fuel] {σ σ':List (Nat×SV)}:∀{L:List Nat},(∀x∈L,look σ x=look σ' x)->cut σ L=cut σ' L
 | [],_=>rfl
 |y::L,h=>by
  simp only [cut]
  rw [h y (by simp),adW (λx hx=>h x (by simp [hx]))]
theorem aik [Fuel] {h h':List bF} {R:List Nat} (hr:∀k∈R,mX h k=mX h' k):Nw h R=Nw h' R:=by
 funext k
 unfold Nw
 cases hb:Qg k R with
 |false=>rfl
 |true=>simp only [cond_true];exact hr k (mD.1 hb)
theorem afK [Fuel] {P:Program} {nt:Nat} {ops:Array Oper} {orc:List (Nat×Orc)} {base i:Nat} {o:Oper} {σ σ':List (Nat×SV)} {h h':List bF} {rc:Rec}
  (he:G6 P nt ops orc base i o σ h=some rc) (hσ:∀x∈o.looksAt ops,look σ x=look σ' x) (hh:∀k∈rc.R,mX h k=mX h' k):G6 P nt ops orc base i o σ' h'=some rc:=by
 unfold G6 at he⊢
 simp only at he⊢
 rw [<-adW hσ]
 cases hd:aav nt o.dst with
 |false=>rw [hd]at he;cases he
 | true=>
  rw [hd]at he
  simp only [cond_true]at he⊢
  cases hg:ajU ops (cut σ (o.looksAt ops)) o.guard with
  |none=>rw [hg]at he;cases he
  | some b=>
   rw [hg]at he
   cases b with
   |false=>exact he
   | true=>
    simp only at he⊢
    have hR:rc.R=readsOf (cut σ (o.looksAt ops)) o.op (EM orc i):=by
     cases hev:oG P (base+64*i) (opd (cut σ (o.looksAt ops))) (Nw h (readsOf (cut σ (o.looksAt ops)) o.op (EM orc i))) o.op (EM orc i)with
     |none=>rw [hev]at he;cases he
     |some e=>
      rw [hev]at he
      simp only at he
      cases hk:CB (base+64*i) (Nw h (readsOf (cut σ (o.looksAt ops)) o.op (EM orc i))) e.ws with
      |false=>rw [hk]at he;cases he
      |true=>rw [hk]at he;simp at he;rw [<-he]
    rw [hR]at hh
    rw [<-aik hh]
    exact he
section
variable {P:Program} {X:Mu} {w:World} {m:vW} {h:List bF} {M:Mu}
theorem ail [Fuel] (v:Value):Fp w m M (adC v) v:=by
 unfold adC
 split
 ·rename_i cs
  exact⟨cs,rfl,by have:=Qn (w:=w) (m:=m) (M:=M) cs.toList;simpa [vals]using this⟩
 ·exact .c (.val v)
theorem ajV [Fuel] {nt:Nat} {σ:List (Nat×SV)} {L:List Nat} {a:Act} (hs:Slots w m M nt σ a):∀x s,opd (cut σ L) x=some s->nZ w m M s (a.eval x):=by
 intro x s hx
 cases x with
 |tmp t=>
  simp only [opd]at hx
  obtain⟨v,hv,Cz⟩:=hs.2 t s (RQ σ t L s hx)
  have:a.eval (.tmp t)=v:=by simp [Act.eval,hv]
  rw [this];exact Cz
 |const v=>simp only [opd,Option.some.injEq]at hx;subst hx;exact ail v
 |func f=>simp only [opd,Option.some.injEq]at hx;subst hx;exact lU.fn f [] #[] rfl (λi k hi=>by simp at hi)
 |global g=>cases hx
theorem al7 [Fuel] {nt:Nat} {ops:Array Oper} {σ:List (Nat×SV)} {L:List Nat} {a:Act} (hs:Slots w m M nt σ a) {o:Oper} {b:Bool} (hg:ajU ops (cut σ L) o.guard=some b):
  Region.wanted o (yielded ops a.tmps)=b:=by
 unfold ajU at hg
 unfold Region.wanted
 cases hgd:o.guard with
 |none=>rw [hgd]at hg;simp at hg;subst hg;rfl
 | some q=>
  obtain⟨j,want⟩:=q
  rw [hgd]at hg
  simp only at hg⊢
  cases hd:(ops[j]?).bind (·.dst)with
  |none=>rw [hd]at hg;cases hg
  | some d=>
   rw [hd]at hg
   simp only at hg
   unfold yielded
   split at hg
   ·rename_i b' hl
    obtain⟨v,hv,Cz⟩:=hs.2 d _ (RQ σ d L _ hl)
    cases Cz with
    |c hc=>cases hc;simp at hg;subst hg;simp [hd,hv];try (cases b'<;>cases want<;>rfl)
   ·rename_i t hl
    obtain⟨v,hv,Cz⟩:=hs.2 d _ (RQ σ d L _ hl)
    cases Cz with
    |c hc=>cases hc;simp at hg;subst hg;simp [hd,hv]
   ·cases hg
theorem adX [Fuel] {R:List Nat} {k:Nat} (hl:(Nw h R k).live):mX h k=Nw h R k:=by
 unfold Nw at hl⊢
 cases hb:Qg k R with
 |true=>rfl
 |false=>rw [hb]at hl;exact hl.elim
theorem adY [Fuel] {id:Nat} {ρ:Operand->Option SV} {R:List Nat} {o:Op} {orc:Option Orc} {e:Eff} (he:oG P id ρ (Nw h R) o orc=some e) (hc:∀q∈e.cs,q):
  ∃e',oG P id ρ (mX h) o orc=some e'/\e'.r=e.r/\e'.ws=e.ws∧∀q∈e'.cs,q:=by
 have hmono:∀k,(Nw h R k).live->mX h k=Nw h R k:=λk hk=>adX hk
 cases orc with
 | none=>
   simp only [oG]at he⊢
   cases hv:evalOp P id ρ (Nw h R) o with
   |none=>rw [hv]at he;cases he
   |some e1=>rw [hv]at he;rw [Nv hmono hv];exact⟨e,he,rfl,rfl,hc⟩
 | some orc=>
  cases orc with
  |ov r=>
   simp only [oG]at he⊢
   cases hv:evalOp P id ρ (Nw h R) o with
   |none=>rw [hv]at he;cases he
   |some e1=>rw [hv]at he;rw [Nv hmono hv];exact⟨e,he,rfl,rfl,hc⟩
  |ovo r ws=>
   simp only [oG]at he⊢
   cases hv:evalOp P id ρ (Nw h R) o with
   |none=>rw [hv]at he;cases he
   |some e1=>rw [hv]at he;rw [Nv hmono hv];exact⟨e,he,rfl,rfl,hc⟩
  |xo=>
   simp only [oG]at he⊢
   cases hv:vY P id ρ (Nw h R) o with
   |none=>rw [hv]at he;cases he
   |some e1=>rw [hv]at he;rw [abl hmono hv];exact⟨e,he,rfl,rfl,hc⟩
  | call r ks ws=>
   simp only [oG]at he⊢
   split at he
   ·rename_i c
    split at he
    ·rename_i fo
     split at he
     ·rename_i fv as' hfv has
      split at he
      ·rename_i f caps hfn
       cases hb:adU id (nJ (Nw h R) ks) ws&&UM (nJ (Nw h R) ks)with
       |false=>rw [hb]at he;cases he
       |true=>
        rw [hb]at he
        simp only [cond_true]at he
        cases he
        have hb':=hb
        simp only [Bool.and_eq_true]at hb'
        rw [Xo hmono hb'.2,hb]
        exact⟨_,rfl,rfl,rfl,hc⟩
      ·cases he
     ·cases he
    ·cases he
   ·cases he
theorem lS [Fuel]:∀(ws:List (Nat×bF)) (h:List bF) (k:Nat),(∀o,(k,o) ∉ ws)->(bD h ws)[k]? =h[k]?
 | [],h,k,_=>rfl
 |(j,o)::ws,h,k,hk=>by
  simp only [bD]
  rw [lS ws _ k (λo' ho=>hk o' (by simp [ho])),List.getElem?_set_ne]
  intro e;exact hk o (by simp [e])
theorem Ny [Fuel]:∀(ws:List (Nat×bF)) (h:List bF),(bD h ws).length=h.length
 | [],h=>rfl
 |(j,o)::ws,h=>by simp only [bD];rw [Ny];simp
theorem Y1 [Fuel] {id:Nat} {get:Nat->bF}:∀{ws:List (Nat×bF)},CB id get ws=true→∀k o,(k,o)∈ws->(id<=k/\k<id+64)\/(get k).live
 | [],_,k,o,h=>by cases h
 | (j,o')::r,hn,k,o,h=>by
  simp only [CB,Bool.and_eq_true,Bool.or_eq_true]at hn
  obtain⟨h1,h2⟩:=hn
  cases h with
  | head=>
   rcases h1 with⟨h1,h3⟩|h1
   ·refine .inl ⟨Nat.le_of_ble_eq_true h1,?_⟩
    simp only [Nat.blt]at h3
    exact Nat.le_of_ble_eq_true h3
   ·exact .inr (Wo h1)
  |tail _ h=>exact Y1 h2 k o h
theorem abo [Fuel] {nt:Nat} {ops:Array Oper} {orc:List (Nat×Orc)} {base i:Nat} {o:Oper} {σ:List (Nat×SV)} {rc:Rec} (he:G6 P nt ops orc base i o σ h=some rc):
  ∀k ob,(k,ob)∈rc.ws->(base+64*i<=k/\k<base+64*i+64)\/(mX h k).live:=by
 unfold G6 at he
 simp only at he
 cases hd:aav nt o.dst with
 |false=>rw [hd]at he;cases he
 | true=>
  rw [hd]at he
  simp only [cond_true]at he
  cases hg:ajU ops (cut σ (o.looksAt ops)) o.guard with
  |none=>rw [hg]at he;cases he
  | some b=>
   rw [hg]at he
   cases b with
   |false=>cases he;intro k ob hk;cases hk
   | true=>
    simp only at he
    cases hev:oG P (base+64*i) (opd (cut σ (o.looksAt ops))) (Nw h (readsOf (cut σ (o.looksAt ops)) o.op (EM orc i))) o.op (EM orc i)with
    |none=>rw [hev]at he;cases he
    | some e=>
     rw [hev]at he
     simp only at he
     cases hk:CB (base+64*i) (Nw h (readsOf (cut σ (o.looksAt ops)) o.op (EM orc i))) e.ws with
     |false=>rw [hk]at he;cases he
     |true=>
      rw [hk]at he
      simp only [cond_true]at he
      cases he
      intro k ob hkm
      rcases Y1 hk k ob hkm with h1|h1
      ·exact .inl h1
      ·right;rw [adX h1];exact h1
theorem UN [Fuel] {w':World} {m':vW} {M':Mu} {nt:Nat} {σ:List (Nat×SV)} {a:Act} {d:Option Nat} {r:SV} {v:Value} (hs:Slots w m M nt σ a) (hd:aav nt d=true)
  (hL:Later w m M w' m' M') (hr:nZ w' m' M' r v):Slots w' m' M' nt (Sv σ d r) (a.put d v):=by
 obtain⟨hz,hσ⟩:=hs
 refine⟨by cases d<;>simp [Act.put,hz],λx s hx=> ?_⟩
 rw [uN]at hx
 split at hx
 ·rename_i hdx
  subst hdx
  cases hx
  have hlt:x<a.tmps.size:=by rw [hz];simp only [aav,Nat.blt]at hd;exact Nat.le_of_ble_eq_true hd
  exact⟨v,by simp [Act.put,hlt],hr⟩
 ·rename_i hdx
  obtain⟨u,hu,Cz⟩:=hσ x s hx
  refine⟨u,?_,Cz.later hL⟩
  cases d with
  |none=>exact hu
  |some d=>
   have:d≠x:=λe=>hdx (by rw [e])
   simp only [Act.put]
   rw [Array.getElem?_setIfInBounds_ne this];exact hu
theorem Y2 [Fuel] {nt:Nat} {ops:Array Oper} {orc:List (Nat×Orc)} {base i:Nat} {o:Oper} {σ:List (Nat×SV)} {rc:Rec} {a:Act} (H:bI X w m h)
  (hid:∀k,base+64*i<=k->k<base+64*i+64->h[k]? =some .dead/\m k=none) (hs:Slots w m (MX X m h) nt σ a) (he:G6 P nt ops orc base i o σ h=some rc) (hc:∀q∈rc.cs,q)
  {K:Act->World->Prop} {Q:Exit->Act->World->Prop}
  (hK:∀w' m' v,Stp X w m h w' m' (bD h rc.ws)->Slots w' m' (MX X m' (bD h rc.ws)) nt (Sv σ o.dst rc.r) (a.put o.dst v)->K (a.put o.dst v) w'):
  if Region.wanted o (yielded ops a.tmps)then o.wp P a w K Q else K (a.put o.dst undef) w:=by
 unfold G6 at he
 simp only at he
 cases hd:aav nt o.dst with
 |false=>rw [hd]at he;cases he
 | true=>
  rw [hd]at he
  simp only [cond_true]at he
  cases hg:ajU ops (cut σ (o.looksAt ops)) o.guard with
  |none=>rw [hg]at he;cases he
  | some b=>
   rw [hg]at he
   rw [al7 hs hg]
   cases b with
   |false=>
    cases he
    simp only [Bool.false_eq_true,if_false]
    exact hK w m undef (Stp.refl H) (UN hs hd Later.refl (.c (.val _)))
   | true=>
    simp only at he
    simp only [if_true]
    cases hev:oG P (base+64*i) (opd (cut σ (o.looksAt ops))) (Nw h (readsOf (cut σ (o.looksAt ops)) o.op (EM orc i))) o.op (EM orc i)with
    |none=>rw [hev]at he;cases he
    | some e=>
     rw [hev]at he
     simp only at he
     cases hk:CB (base+64*i) (Nw h (readsOf (cut σ (o.looksAt ops)) o.op (EM orc i))) e.ws with
     |false=>rw [hk]at he;cases he
     |true=>
      rw [hk]at he
      simp only [cond_true]at he
      cases he
      obtain⟨e',he',hr',hw',hc'⟩:=adY hev hc
      have hok:=ach H hid (ajV hs) he' hc'
      rw [hr',hw']at hok
      exact hok K Q (λw' m' v hS Cz=>hK w' m' v hS (UN hs hd hS.later Cz))
theorem bI.more [Fuel] (H:bI X w m h) (n:Nat):bI X w m (h++List.replicate n .dead)/\MX X m (h++List.replicate n .dead)=MX X m h/\(∀b,Mut m (h++List.replicate n .dead) b ↔ Mut m h b):=by
 have hget:∀(k:Nat) (o:bF),(h++List.replicate n bF.dead)[k]? =some o->o.live->h[k]? =some o:=by
  intro k o hk ho
  rcases Nat.lt_or_ge k h.length with h1|h1
  ·rwa [List.getElem?_append_left h1]at hk
  ·rw [List.getElem?_append_right h1,List.getElem?_replicate]at hk
   split at hk
   ·cases hk;exact ho.elim
   ·cases hk
 have arK:∀(k:Nat) (o:bF),h[k]? =some o->(h++List.replicate n bF.dead)[k]? =some o:=by
  intro k o hk;rw [List.getElem?_append_left (aR hk)];exact hk
 have RI:∀b,Mut m (h++List.replicate n .dead) b ↔ Mut m h b:=by
  intro b
  constructor
  ·rintro⟨k,o,l,hk,hl,r⟩;exact⟨k,o,l,hget k o hk hl,hl,r⟩
  ·rintro⟨k,o,l,hk,hl,r⟩;exact⟨k,o,l,arK k o hk,hl,r⟩
 have hmx:MX X m (h++List.replicate n .dead)=MX X m h:=by funext b;simp only [MX,RI b]
 refine⟨⟨λk o hk=> ?_,λk k' o o' l l' b h1 h2 h3 h4 h5 h6 h7 h8=>H.inj k k' o o' l l' b (hget k o h1 h3) (hget k' o' h2 h4) h3 h4 h5 h6 h7 h8,λk hk=>H.used k (by simp at hk;omega),λb hb=>H.adA b ((RI b).1 hb),H.xlt⟩,hmx,RI⟩
 rw [hmx]
 by_cases ho:o.live
 ·exact H.obj k o (hget k o hk ho)
 ·cases o with
  |dead=>trivial
  |_=>exact absurd trivial ho
def Wp [Fuel] (P:Program) (nt:Nat) (ops:Array Oper) (orc:List (Nat×Orc)) (base:Nat):List Oper->Nat->List (Nat×SV)->List bF->Option (List (Nat×SV)×List bF×List Prop)
 | [],_,σ,h=>some (σ,h,[])
 | o::r,i,σ,h=>match G6 P nt ops orc base i o σ h with
  |some rc=>match Wp P nt ops orc base r (i+1) (Sv σ o.dst rc.r) (bD h rc.ws)with
   |some (σ',h',cs)=>some (σ',h',rc.cs++cs)
   |none=>none
  |none=>none
theorem abp [Fuel] {nt:Nat} {ops:Array Oper} {orc:List (Nat×Orc)} {base:Nat} {Q:Exit->Act->World->Prop} {σ':List (Nat×SV)} {h':List bF} (N:Nat):
  ∀(l:List Oper) (i:Nat) (σ:List (Nat×SV)) (h:List bF) (cs:List Prop) (w:World) (m:vW) (a:Act),
  i+l.length<=N->Wp P nt ops orc base l i σ h=some (σ',h',cs)->(∀q∈cs,q)->bI X w m h->Slots w m (MX X m h) nt σ a→
  (∀k,base+64*i<=k->k<base+64*N->h[k]? =some .dead/\m k=none)→
  (∀a' w' m',Far X w m h w' m' h'->Slots w' m' (MX X m' h') nt σ' a'->a'.defers=a.defers->Q .normal a' w')->wpList P ops Q l a w
 | [],i,σ,h,cs,w,m,a,_,hr,hc,H,hs,_,hQ=>by
  simp only [Wp,Option.some.injEq,Prod.mk.injEq]at hr
  obtain⟨rfl,rfl,_⟩:=hr
  exact wpList_nil (hQ a w m (Far.refl H) hs rfl)
 | o ::l,i,σ,h,cs,w,m,a,hN,hr,hc,H,hs,hid,hQ=>by
  simp only [Wp]at hr
  simp only [List.length_cons]at hN
  cases hst:G6 P nt ops orc base i o σ h with
  |none=>rw [hst]at hr;cases hr
  | some rc=>
   rw [hst]at hr
   simp only at hr
   cases hrl:Wp P nt ops orc base l (i+1) (Sv σ o.dst rc.r) (bD h rc.ws)with
   |none=>rw [hrl]at hr;cases hr
   | some q=>
    obtain⟨σ1,h1,cs1⟩:=q
    rw [hrl]at hr
    simp only [Option.some.injEq,Prod.mk.injEq]at hr
    obtain⟨rfl,rfl,rfl⟩:=hr
    refine wpList_step (λK hK=> ?_)
    refine Y2 H (λk h1 h2=>hid k h1 (by omega)) hs hst (λq hq=>hc q (by simp [hq])) (λw1 m1 v hS hsl=>hK _ _ ?_)
    refine abp N l (i+1) _ _ cs1 w1 m1 _ (by omega) hrl (λq hq=>hc q (by simp [hq])) hS.rel hsl (λk hk1 hk2=> ?_) (λa' w' m' hF asF hd=>hQ a' w' m' (hS.far.trans hF) asF ?_)
    ·obtain⟨Wm,hnone⟩:=hid k (by omega) hk2
     have hne:∀ob,(k,ob) ∉ rc.ws:=by
      intro ob hob
      rcases abo hst k ob hob with h3|h3
      ·omega
      ·have:mX h k= .dead:=by simp [mX,Wm]
       rw [this]at h3;exact h3.elim
     have hd2:(bD h rc.ws)[k]? =some .dead:=by rw [lS rc.ws h k hne];exact Wm
     exact⟨hd2,hS.nw k Wm hd2 hnone⟩
    ·rw [hd];cases o.dst<;>rfl
theorem ain [Fuel] {nt:Nat} {ops:Array Oper} {orc:List (Nat×Orc)} {id:Nat} {Q:Exit->Act->World->Prop} {σ σ':List (Nat×SV)} {h':List bF} {cs:List Prop} {a:Act}
  (hr:Wp P nt ops orc h.length ops.toList 0 σ (h++List.replicate (64*ops.size) .dead)=some (σ',h',cs)) (hc:∀q∈cs,q) (H:bI X w m h) (hs:Slots w m (MX X m h) nt σ a)
  (hQ:∀a' w' m',Far X w m h w' m' h'->Slots w' m' (MX X m' h') nt σ' a'->a'.defers=a.defers->Q .normal a' w'):(Code.region id ops false).wp P Q a w:=by
 obtain⟨H',hmx,RI⟩:=H.more (64*ops.size)
 refine wp_region_list (abp (X:=X) ops.size ops.toList 0 σ _ cs w m a (by simp) hr hc H' (by rw [hmx];exact hs) (λk h1 h2=> ?_) (λa' w' m' hF hsl hd=>hQ a' w' m' ?_ hsl hd))
 ·refine⟨?_,H.used k (by omega)⟩
  rw [List.getElem?_append_right (by omega),List.getElem?_replicate,if_pos (by omega)]
 ·obtain⟨f1,f2,f3,f4,f5,f6,f7⟩:=hF
  exact⟨f1,by rw [<-hmx];exact f2,f3,f4,f5,λb hb hM=>f6 b hb (λh1=>hM ((RI b).1 h1)),λb hb=>(f7 b hb).imp (RI b).1 (λh=>h)⟩
end
end Go.AM
namespace Go.AM
open Go Go.CP Go.RowKit
theorem Nz [Fuel]:∀(ws:List (Nat×bF)) (h h':List bF) (k:Nat),h.length=h'.length->(∃o,(k,o)∈ws)->(bD h ws)[k]? =(bD h' ws)[k]?
  | [],_,_,_,_,⟨o,ho⟩=>by cases ho
  | (j, o)::ws,h,h',k,hl,hk=>by
    simp only [bD]
    by_cases hk':∃o,(k,o)∈ws
    · exact Nz ws _ _ k (by simp [hl]) hk'
    · have hne:∀o,(k,o) ∉ ws:=λo ho=>hk' ⟨o,ho⟩
      rw [lS ws _ k hne,lS ws _ k hne]
      obtain⟨o',ho'⟩:=hk
      cases ho' with
      | head=>
        rcases Nat.lt_or_ge j h.length with h1|h1
        · rw [List.getElem?_set_self h1,List.getElem?_set_self (by omega)]
        · rw [List.getElem?_eq_none (by simp;omega),List.getElem?_eq_none (by simp;omega)]
      |tail _ h=>exact absurd h (hne o')
section
variable (dst:Nat->Option Nat) (rv:Nat->SV) (wv:Nat->List (Nat×bF)) (σ0:List (Nat×SV)) (h0:List bF)
def sg (D:Nat->Bool):Nat->List (Nat×SV)
  |0=>σ0
  |i+1=>if D i then Sv (sg D i) (dst i) (rv i)else sg D i
def hg (D:Nat->Bool):Nat->List bF
  |0=>h0
  |i+1=>if D i then bD (hg D i) (wv i)else hg D i
theorem abq [Fuel] (D:Nat->Bool):∀i,(hg wv h0 D i).length=h0.length
  |0=>rfl
  |i+1=>by simp only [hg];split;rw [Ny,abq D i];exact abq D i
variable {dst rv wv σ0 h0}
variable {looks:Nat->List Nat} {Rv:Nat->List Nat} {ord:Nat->Nat->Prop} {n:Nat}
structure ajW (dst:Nat->Option Nat) (wv:Nat->List (Nat×bF)) (looks Rv:Nat->List Nat) (ord:Nat->Nat->Prop) (n:Nat):Prop where
  lt:∀i j,ord i j->i<j
  look:∀i j,i<n->j<n->i≠j→¬ord i j→¬ord j i→∀x,dst j=some x->x ∉ looks i
  dst:∀i j,i<n->j<n->i≠j→¬ord i j→¬ord j i→∀x,dst j=some x->dst i≠some x
  reads:∀i j,i<n->j<n->i≠j→¬ord i j→¬ord j i→∀k o,(k,o)∈wv j->k ∉ Rv i
  writes:∀i j,i<n->j<n->i≠j→¬ord i j→¬ord j i→∀k o o',(k,o)∈wv j->(k,o') ∉ wv i
theorem an3 [Fuel] (I:ajW dst wv looks Rv ord n) {D:Nat->Bool} (hcl:∀i j,j<n->ord i j->D j=true->D i=true) {i:Nat} (hi:i<n) (hD:D i=false) (hp:∀j,ord j i->D j=true) {x:Nat} (hx:x∈looks i):
    look (sg dst rv σ0 D n) x=look (sg dst rv σ0 (λ_=>true) i) x:=by
  have key:∀j,j<=n->look (sg dst rv σ0 D j) x=look (sg dst rv σ0 (λ_=>true) (min j i)) x:=by
    intro j
    induction j with
    |zero=>intro _;simp [sg]
    | succ j ih=>
      intro hj
      have ih:=ih (by omega)
      rcases Nat.lt_trichotomy j i with h1|h1|h1
      · rw [Nat.min_eq_left (by omega)]at ih⊢
        simp only [sg,if_true]
        split
        · rw [uN,uN,ih]
        · rename_i hDj
          have hDj:D j=false:=by simpa using hDj
          rw [ih,uN,if_neg]
          intro hd
          have hno:¬ord j i:=λh=>by rw [hp j h]at hDj;cases hDj
          have hno':¬ord i j:=λh=>by have:=I.lt _ _ h;omega
          exact I.look i j hi (by omega) (by omega) hno' hno x hd hx
      · subst h1
        rw [Nat.min_eq_right (by omega)]
        rw [Nat.min_self]at ih
        simp only [sg,hD,Bool.false_eq_true,if_false]
        exact ih
      · rw [Nat.min_eq_right (by omega)]at ih⊢
        simp only [sg]
        split
        · rename_i hDj
          rw [uN,if_neg]
          · exact ih
          · intro hd
            have hno:¬ord i j:=λh=>by rw [hcl i j (by omega) h hDj]at hD;cases hD
            have hno':¬ord j i:=λh=>by have:=I.lt _ _ h;omega
            exact I.look i j hi (by omega) (by omega) hno hno' x hd hx
        · exact ih
  have:=key n (Nat.le_refl _)
  rwa [Nat.min_eq_right (by omega)]at this
theorem apE [Fuel] (I:ajW dst wv looks Rv ord n) {D:Nat->Bool} (hcl:∀i j,j<n->ord i j->D j=true->D i=true) {i:Nat} (hi:i<n) (hD:D i=false) (hp:∀j,ord j i->D j=true) {k:Nat} (hk:k∈Rv i):
    (hg wv h0 D n)[k]? =(hg wv h0 (λ_=>true) i)[k]? :=by
  have key:∀j,j<=n->(hg wv h0 D j)[k]? =(hg wv h0 (λ_=>true) (min j i))[k]? :=by
    intro j
    induction j with
    |zero=>intro _;simp [hg]
    | succ j ih=>
      intro hj
      have ih:=ih (by omega)
      rcases Nat.lt_trichotomy j i with h1|h1|h1
      · rw [Nat.min_eq_left (by omega)]at ih⊢
        simp only [hg,if_true]
        split
        · by_cases hm:∃o,(k,o)∈wv j
          · exact Nz _ _ _ k (by rw [abq,abq]) hm
          · have hne:∀o,(k,o) ∉ wv j:=λo ho=>hm ⟨o,ho⟩
            rw [lS _ _ k hne,lS _ _ k hne,ih]
        · rename_i hDj
          have hDj:D j=false:=by simpa using hDj
          rw [ih,lS]
          intro o ho
          have hno:¬ord j i:=λh=>by rw [hp j h]at hDj;cases hDj
          have hno':¬ord i j:=λh=>by have:=I.lt _ _ h;omega
          exact I.reads i j hi (by omega) (by omega) hno' hno k o ho hk
      · subst h1
        rw [Nat.min_eq_right (by omega)]
        rw [Nat.min_self]at ih
        simp only [hg,hD,Bool.false_eq_true,if_false]
        exact ih
      · rw [Nat.min_eq_right (by omega)]at ih⊢
        simp only [hg]
        split
        · rename_i hDj
          rw [lS]
          · exact ih
          · intro o ho
            have hno:¬ord i j:=λh=>by rw [hcl i j (by omega) h hDj]at hD;cases hD
            have hno':¬ord j i:=λh=>by have:=I.lt _ _ h;omega
            exact I.reads i j hi (by omega) (by omega) hno hno' k o ho hk
        · exact ih
  have:=key n (Nat.le_refl _)
  rwa [Nat.min_eq_right (by omega)]at this
def adZ (D:Nat->Bool) (i:Nat):Nat->Bool:=λj=>D j||Nat.beq j i
theorem NA [Fuel] {D:Nat->Bool} {i j:Nat} (h:j≠i):adZ D i j=D j:=by
  unfold adZ
  cases hb:Nat.beq j i with
  |true=>exact absurd (Nat.eq_of_beq_eq_true hb) h
  |false=>simp
theorem Qr [Fuel] {D:Nat->Bool} {i:Nat}:adZ D i i=true:=by simp [adZ,Nat.beq_refl]
theorem apF [Fuel] (I:ajW dst wv looks Rv ord n) {D:Nat->Bool} (hcl:∀i j,j<n->ord i j->D j=true->D i=true) {i:Nat} (hi:i<n) (hD:D i=false) (x:Nat):
    look (sg dst rv σ0 (adZ D i) n) x=look (Sv (sg dst rv σ0 D n) (dst i) (rv i)) x:=by
  have low:∀j,j<=i->sg dst rv σ0 (adZ D i) j=sg dst rv σ0 D j:=by
    intro j
    induction j with
    |zero=>intro _;rfl
    |succ j ih=>intro hj;simp only [sg];rw [NA (by omega),ih (by omega)]
  have key:∀j,i+1+j<=n->look (sg dst rv σ0 (adZ D i) (i+1+j)) x=look (Sv (sg dst rv σ0 D (i+1+j)) (dst i) (rv i)) x:=by
    intro j
    induction j with
    | zero=>
      intro _
      simp only [Nat.add_zero,sg,Qr,if_true,hD,Bool.false_eq_true,if_false]
      rw [low i (Nat.le_refl _)]
    | succ j ih=>
      intro hj
      have ih:=ih (by omega)
      rw [<-Nat.add_assoc]
      simp only [sg]
      rw [NA (by omega)]
      by_cases hDj:D (i+1+j)=true
      · simp only [hDj,if_true]
        rw [uN,ih,uN,uN,uN]
        have hno:¬ord i (i+1+j):=λh=>by rw [hcl i _ (by omega) h hDj]at hD;cases hD
        have hno':¬ord (i+1+j) i:=λh=>by have:=I.lt _ _ h;omega
        by_cases h1:dst (i+1+j)=some x
        · rw [if_pos h1,if_neg (I.dst i _ hi (by omega) (by omega) hno hno' x h1),if_pos h1]
        · rw [if_neg h1,if_neg h1]
      · have hDj:D (i+1+j)=false:=by simpa using hDj
        simp only [hDj,Bool.false_eq_true,if_false]
        exact ih
  have:=key (n - (i+1)) (by omega)
  rwa [show i+1+(n - (i+1))=n by omega]at this
theorem apG [Fuel] (I:ajW dst wv looks Rv ord n) {D:Nat->Bool} (hcl:∀i j,j<n->ord i j->D j=true->D i=true) {i:Nat} (hi:i<n) (hD:D i=false):
    hg wv h0 (adZ D i) n=bD (hg wv h0 D n) (wv i):=by
  have low:∀j,j<=i->hg wv h0 (adZ D i) j=hg wv h0 D j:=by
    intro j
    induction j with
    |zero=>intro _;rfl
    |succ j ih=>intro hj;simp only [hg];rw [NA (by omega),ih (by omega)]
  have key:∀(k:Nat) j,i+1+j<=n->(hg wv h0 (adZ D i) (i+1+j))[k]? =(bD (hg wv h0 D (i+1+j)) (wv i))[k]? :=by
    intro k j
    induction j with
    | zero=>
      intro _
      simp only [Nat.add_zero,hg,Qr,if_true,hD,Bool.false_eq_true,if_false]
      rw [low i (Nat.le_refl _)]
    | succ j ih=>
      intro hj
      have ih:=ih (by omega)
      rw [<-Nat.add_assoc]
      simp only [hg]
      rw [NA (by omega)]
      by_cases hDj:D (i+1+j)=true
      · simp only [hDj,if_true]
        have hno:¬ord i (i+1+j):=λh=>by rw [hcl i _ (by omega) h hDj]at hD;cases hD
        have hno':¬ord (i+1+j) i:=λh=>by have:=I.lt _ _ h;omega
        by_cases hm:∃o,(k,o)∈wv (i+1+j)
        · obtain⟨o,ho⟩:=hm
          have hne:∀o',(k,o') ∉ wv i:=λo'=>I.writes i _ hi (by omega) (by omega) hno hno' k o o' ho
          rw [lS _ _ k hne]
          exact Nz _ _ _ k (by rw [abq,abq]) ⟨o,ho⟩
        · have hne:∀o,(k,o) ∉ wv (i+1+j):=λo ho=>hm ⟨o,ho⟩
          rw [lS _ _ k hne,ih]
          by_cases hm':∃o,(k,o)∈wv i
          · exact Nz _ _ _ k (by rw [Ny]) hm'
          · have hne':∀o,(k,o) ∉ wv i:=λo ho=>hm' ⟨o,ho⟩
            rw [lS _ _ k hne',lS _ _ k hne',lS _ _ k hne]
      · have hDj:D (i+1+j)=false:=by simpa using hDj
        simp only [hDj,Bool.false_eq_true,if_false]
        exact ih
  apply List.ext_getElem?
  intro k
  have:=key k (n - (i+1)) (by omega)
  rwa [show i+1+(n - (i+1))=n by omega]at this
end
instance:Inhabited Rec:=⟨⟨mkv undef,[],[],[]⟩⟩
section
variable (P:Program) (nt:Nat) (ops:Array Oper) (orc:List (Nat×Orc)) (base:Nat) (σ0:List (Nat×SV)) (h0:List bF)
def stt [Fuel]:Nat->Option (List (Nat×SV)×List bF)
  |0=>some (σ0,h0)
  | i +1=>match stt i,ops[i]? with
    | some (σ,h),some o=>match G6 P nt ops orc base i o σ h with
      |some rc=>some (Sv σ o.dst rc.r,bD h rc.ws)
      |none=>none
    |_,_=>none
def Wq [Fuel] (i:Nat):Rec:=
  match stt P nt ops orc base σ0 h0 i,ops[i]? with
  |some (σ,h),some o=>(G6 P nt ops orc base i o σ h).getD default
  |_,_=>default
def UO (i:Nat):Option Nat:=(ops[i]?).bind (·.dst)
variable {P nt ops orc base σ0 h0}
theorem agX [Fuel] {σ':List (Nat×SV)} {h':List bF}:∀(l:List Oper) (i:Nat) (σ:List (Nat×SV)) (h:List bF) (cs:List Prop),(∀j,l[j]? =ops[i+j]?)->stt P nt ops orc base σ0 h0 i=some (σ,h)→
    Wp P nt ops orc base l i σ h=some (σ',h',cs)->stt P nt ops orc base σ0 h0 (i+l.length)=some (σ',h')∧
      ∀j,i<=j->j<i+l.length→∃o σj hj,ops[j]? =some o/\stt P nt ops orc base σ0 h0 j=some (σj,hj)/\G6 P nt ops orc base j o σj hj=some (Wq P nt ops orc base σ0 h0 j)∧∀q∈(Wq P nt ops orc base σ0 h0 j).cs,q∈cs
  | [],i,σ,h,cs,_,hst,hr=>by
    simp only [Wp,Option.some.injEq,Prod.mk.injEq]at hr
    obtain⟨rfl,rfl,_⟩:=hr
    exact⟨hst,λj h1 h2=>by simp at h2;omega⟩
  | o ::l,i,σ,h,cs,hl,hst,hr=>by
    simp only [Wp]at hr
    have ho:ops[i]? =some o:=by simpa using(hl 0).symm
    cases hs:G6 P nt ops orc base i o σ h with
    |none=>rw [hs]at hr;cases hr
    | some rc=>
      rw [hs]at hr
      simp only at hr
      cases hrl:Wp P nt ops orc base l (i+1) (Sv σ o.dst rc.r) (bD h rc.ws)with
      |none=>rw [hrl]at hr;cases hr
      | some q=>
        obtain⟨σ1,h1,cs1⟩:=q
        rw [hrl]at hr
        simp only [Option.some.injEq,Prod.mk.injEq]at hr
        obtain⟨rfl,rfl,rfl⟩:=hr
        have arL:stt P nt ops orc base σ0 h0 (i+1)=some (Sv σ o.dst rc.r,bD h rc.ws):=by simp only [stt,hst,ho,hs]
        obtain⟨q1,q2⟩:=agX l (i+1) _ _ cs1 (λj=>by have:=hl (j+1);simpa [Nat.add_assoc,Nat.add_comm 1 j]using this) arL hrl
        refine⟨by simpa [Nat.add_assoc,Nat.add_comm 1 l.length]using q1,λj hj1 hj2=> ?_⟩
        by_cases hji:j=i
        · subst hji
          have hrc:Wq P nt ops orc base σ0 h0 j=rc:=by simp only [Wq,hst,ho,hs];rfl
          exact⟨o,σ,h,ho,hst,by rw [hrc,hs],λq hq=>by rw [hrc]at hq;simp [hq]⟩
        · obtain⟨o',σj,hj,e1,e2,e3,e4⟩:=q2 j (by omega) (by simp at hj2;omega)
          exact⟨o',σj,hj,e1,e2,e3,λq hq=>by simp [e4 q hq]⟩
theorem ana [Fuel] {i:Nat} {σ:List (Nat×SV)} {h:List bF} (hs:stt P nt ops orc base σ0 h0 i=some (σ,h)):
    σ=sg (UO ops) (λj=>(Wq P nt ops orc base σ0 h0 j).r) σ0 (λ_=>true) i/\h=hg (λj=>(Wq P nt ops orc base σ0 h0 j).ws) h0 (λ_=>true) i:=by
  induction i generalizing σ h with
  |zero=>simp only [stt,Option.some.injEq,Prod.mk.injEq]at hs;obtain⟨rfl,rfl⟩:=hs;exact⟨rfl,rfl⟩
  | succ i ih=>
    simp only [stt]at hs
    cases hst:stt P nt ops orc base σ0 h0 i with
    |none=>rw [hst]at hs;cases hs
    | some q=>
      obtain⟨σi,hi⟩:=q
      rw [hst]at hs
      cases ho:ops[i]? with
      |none=>rw [ho]at hs;cases hs
      | some o=>
        rw [ho]at hs
        simp only at hs
        cases hr:G6 P nt ops orc base i o σi hi with
        |none=>rw [hr]at hs;cases hs
        | some rc=>
          rw [hr]at hs
          simp only [Option.some.injEq,Prod.mk.injEq]at hs
          obtain⟨rfl,rfl⟩:=hs
          obtain⟨e1,e2⟩:=ih hst
          have hrc:Wq P nt ops orc base σ0 h0 i=rc:=by simp only [Wq,hst,ho,hr];rfl
          have hd:UO ops i=o.dst:=by simp [UO,ho]
          simp only [sg,hg,if_true,hrc,hd,<-e1,<-e2]
          exact⟨trivial,trivial⟩
end
def aio (o:Oper):List Nat:=o.after.toList.filterMap λe=>bif Region.binds .any e then some e.on else none
def agY (acc:List Nat):List Nat->Nat
  | []=>0
  |k::r=>(2^k)|||(acc.getD k 0)|||agY acc r
def ajd:List Oper->List Nat->List Nat
  | [],acc=>acc
  |o::r,acc=>ajd r (acc++ [agY acc (aio o)])
def afL (A:List Nat) (i j:Nat):Bool:=(A.getD j 0).testBit i
def ajX (ops:Array Oper) (A:List Nat) (j:Nat):Bool:=
  let ds:=aio (ops.getD j default)
  ds.all (λk=>Nat.blt k j)&&(List.range ops.size).all λi=> !(afL A i j)||(Nat.blt i j&&ds.any λk=>Nat.beq k i||afL A i k)
def aip (d:Option Nat) (l:List Nat):Bool:=
  match d with
  |some x=>Qg x l
  |none=>false
def al8:Option Nat->Option Nat->Bool
  |some a,some b=>Nat.beq a b
  |_,_=>false
def keys (ws:List (Nat×bF)):List Nat:=ws.map (·.1)
def meets (a b:List Nat):Bool:=a.any λk=>Qg k b
def aqY (ops:Array Oper) (rs:List (List Nat×List Nat)) (i j:Nat):Bool:=
  let oi:=ops.getD i default
  let oj:=ops.getD j default
  let ri:=rs.getD i ([],[])
  let rj:=rs.getD j ([],[])
  !(aip oj.dst (oi.looksAt ops))&& !(aip oi.dst (oj.looksAt ops))&& !(al8 oi.dst oj.dst)&& !(meets rj.2 ri.1)&& !(meets ri.2 rj.1)&& !(meets ri.2 rj.2)
def aci (ops:Array Oper) (rs:List (List Nat×List Nat)):Bool:=
  let A:=ajd ops.toList []
  (List.range ops.size).all (λj=>ajX ops A j)&&
  (List.range ops.size).all λj=>(List.range j).all λi=>afL A i j||aqY ops rs i j
def aff [Fuel] (P:Program) (nt:Nat) (ops:Array Oper) (orc:List (Nat×Orc)) (base:Nat):List Oper->Nat->List (Nat×SV)->List bF->List (List Nat×List Nat)
  | [],_,_,_=> []
  | o::r,i,σ,h=>match G6 P nt ops orc base i o σ h with
    |some rc=>(rc.R,keys rc.ws)::aff P nt ops orc base r (i+1) (Sv σ o.dst rc.r) (bD h rc.ws)
    |none=> []
section
variable {P:Program} {nt:Nat} {ops:Array Oper} {orc:List (Nat×Orc)} {base:Nat} {σ0:List (Nat×SV)} {h0:List bF}
theorem ajY [Fuel] {σ':List (Nat×SV)} {h':List bF}:∀(l:List Oper) (i:Nat) (σ:List (Nat×SV)) (h:List bF) (cs:List Prop),(∀j,l[j]? =ops[i+j]?)->stt P nt ops orc base σ0 h0 i=some (σ,h)→
    Wp P nt ops orc base l i σ h=some (σ',h',cs)→∀j,j<l.length->(aff P nt ops orc base l i σ h).getD j ([],[])=((Wq P nt ops orc base σ0 h0 (i+j)).R,keys (Wq P nt ops orc base σ0 h0 (i+j)).ws)
  | [],i,σ,h,cs,_,hst,hr,j,hj=>by simp at hj
  | o ::l,i,σ,h,cs,hl,hst,hr,j,hj=>by
    simp only [Wp]at hr
    have ho:ops[i]? =some o:=by simpa using(hl 0).symm
    cases hs:G6 P nt ops orc base i o σ h with
    |none=>rw [hs]at hr;cases hr
    | some rc=>
      rw [hs]at hr
      simp only at hr
      cases hrl:Wp P nt ops orc base l (i+1) (Sv σ o.dst rc.r) (bD h rc.ws)with
      |none=>rw [hrl]at hr;cases hr
      | some q=>
        obtain⟨σ1,h1,cs1⟩:=q
        have arL:stt P nt ops orc base σ0 h0 (i+1)=some (Sv σ o.dst rc.r,bD h rc.ws):=by simp only [stt,hst,ho,hs]
        have ih:=ajY l (i+1) _ _ cs1 (λj=>by have:=hl (j+1);simpa [Nat.add_assoc,Nat.add_comm 1 j]using this) arL hrl
        simp only [aff,hs]
        cases j with
        | zero=>
          have hrc:Wq P nt ops orc base σ0 h0 i=rc:=by simp only [Wq,hst,ho,hs];rfl
          simp [hrc]
        | succ j=>
          have:=ih j (by simp at hj;omega)
          simpa [Nat.add_assoc,Nat.add_comm 1 j]using this
theorem RU [Fuel] {a b:List Nat} (h:meets a b=false) {k:Nat} (ha:k∈a):k ∉ b:=by
  intro hb
  unfold meets at h
  rw [List.any_eq_false]at h
  exact h k ha (mD.2 hb)
theorem abr [Fuel] {d:Option Nat} {l:List Nat} (h:aip d l=false) {x:Nat} (hd:d=some x):x ∉ l:=by
  subst hd
  intro hx
  simp only [aip]at h
  rw [mD.2 hx]at h;cases h
theorem abt [Fuel] {a b:Option Nat} (h:al8 a b=false) {x:Nat} (ha:a=some x):b≠some x:=by
  subst ha
  intro hb;subst hb
  simp only [al8,Nat.beq_refl]at h;cases h
theorem al9 [Fuel] {σ':List (Nat×SV)} {h':List bF} {cs:List Prop} (hr:Wp P nt ops orc base ops.toList 0 σ0 h0=some (σ',h',cs)) (hok:aci ops (aff P nt ops orc base ops.toList 0 σ0 h0)=true):
    ajW (UO ops) (λj=>(Wq P nt ops orc base σ0 h0 j).ws) (λi=>(ops.getD i default).looksAt ops) (λj=>(Wq P nt ops orc base σ0 h0 j).R)
      (λi j=>j<ops.size/\afL (ajd ops.toList []) i j=true) ops.size∧
    ∀j,j<ops.size->(∀k∈aio (ops.getD j default),k<j)∧∀i,afL (ajd ops.toList []) i j=true->i<ops.size→∃k∈aio (ops.getD j default),k=i\/afL (ajd ops.toList []) i k=true:=by
  unfold aci at hok
  simp only [Bool.and_eq_true,List.all_eq_true,List.mem_range]at hok
  obtain⟨h1,h2⟩:=hok
  generalize hA:ajd ops.toList []=A at h1 h2⊢
  have hW:∀j,j<ops.size->(aff P nt ops orc base ops.toList 0 σ0 h0).getD j ([],[])=((Wq P nt ops orc base σ0 h0 j).R,keys (Wq P nt ops orc base σ0 h0 j).ws):=by
    intro j hj
    have:=ajY (base:=base) (h0:=h0) (σ0:=σ0) ops.toList 0 σ0 h0 cs (by simp) rfl hr j (by simpa using hj)
    simpa using this
  have alN:∀j,j<ops.size->(∀k∈aio (ops.getD j default),k<j)∧∀i,afL A i j=true->i<ops.size->i<j∧∃k∈aio (ops.getD j default),k=i\/afL A i k=true:=by
    intro j hj
    have:=h1 j hj
    unfold ajX at this
    simp only [Bool.and_eq_true,List.all_eq_true,List.mem_range]at this
    obtain⟨q1,q2⟩:=this
    refine⟨λk hk=> ?_,λi hi hin=> ?_⟩
    · have:=q1 k hk;simp only [Nat.blt]at this;exact Nat.le_of_ble_eq_true this
    · have:=q2 i hin
      rw [hi]at this
      simp only [Bool.not_true,Bool.false_or,Bool.and_eq_true,List.any_eq_true,Bool.or_eq_true]at this
      obtain⟨q3,k,hk,q4⟩:=this
      refine⟨?_,k,hk,?_⟩
      · simp only [Nat.blt]at q3;exact Nat.le_of_ble_eq_true q3
      · rcases q4 with q4|q4
        · exact .inl (Nat.eq_of_beq_eq_true q4)
        · exact .inr q4
  have atN:∀i j,i<j->j<ops.size->afL A i j=false->aqY ops (aff P nt ops orc base ops.toList 0 σ0 h0) i j=true:=by
    intro i j hij hj ho
    have:=h2 j hj i hij
    rw [ho]at this
    simpa using this
  have hdst:∀i,i<ops.size->UO ops i=(ops.getD i default).dst:=by
    intro i hi;simp [UO,Array.getD,hi]
  have ad1:∀i j,i<j->j<ops.size->afL A i j=false→
      (aip (ops.getD j default).dst ((ops.getD i default).looksAt ops)=false/\aip (ops.getD i default).dst ((ops.getD j default).looksAt ops)=false/\al8 (ops.getD i default).dst (ops.getD j default).dst=false∧
       meets (keys (Wq P nt ops orc base σ0 h0 j).ws) (Wq P nt ops orc base σ0 h0 i).R=false/\meets (keys (Wq P nt ops orc base σ0 h0 i).ws) (Wq P nt ops orc base σ0 h0 j).R=false∧
       meets (keys (Wq P nt ops orc base σ0 h0 i).ws) (keys (Wq P nt ops orc base σ0 h0 j).ws)=false):=by
    intro i j hij hj ho
    have:=atN i j hij hj ho
    unfold aqY at this
    rw [hW i (by omega),hW j hj]at this
    simp only [Bool.and_eq_true,Bool.not_eq_true']at this
    obtain⟨⟨⟨⟨⟨q1,q2⟩,q3⟩,q4⟩,q5⟩,q6⟩:=this
    exact⟨q1,q2,q3,q4,q5,q6⟩
  have hkey:∀{k:Nat} {o:bF} {ws:List (Nat×bF)},(k,o)∈ws->k∈keys ws:=λ{k o ws} h=>by
    unfold keys;exact List.mem_map.2 ⟨(k,o),h,rfl⟩
  refine⟨⟨λi j h=> ?_,λi j hi hj hne h1 h2 x hd=> ?_,λi j hi hj hne h1 h2 x hd=> ?_,λi j hi hj hne h1 h2 k o hk=> ?_,λi j hi hj hne h1 h2 k o o' hk hk'=> ?_⟩,λj hj=>⟨(alN j hj).1,λi hi hin=>((alN j hj).2 i hi hin).2⟩⟩
  · by_cases hi : i<ops.size
    · exact((alN j h.1).2 i h.2 hi).1
    · -- a bit beyond the last operation cannot be there
      exfalso
      have hlt:∀j,j<ops.size→∀i,ops.size<=i->afL A i j=false:=by
        rw [<-hA]
        have hacc :∀(l:List Oper) (acc:List Nat) (N:Nat),(∀m∈acc,m<2^N)->(∀o∈l,∀k∈aio o,k<N)→∀m∈ajd l acc,m<2^N:=by
          intro l
          induction l with
          |nil=>intro acc N ha _ m hm;exact ha m hm
          | cons o l ih=>
            intro acc N ha hd
            refine ih _ N (λm hm=> ?_) (λo' ho'=>hd o' (by simp [ho']))
            simp only [List.mem_append,List.mem_singleton]at hm
            rcases hm with hm|hm
            · exact ha m hm
            · subst hm
              have hor:∀ds:List Nat,(∀k∈ds,k<N)->agY acc ds<2^N:=by
                intro ds
                induction ds with
                |nil=>intro _;exact Nat.two_pow_pos N
                | cons k ds ihd=>
                  intro hk
                  simp only [agY]
                  refine Nat.or_lt_two_pow (Nat.or_lt_two_pow (Nat.pow_lt_pow_right (by omega) (hk k (by simp))) ?_) (ihd (λk' hk'=>hk k' (by simp [hk'])))
                  rw [List.getD_eq_getElem?_getD]
                  cases he:acc[k]? with
                  |none=>exact Nat.two_pow_pos N
                  |some v=>exact ha v (List.mem_of_getElem? he)
              exact hor _ (hd o (by simp))
        have hall:=hacc ops.toList [] ops.size (λm hm=>by cases hm) (λo ho k hk=>by
          obtain⟨j,hj,hjo⟩:=List.getElem_of_mem ho
          have hj':j<ops.size:=by simpa using hj
          have:=(alN j hj').1 k (by
            have e:ops.getD j default=o:=by rw [<-hjo];simp [Array.getD,hj']
            rw [e];exact hk)
          omega)
        intro j hj i hi
        unfold afL
        have hm:(ajd ops.toList []).getD j 0<2^ops.size:=by
          rw [List.getD_eq_getElem?_getD]
          cases he:(ajd ops.toList [])[j]? with
          |none=>exact Nat.two_pow_pos _
          |some v=>exact hall v (List.mem_of_getElem? he)
        exact Nat.testBit_lt_two_pow (Nat.lt_of_lt_of_le hm (Nat.pow_le_pow_right (by omega) hi))
      rw [hlt j h.1 i (by omega)]at h
      cases h.2
  · rw [hdst j hj]at hd
    rcases Nat.lt_or_gt_of_ne hne with h|h
    · exact abr (ad1 i j h hj (by simpa [hj]using h1)).1 hd
    · exact abr (ad1 j i h hi (by simpa [hi]using h2)).2.1 hd
  · rw [hdst j hj]at hd
    rw [hdst i hi]
    rcases Nat.lt_or_gt_of_ne hne with h|h
    · intro hd';exact abt (ad1 i j h hj (by simpa [hj]using h1)).2.2.1 hd' hd
    · exact abt (ad1 j i h hi (by simpa [hi]using h2)).2.2.1 hd
  · rcases Nat.lt_or_gt_of_ne hne with h|h
    · exact RU (ad1 i j h hj (by simpa [hj]using h1)).2.2.2.1 (hkey hk)
    · exact RU (ad1 j i h hi (by simpa [hi]using h2)).2.2.2.2.1 (hkey hk)
  · rcases Nat.lt_or_gt_of_ne hne with h|h
    · exact RU (ad1 i j h hj (by simpa [hj]using h1)).2.2.2.2.2 (hkey hk') (hkey hk)
    · exact RU (ad1 j i h hi (by simpa [hi]using h2)).2.2.2.2.2 (hkey hk) (hkey hk')
end
end Go.AM
namespace Go.AM
open Go Go.CP Go.RowKit
def cnt (D:Nat->Bool):Nat->Nat
 |0=>0
 |n+1=>cnt D n+(if D n then 0 else 1)
theorem abu [Fuel] {D:Nat->Bool} {i:Nat}:∀n,n<=i->cnt (adZ D i) n=cnt D n
 |0,_=>rfl
 |n+1,h=>by simp only [cnt];rw [abu n (by omega),NA (by omega)]
theorem ajZ [Fuel] {D:Nat->Bool} {i:Nat} (hD:D i=false):∀n,i<n->cnt (adZ D i) n+1=cnt D n
 |0,h=>by omega
 | n+1,h=>by
  simp only [cnt]
  by_cases hn:n=i
  ·subst hn
   rw [abu n (Nat.le_refl _),Qr,hD]
   simp
  ·rw [NA hn,<-ajZ hD n (by omega)]
   omega
theorem agZ [Fuel] {D:Nat->Bool}:∀n,cnt D n=0→∀i,i<n->D i=true
 |0,_,i,h=>by omega
 | n+1,h,i,hi=>by
  simp only [cnt]at h
  have h1:cnt D n=0:=by omega
  by_cases hn:i=n
  ·subst hn
   cases hD:D i with
   |true=>rfl
   |false=>rw [hD]at h;simp at h
  ·exact agZ n h1 i (by omega)
theorem Xp [Fuel] {D:Nat->Bool}:∀n,(∃i,i<n/\D i=false)→∃i,i<n/\D i=false∧∀j,j<i->D j=true
 |0,⟨i,h,_⟩=>by omega
 | n+1,⟨i,hi,hD⟩=>by
  by_cases hex:∃i,i<n/\D i=false
  ·obtain⟨j,h1,h2,h3⟩:=Xp n hex
   exact⟨j,by omega,h2,h3⟩
  ·refine⟨i,hi,hD,λj hj=> ?_⟩
   cases hDj:D j with
   |true=>rfl
   |false=>exact absurd ⟨j,by omega,hDj⟩ hex
theorem ama [Fuel] {o:Oper} {e:Edge} (he:e∈o.after) (hb:Region.binds .any e=true):e.on∈aio o:=by
 unfold aio
 rw [List.mem_filterMap]
 exact⟨e,by simpa using he,by rw [hb];rfl⟩
theorem amb [Fuel] {o:Oper} {k:Nat} (h:k∈aio o):∃e∈o.after,Region.binds .any e=true/\e.on=k:=by
 unfold aio at h
 rw [List.mem_filterMap]at h
 obtain⟨e,he,hk⟩:=h
 cases hb:Region.binds .any e with
 |false=>rw [hb]at hk;cases hk
 |true=>rw [hb]at hk;simp at hk;exact⟨e,by simpa using he,hb,hk⟩
section
variable {P:Program} {X:Mu} {w:World} {m:vW} {h:List bF}
theorem Later.same [Fuel] {w w':World} {m:vW} {M:Mu} (hw:w'.heap=w.heap):Later w m M w' m M:=⟨λ_ _ h=>h,λ_ _ h=>h,λ_ _ _=>by rw [hw],by rw [hw];exact Nat.le_refl _⟩
theorem bI.same [Fuel] {w':World} (H:bI X w m h) (hw:w'.heap=w.heap):bI X w' m h:=by
 refine⟨λk o hk=> ?_,H.inj,H.used,H.adA,λb hb=>by rw [hw];exact H.xlt b hb⟩
 have ho:=H.obj k o hk
 cases o with
 |dead=>trivial
 |mp es=>
  obtain⟨l,b,rows,clock,e1,e2,e3,e4⟩:=ho
  exact⟨l,b,rows,clock,e1,e2,by rw [hw];exact e3,e4⟩
 |ms es=>
  obtain⟨l,b,rows,clock,e1,e2,e3,e4⟩:=ho
  exact⟨l,b,rows,clock,e1,e2,by rw [hw];exact e3,e4⟩
 |ra z n cs=>
  obtain⟨l,b,T,vs,e1,e2,e3,e4,e5,e6,e7,e8,e9,e10⟩:=ho
  exact⟨l,b,T,vs,e1,e2,e3,e4,e5,by rw [hw];exact e6,e7,e8,e9,λi x hx=>(e10 i x hx).later (m:=m) (m':=m) (Later.same hw)⟩
 |box cs=>
  obtain⟨l,b,T,vs,e1,e2,e3,e4,e5⟩:=ho
  exact⟨l,b,T,vs,e1,e2,by rw [hw];exact e3,e4.later (Later.same hw),e5⟩
 |arr z n f=>
  obtain⟨l,e1,e2,e3,e4,e5⟩:=ho
  refine⟨l,e1,e2,e3,e4,λb hb=> ?_⟩
  obtain⟨e6,T,vs,e7,e8,e9,e10⟩:=e5 b hb
  exact⟨e6,T,vs,by rw [hw];exact e7,e8,e9,λi hi=>⟨(e10 i hi).1,λj x hx=>((e10 i hi).2 j x hx).later (m:=m) (m':=m) (Later.same hw)⟩⟩
theorem aiq [Fuel] {nt:Nat} {ops:Array Oper} {orc:List (Nat×Orc)} {id:Nat} {Q:Exit->Act->World->Prop} {σ σ':List (Nat×SV)} {h':List bF} {cs:List Prop} {a:Act}
  (arM:P.follows .mixedOrders=true)
  (hr:Wp P nt ops orc h.length ops.toList 0 σ (h++List.replicate (64*ops.size) .dead)=some (σ',h',cs)) (hc:∀q∈cs,q)
  (hok:aci ops (aff P nt ops orc h.length ops.toList 0 σ (h++List.replicate (64*ops.size) .dead))=true)
  (H:bI X w m h) (hs:Slots w m (MX X m h) nt σ a)
  (hQ:∀a' w' m',Far X w m h w' m' h'->Slots w' m' (MX X m' h') nt σ' a'->a'.defers=a.defers->Q .normal a' w'):(Code.region id ops true).wp P Q a w:=by
 obtain⟨H',hmx,RI⟩:=H.more (64*ops.size)
 generalize hh0:h++List.replicate (64*ops.size) bF.dead=h0 at hr hok H' hmx RI
 generalize hbase:h.length=base at hr hok
 obtain⟨I,alN⟩:=al9 hr hok
 obtain⟨hend,hall⟩:=agX (σ0:=σ) (h0:=h0) ops.toList 0 σ h0 cs (by simp) rfl hr
 simp only [Nat.zero_add,Array.length_toList]at hend hall
 obtain⟨eσ,eh⟩:=ana hend
 -- what the steps come to
 let rv:Nat->SV:=λj=>(Wq P nt ops orc base σ h0 j).r
 let wv:Nat->List (Nat×bF):=λj=>(Wq P nt ops orc base σ h0 j).ws
 have hgo:∀(fuel:Nat) (listed:Array Bool) (a':Act) (w':World) (D:Nat->Bool),listed.size=ops.size->(∀i,listed.getD i false=D i)->cnt D ops.size=fuel→
   (∀j,j<ops.size->D j=true→∀k∈aio (ops.getD j default),D k=true)→
   (∃m',Far X w m h0 w' m' (hg wv h0 D ops.size)/\Slots w' m' (MX X m' (hg wv h0 D ops.size)) nt (sg (UO ops) rv σ D ops.size) a'/\a'.defers=a.defers∧
    ∀i,i<ops.size->D i=false→∀k,base+64*i<=k->k<base+64*i+64->(hg wv h0 D ops.size)[k]? =some .dead/\m' k=none)→
   wpAny P .any ops Q fuel listed a' w':=by
  intro fuel
  induction fuel with
  | zero=>
   intro listed a' w' D hsz hD hcnt _ hJ
   have asG:=agZ ops.size hcnt
   have hDn:∀j,j<=ops.size->sg (UO ops) rv σ D j=sg (UO ops) rv σ (λ_=>true) j/\hg wv h0 D j=hg wv h0 (λ_=>true) j:=by
    intro j
    induction j with
    |zero=>intro _;exact⟨rfl,rfl⟩
    |succ j ih=>intro hj;obtain⟨e1,e2⟩:=ih (by omega);simp only [sg,hg,asG j (by omega),if_true,e1,e2];exact⟨trivial,trivial⟩
   obtain⟨e1,e2⟩:=hDn ops.size (Nat.le_refl _)
   refine⟨?_,?_⟩
   ·unfold Region.ready
    rw [List.filter_eq_nil_iff]
    intro i hi
    have hi:=List.mem_range.1 hi
    have:listed.getD i true=true:=by
     have h1:=hD i;rw [asG i hi]at h1
     simpa [Array.getD,hsz,hi]using h1
    simp [this]
   ·obtain⟨m',hF,hS,hd,_⟩:=hJ
    rw [e2]at hF
    rw [e1,e2]at hS
    have hF':Far X w m h w' m' h':=by
     obtain⟨f1,f2,f3,f4,f5,f6,f7⟩:=hF
     rw [eh]
     exact⟨f1,by rw [<-hmx];exact f2,f3,f4,f5,λb hb hM=>f6 b hb (λh1=>hM ((RI b).1 h1)),λb hb=>(f7 b hb).imp (RI b).1 (λh=>h)⟩
    exact hQ a' w' m' hF' (by rw [eσ,eh];exact hS) hd
  | succ fuel ih=>
   intro listed a' w' D hsz hD hcnt asH hJ
   have anb:∀i,i∈Region.ready .any ops listed ↔ i<ops.size/\D i=false∧∀k∈aio (ops.getD i default),D k=true:=by
    intro i
    unfold Region.ready
    rw [List.mem_filter,List.mem_range]
    constructor
    ·rintro⟨hi,hb⟩
     simp only [Bool.and_eq_true,Bool.not_eq_true']at hb
     obtain⟨b1,b2⟩:=hb
     have ho:ops[i]? =some (ops.getD i default):=by simp [Array.getD,hi]
     rw [ho]at b2
     simp only [Option.map_some,Option.getD_some,Array.all_eq_true_iff_forall_mem]at b2
     refine⟨hi,?_,λk hk=> ?_⟩
     ·rw [<-hD i];simpa [Array.getD,hsz,hi]using b1
     ·obtain⟨e,he,hb,rfl⟩:=amb hk
      have:=b2 e he
      rw [hb]at this
      rw [<-hD]
      simpa using this
    ·rintro⟨hi,h1,h2⟩
     refine⟨hi,?_⟩
     have ho:ops[i]? =some (ops.getD i default):=by simp [Array.getD,hi]
     simp only [Bool.and_eq_true,Bool.not_eq_true']
     refine⟨?_,?_⟩
     ·have:=hD i;rw [h1]at this;simpa [Array.getD,hsz,hi]using this
     ·rw [ho]
      simp only [Option.map_some,Option.getD_some,Array.all_eq_true_iff_forall_mem]
      intro e he
      cases hb:Region.binds .any e with
      |false=>simp
      |true=>
       have:=h2 e.on (ama he hb)
       rw [<-hD]at this
       simpa using this
   -- closed under what comes before
   have hcl:∀j,j<ops.size→∀i,afL (ajd ops.toList []) i j=true->D j=true->D i=true:=by
    intro j
    induction j using Nat.strongRecOn with
    |_ j ihj=>
     intro hj i hi hDj
     have hlt:=I.lt i j ⟨hj,hi⟩
     obtain⟨k,hk,hki⟩:=(alN j hj).2 i hi (by omega)
     have hkj:=(alN j hj).1 k hk
     have hDk:=asH j hj hDj k hk
     rcases hki with rfl|hki
     ·exact hDk
     ·exact ihj k hkj (by omega) i hki hDk
   refine⟨λhemp=> ?_,λi hi=> ?_⟩
   ·exfalso
    have hex:∃i,i<ops.size/\D i=false:=by
     apply Classical.byContradiction
     intro hno
     have:∀n,n<=ops.size->cnt D n=0:=by
      intro n
      induction n with
      |zero=>intro _;rfl
      | succ n ihn=>
       intro hn
       have hDn:D n=true:=by
        cases hx:D n with
        |true=>rfl
        |false=>exact absurd ⟨n,by omega,hx⟩ hno
       simp [cnt,ihn (by omega),hDn]
     rw [this ops.size (Nat.le_refl _)]at hcnt
     omega
    obtain⟨i,h1,h2,h3⟩:=Xp ops.size hex
    have:i∈Region.ready .any ops listed:=(anb i).2 ⟨h1,h2,λk hk=>h3 k ((alN i h1).1 k hk)⟩
    rw [hemp]at this
    cases this
   ·obtain⟨hin,hDi,hpre⟩:=(anb i).1 hi
    obtain⟨o,σi,hi',ho,hst,hstep,atO⟩:=hall i (by omega) hin
    obtain⟨e1,e2⟩:=ana hst
    obtain⟨m',hF,hS,hd,hfresh⟩:=hJ
    have hod:ops.getD i default=o:=by simp [Array.getD,hin]at ho⊢;exact ho
    have hp:∀j,(i<ops.size/\afL (ajd ops.toList []) j i=true)->D j=true:=by
     intro j hj
     have hlt:=I.lt j i hj
     obtain⟨k,hk,hki⟩:=(alN i hin).2 j hj.2 (by omega)
     have hDk:=hpre k hk
     have hkj:=(alN i hin).1 k hk
     rcases hki with rfl|hki
     ·exact hDk
     ·exact hcl k (by omega) j hki hDk
    have hcl':∀i j,j<ops.size->(j<ops.size/\afL (ajd ops.toList []) i j=true)->D j=true->D i=true:=λi j hj h hDj=>hcl j hj i h.2 hDj
    have anc:G6 P nt ops orc base i o (sg (UO ops) rv σ D ops.size) (hg wv h0 D ops.size)=some (Wq P nt ops orc base σ h0 i):=by
     refine afK hstep (λx hx=> ?_) (λk hk=> ?_)
     ·rw [e1]
      exact(an3 I hcl' hin hDi hp (by rw [hod];exact hx)).symm
     ·rw [e2]
      unfold mX
      rw [apE (h0:=h0) I hcl' hin hDi hp hk]
    have hdst:UO ops i=o.dst:=by simp [UO,ho]
    unfold wpOp
    rw [ho]
    simp only
    have hmain:=Y2 (P:=P) (Q:=Q) hF.rel (λk h1 h2=>hfresh i hin hDi k h1 h2) hS anc (λq hq=>hc q (atO q hq))
     (K :=wpAny P .any ops Q fuel (listed.setIfInBounds i true)) (λw1 m1 v hSt hSl=>by
      have eh':=apG (h0:=h0) I hcl' hin hDi
      have atP:Slots w1 m1 (MX X m1 (hg wv h0 (adZ D i) ops.size)) nt (sg (UO ops) rv σ (adZ D i) ops.size) (a'.put o.dst v):=by
       refine⟨hSl.1,λx s hx=> ?_⟩
       rw [apF I hcl' hin hDi x]at hx
       rw [hdst]at hx
       rw [eh']
       exact hSl.2 x s hx
      refine ih (listed.setIfInBounds i true) _ w1 (adZ D i) (by simp [hsz]) (λj=> ?_) (by have:=ajZ hDi ops.size hin;omega) (λj hj hDj k hk=> ?_) ⟨m1,?_,atP,?_,λj hj hDj k hk1 hk2=> ?_⟩
      ·by_cases hji:j=i
       ·subst hji;rw [Qr];simp [Array.getD,hsz,hin]
       ·rw [NA hji,<-hD j]
        simp only [Array.getD_eq_getD_getElem?]
        rw [Array.getElem?_setIfInBounds_ne (λe=>hji e.symm)]
      ·by_cases hji:j=i
       ·subst hji
        have:=hpre k hk
        unfold adZ;rw [this];rfl
       ·rw [NA hji]at hDj
        have:=asH j hj hDj k hk
        unfold adZ;rw [this];rfl
      ·rw [eh'];exact hF.trans hSt.far
      ·rw [<-hd];cases o.dst<;>rfl
      ·have hji:j≠i:=by intro e;subst e;rw [Qr]at hDj;cases hDj
       rw [NA hji]at hDj
       obtain⟨Wm,hnone⟩:=hfresh j hj hDj k hk1 hk2
       have hne:∀ob,(k,ob) ∉ (Wq P nt ops orc base σ h0 i).ws:=by
        intro ob hob
        rcases abo anc k ob hob with h3|h3
        ·omega
        ·have:mX (hg wv h0 D ops.size) k= .dead:=by simp [mX,Wm]
         rw [this]at h3;exact h3.elim
       have hd2:(bD (hg wv h0 D ops.size) (Wq P nt ops orc base σ h0 i).ws)[k]? =some .dead:=by rw [lS _ _ k hne];exact Wm
       exact⟨by rw [eh'];exact hd2,hSt.nw k Wm hd2 hnone⟩)
    split
    ·rename_i hw;rw [if_pos hw]at hmain;exact .inl hmain
    ·rename_i hw;rw [if_neg hw]at hmain;exact hmain
 refine wp_region_any arM (hgo ops.size _ a _ (λ_=>false) (by simp) (λi=>by simp [Array.getD]) ?_ (λj _ h=>by cases h) ⟨m,?_,?_,rfl,λi hi _ k h1 h2=> ?_⟩)
 ·have:∀n,cnt (λ_=>false) n=n:=by
   intro n;induction n with
   |zero=>rfl
   |succ n ih=>simp [cnt,ih]
  exact this _
 ·have hz:∀n,hg wv h0 (λ_=>false) n=h0:=by
   intro n;induction n with
   |zero=>rfl
   |succ n ih=>simp [hg,ih]
  rw [hz]
  exact⟨H'.same rfl,⟨λ_ _ h=>h,λ_ _ h=>h,λ_ _ _=>rfl,Nat.le_refl _⟩,rfl,rfl,⟨rfl,λ_=>Nat.le_succ _⟩,λ_ _ _=>rfl,λ_ h=> .inl h⟩
 ·have hz:∀n,hg wv h0 (λ_=>false) n=h0/\sg (UO ops) rv σ (λ_=>false) n=σ:=by
   intro n;induction n with
   |zero=>exact⟨rfl,rfl⟩
   |succ n ih=>simp [hg,sg,ih.1,ih.2]
  rw [(hz _).1,(hz _).2,hmx]
  refine⟨hs.1,λx s hx=> ?_⟩
  obtain⟨v,hv,Cz⟩:=hs.2 x s hx
  have hL:Later w m (MX X m h) {w with drawn:=w.drawn+1} m (MX X m h):=⟨λ_ _ h=>h,λ_ _ h=>h,λ_ _ _=>rfl,Nat.le_refl _⟩
  exact⟨v,hv,nZ.later hL Cz⟩
 ·have hz:∀n,hg wv h0 (λ_=>false) n=h0:=by
   intro n;induction n with
   |zero=>rfl
   |succ n ih=>simp [hg,ih]
  rw [hz,<-hh0]
  refine⟨?_,H.used k (by omega)⟩
  rw [List.getElem?_append_right (by omega),List.getElem?_replicate,if_pos (by omega)]
end
end Go.AM
namespace Go.AM
open Go Go.CP Go.RowKit
structure ad2 [Fuel] (w0:World) (M0:Mu) (w:World):Prop where
 os:w.os=w0.os
 tape:w.tape=w0.tape
 output:UG w0 w
 size:w0.heap.size<=w.heap.size
 keep:∀b,b<w0.heap.size→¬M0 b->w.heap[b]? =w0.heap[b]?
structure Rel [Fuel] (Df:List Deferred) (X:Mu) (w0:World) (M0:Mu) (m0:vW) (p nt:Nat) (st:St) (a:Act) (w:World):Prop where
 defers:a.defers=Df
 frame:ad2 w0 M0 w
 ex:∃m,bI X w m st.h/\Slots w m (MX X m st.h) nt st.σ a/\(∀b,Mut m st.h b->M0 b\/w0.heap.size<=b)∧∀j l,j<p->m0 j=some l->m j=some l
def wpA [Fuel] (P:Program) (nt p:Nat) (c:Code) (Q:Exit->St->Prop) (st:St):Prop:=
 ∀Df X w0 M0 m0 a w,Rel Df X w0 M0 m0 p nt st a w->c.wp P (λe a' w'=>∃st',Q e st'/\Rel Df X w0 M0 m0 p nt st' a' w') a w
section
variable {P:Program} {nt p:Nat} {Q Q':Exit->St->Prop} {st:St}
theorem uO [Fuel] {c:Code} (h:wpA P nt p c Q st) (hq:∀e s,Q e s->Q' e s):wpA P nt p c Q' st:=
 λDf X w0 M0 m0 a w R=>wp_mono (h Df X w0 M0 m0 a w R) (λe a w ⟨s,q,r⟩=>⟨s,hq e s q,r⟩)
def amc (N:St->Prop) (Q:Exit->St->Prop):Exit->St->Prop
 | .normal,s=>N s
 |e,s=>Q e s
theorem TY [Fuel] {x y:Code} (h:wpA P nt p x (amc (wpA P nt p y Q) Q) st):wpA P nt p (.seq x y) Q st:=by
 intro Df X w0 M0 m0 a w R
 refine wp_seq (wp_mono (h Df X w0 M0 m0 a w R) (λe a' w' hq=> ?_))
 obtain⟨s,q,r⟩:=hq
 cases e with
 |normal=>exact q Df X w0 M0 m0 a' w' r
 |_=>exact⟨s,q,r⟩
theorem amd [Fuel] (h:Q .normal st):wpA P nt p .skip Q st:=λDf X w0 M0 m0 a w R=>wp_skip ⟨st,h,R⟩
theorem aj0 [Fuel] (h:Q .ret st):wpA P nt p .ret Q st:=λDf X w0 M0 m0 a w R=>wp_ret ⟨st,h,R⟩
theorem ame [Fuel] {id:Nat} (h:Q (.exit id) st):wpA P nt p (.exit id) Q st:=λDf X w0 M0 m0 a w R=>wp_exit ⟨st,h,R⟩
def aj1 (id:Nat) (Q:Exit->St->Prop):Exit->St->Prop
 | .exit j,s=>if j=id then Q .normal s else Q (.exit j) s
 |e,s=>Q e s
theorem aj2 [Fuel] {id:Nat} {c:Code} (h:wpA P nt p c (aj1 id Q) st):wpA P nt p (.block id c) Q st:=by
 intro Df X w0 M0 m0 a w R
 refine wp_block (wp_mono (h Df X w0 M0 m0 a w R) (λe a' w' hq=> ?_))
 obtain⟨s,q,r⟩:=hq
 cases e with
 |exit j=>
  simp only [Exit.inBlock,aj1]at q⊢
  split
  ·rename_i hj;rw [if_pos hj]at q;exact⟨s,q,r⟩
  ·rename_i hj;rw [if_neg hj]at q;exact⟨s,q,r⟩
 |_=>exact⟨s,q,r⟩
def ag0 (st:St) (c:Operand):Option Bool:=
 match opd st.σ c with
 |some (.one (.s (.c (.val (.bool b)))))=>some b
 |_=>none
theorem an4 [Fuel] (σ:List (Nat×SV)) (x:Operand):∃L,opd (cut σ L) x=opd σ x:=by
 cases x with
 |tmp t=>exact⟨[t],by simp only [opd];exact uz σ t [t] (by simp)⟩
 |_=>exact⟨[],rfl⟩
theorem UQ [Fuel] {c:Operand} {x y:Code} {b:Bool} (hb:ag0 st c=some b) (ht:b=true->wpA P nt p x Q st) (hf:b=false->wpA P nt p y Q st):wpA P nt p (.cond c x y) Q st:=by
 intro Df X w0 M0 m0 a w R
 obtain⟨m,H,hs,hm,hj⟩:=R.ex
 unfold ag0 at hb
 have hev:a.eval c= .bool b:=by
  split at hb
  ·rename_i b' hc
   cases hb
   obtain⟨L,hL⟩:=an4 st.σ c
   have:=ajV hs (L:=L) c _ (by rw [hL];exact hc)
   generalize a.eval c=v at this
   cases this with
   |c hv=>cases hv;rfl
  ·cases hb
 cases b with
 |true=>exact wp_cond_true hev (ht rfl Df X w0 M0 m0 a w R)
 |false=>exact wp_cond_false hev (hf rfl Df X w0 M0 m0 a w R)
theorem exists_least [Fuel] (p:Nat->Prop):(∃n,p n)→∃n,p n∧∀k,p k->n<=k:=by
 rintro⟨n,hn⟩
 induction n using Nat.strongRecOn with
 |_ n ih=>
  by_cases h:∃k,k<n/\p k
  ·obtain⟨k,hk,hp⟩:=h;exact ih k hk hp
  ·exact⟨n,hn,λk hk=>Nat.le_of_not_lt (λhlt=>h ⟨k,hlt,hk⟩)⟩
theorem amf [Fuel] {c:Code} (I:Nat->St->Prop) {n:Nat} (h0:I n st) (hr:∀n s,I n s->wpA P nt p c (amc (λs'=>∃n',n'<n/\I n' s') Q) s):wpA P nt p (.loop c) Q st:=by
 intro Df X w0 M0 m0 a w R
 let J:Act->World->Prop:=λa w=>∃n s,I n s/\Rel Df X w0 M0 m0 p nt s a w
 have hex:∀a w,J a w→∃n,∃s,I n s/\Rel Df X w0 M0 m0 p nt s a w:=λa w h=>h
 open Classical in
 let μ:Act->World->Nat:=λa w=>if h:∃n,∃s,I n s/\Rel Df X w0 M0 m0 p nt s a w then Classical.choose (exists_least _ h)else 0
 refine wp_loop J μ ⟨n,st,h0,R⟩ (λa w hJ=> ?_)
 have hJ':∃n,∃s,I n s/\Rel Df X w0 M0 m0 p nt s a w:=hJ
 have hμ:μ a w=Classical.choose (exists_least _ hJ'):=by simp only [μ];rw [dif_pos hJ']
 obtain⟨s,hI,hR⟩:=(Classical.choose_spec (exists_least _ hJ')).1
 refine wp_mono (hr _ s hI Df X w0 M0 m0 a w hR) (λe a' w' hq=> ?_)
 obtain⟨s',q,r⟩:=hq
 cases e with
 |normal=>
  obtain⟨n',hlt,hI'⟩:=q
  have hJ2:∃n,∃s,I n s/\Rel Df X w0 M0 m0 p nt s a' w':=⟨n',s',hI',r⟩
  refine⟨⟨n',s',hI',r⟩,?_⟩
  have hμ':μ a' w'=Classical.choose (exists_least _ hJ2):=by simp only [μ];rw [dif_pos hJ2]
  rw [hμ,hμ']
  exact Nat.lt_of_le_of_lt ((Classical.choose_spec (exists_least _ hJ2)).2 n' ⟨s',hI',r⟩) hlt
 |_=>exact⟨s',q,r⟩
theorem Rel.far [Fuel] {Df:List Deferred} {X:Mu} {w0:World} {M0:Mu} {m0:vW} {a a':Act} {w w':World} {m m':vW} {st':St} (R:Rel Df X w0 M0 m0 p nt st a w) (hm:∀b,Mut m st.h b->M0 b\/w0.heap.size<=b) (hj:∀j l,j<p->m0 j=some l->m j=some l)
  (hF:Far X w m st.h w' m' st'.h) (hs:Slots w' m' (MX X m' st'.h) nt st'.σ a') (hd:a'.defers=a.defers):Rel Df X w0 M0 m0 p nt st' a' w':=by
 refine⟨by rw [hd];exact R.defers,⟨by rw [hF.os,R.frame.os],by rw [hF.tape,R.frame.tape],R.frame.output.trans hF.output,Nat.le_trans R.frame.size hF.later.size,λb hb hM=> ?_⟩,m',hF.rel,hs,λb hb=> ?_,λj l hp h0=>hF.later.ext j l (hj j l hp h0)⟩
 ·rw [hF.keep b (Nat.lt_of_lt_of_le hb R.frame.size) (λh1=>by rcases hm b h1 with h2|h2;exact hM h2;omega),R.frame.keep b hb hM]
 ·rcases hF.mt b hb with h1|h1
  ·exact hm b h1
  ·exact .inr (Nat.le_trans R.frame.size h1)
def aqZ [Fuel] (P:Program) (nt:Nat) (ops:Array Oper) (orc:List (Nat×Orc)) (st:St):Option (List (Nat×SV)×List bF×List Prop):=
 Wp P nt ops orc st.h.length ops.toList 0 st.σ (st.h++List.replicate (64*ops.size) .dead)
def okR [Fuel] (P:Program) (nt:Nat) (ops:Array Oper) (orc:List (Nat×Orc)) (st:St):Bool:=
 aci ops (aff P nt ops orc st.h.length ops.toList 0 st.σ (st.h++List.replicate (64*ops.size) .dead))
def aj3:List Prop->Prop
 | []=>True
 |p::r=>p/\aj3 r
theorem aj3.mem [Fuel]:∀{l:List Prop},aj3 l→∀q∈l,q
 | [],_,q,h=>by cases h
 |p::r,⟨h1,h2⟩,q,h=>by
  cases h with
  |head=>exact h1
  |tail _ h=>exact aj3.mem h2 q h
theorem air [Fuel] {ops:Array Oper} {id:Nat} (orc:List (Nat×Orc)) {σ':List (Nat×SV)} {h':List bF} {cs:List Prop} (hr:aqZ P nt ops orc st=some (σ',h',cs)) (hc:aj3 cs) (hQ:Q .normal ⟨σ',h'⟩):
  wpA P nt p (.region id ops false) Q st:=by
 intro Df X w0 M0 m0 a w R
 obtain⟨m,H,hs,hm,hj⟩:=R.ex
 exact ain hr hc.mem H hs (λa' w' m' hF hS hd=>⟨⟨σ',h'⟩,hQ,R.far (st':=⟨σ',h'⟩) hm hj hF hS hd⟩)
theorem aaw [Fuel] {ops:Array Oper} {id:Nat} (orc:List (Nat×Orc)) {σ':List (Nat×SV)} {h':List bF} {cs:List Prop} (arM:P.follows .mixedOrders=true) (hr:aqZ P nt ops orc st=some (σ',h',cs)) (hc:aj3 cs) (hok:okR P nt ops orc st=true)
  (hQ:Q .normal ⟨σ',h'⟩):wpA P nt p (.region id ops true) Q st:=by
 intro Df X w0 M0 m0 a w R
 obtain⟨m,H,hs,hm,hj⟩:=R.ex
 exact aiq arM hr hc.mem hok H hs (λa' w' m' hF hS hd=>⟨⟨σ',h'⟩,hQ,R.far (st':=⟨σ',h'⟩) hm hj hF hS hd⟩)
end
def Le (p:Nat) (st st':St):Prop:=∀X w m nt a,bI X w m st.h->Slots w m (MX X m st.h) nt st.σ a→∃m',bI X w m' st'.h/\Slots w m' (MX X m' st'.h) nt st'.σ a/\(∀b,Mut m' st'.h b->Mut m st.h b)∧∀j l,j<p->m j=some l->m' j=some l
theorem Rel.le [Fuel] {Df:List Deferred} {X:Mu} {w0:World} {M0:Mu} {m0:vW} {p nt:Nat} {st st':St} {a:Act} {w:World} (R:Rel Df X w0 M0 m0 p nt st a w) (h:Le p st st'):Rel Df X w0 M0 m0 p nt st' a w:=by
 obtain⟨m,H,hs,hm,hj⟩:=R.ex
 obtain⟨m',H',hs',hm',hj'⟩:=h X w m nt a H hs
 exact⟨R.defers,R.frame,m',H',hs',λb hb=>hm b (hm' b hb),λj l hp h0=>hj' j l hp (hj j l hp h0)⟩
theorem K8 [Fuel] {P:Program} {nt p:Nat} {c:Code} {Q:Exit->St->Prop} {st st':St} (h:Le p st st') (hw:wpA P nt p c Q st'):wpA P nt p c Q st:=
 λDf X w0 M0 m0 a w R=>hw Df X w0 M0 m0 a w (R.le h)
def idxOf (k:Nat):List Nat->Nat->Option Nat
 | [],_=>none
 |j::r,i=>bif Nat.beq j k then some i else idxOf k r (i+1)
def SC.ren.apg (ρ:Nat->Option Nat):List Nat->Option (List Nat)
 | []=>some []
 |k::r=>match ρ k,SC.ren.apg ρ r with
  |some j,some l=>some (j::l)
  |_,_=>none
def SC.ren (ρ:Nat->Option Nat):SC->SC
 | .own k=>match ρ k with
  |some j=> .own j
  |none=> .bot
 | .sl k lo len=>match ρ k with
  |some j=> .sl j lo len
  |none=> .bot
 | .pb k off=>match ρ k with
  |some j=> .pb j off
  |none=> .bot
 | .pe k i off=>match ρ k with
  |some j=> .pe j i off
  |none=> .bot
 | .fn f ks=>match SC.ren.apg ρ ks with
  |some js=> .fn f js
  |none=> .bot
 | .mp k=>match ρ k with
  |some j=> .mp j
  |none=> .bot
 | .fb f k off=>match ρ k with
  |some j=> .fb f j off
  |none=> .bot
 |x=>x
def AV.ren (ρ:Nat->Option Nat):AV->AV
 | .s x=> .s (x.ren ρ)
 | .agg cs=> .agg (cs.map (SC.ren ρ))
def SV.ren (ρ:Nat->Option Nat):SV->SV
 | .one a=> .one (a.ren ρ)
 | .tup as'=> .tup (as'.map (AV.ren ρ))
def bF.ren (ρ:Nat->Option Nat):bF->bF
 | .box cs=> .box (cs.map (SC.ren ρ))
 | .ra z n cs=> .ra z n (cs.map (SC.ren ρ))
 |o=>o
section
variable {w:World} {m m':vW} {M M':Mu} {ρ:Nat->Option Nat}
theorem lU.ren [Fuel] (hρ:∀k j l,ρ k=some j->m k=some l->m' j=some l) (hM:∀b,b<w.heap.size→¬M b→¬M' b) {x:SC} {v:Value} (h:lU w m M x v):lU w m' M' (x.ren ρ) v:=by
 have hL:Later w m M w (λk=>m k) M':=⟨λ_ _ h=>h,hM,λ_ _ _=>rfl,Nat.le_refl _⟩
 cases h with
 |c h=>exact .c (h.later hL)
 |rp cs b off c hb hs hc h=>exact .rp cs b off c (hM b hs hb) hs hc (λj x hx=>(h j x hx).later hL)
 |sl k lo len l a c hk h0 h1 h2 h3=>
  simp only [SC.ren]
  cases hr:ρ k with
  |none=>exact .bot _
  |some j=>exact .sl j lo len l a c (hρ k j l hr hk) h0 h1 h2 h3
 |own k l hk=>
  simp only [SC.ren]
  cases hr:ρ k with
  |none=>exact .bot _
  |some j=>exact .own j l (hρ k j l hr hk)
 |pb k off b l hk hb=>
  simp only [SC.ren]
  cases hr:ρ k with
  |none=>exact .bot _
  |some j=>exact .pb j off b l (hρ k j l hr hk) hb
 |pe k i off b l hk hb hi=>
  simp only [SC.ren]
  cases hr:ρ k with
  |none=>exact .bot _
  |some j=>exact .pe j i off b l (hρ k j l hr hk) hb hi
 | fn f caps vs hs h=>
  simp only [SC.ren]
  cases hr:SC.ren.apg ρ caps with
  |none=>exact .bot _
  | some js=>
   have:∀(ks js:List Nat),SC.ren.apg ρ ks=some js->ks.length=js.length∧∀(i:Nat) j,js[i]? =some j→∃k,ks[i]? =some k/\ρ k=some j:=by
    intro ks
    induction ks with
    |nil=>intro js hj;simp [SC.ren.apg]at hj;subst hj;exact⟨rfl,λi j h=>by simp at h⟩
    | cons k ks ih=>
     intro js hj
     simp only [SC.ren.apg]at hj
     split at hj
     ·rename_i j l h1 h2
      cases hj
      obtain⟨q1,q2⟩:=ih l h2
      refine⟨by simp [q1],λi j' hi=> ?_⟩
      cases i with
      |zero=>simp at hi;subst hi;exact⟨k,rfl,h1⟩
      |succ i=>simpa using q2 i j' (by simpa using hi)
     ·cases hj
   obtain⟨q1,q2⟩:=this caps js hr
   refine .fn f js vs (by rw [hs,q1]) (λi j hi=> ?_)
   obtain⟨k,hk,hkj⟩:=q2 i j hi
   obtain⟨l,b,e1,e2,e3⟩:=h i k hk
   exact⟨l,b,hρ k j l hkj e1,e2,e3⟩
 |mp k b l hk hb=>
  simp only [SC.ren]
  cases hr:ρ k with
  |none=>exact .bot _
  |some j=>exact .mp j b l (hρ k j l hr hk) hb
 |fb f k off b l hk hb=>
  simp only [SC.ren]
  cases hr:ρ k with
  |none=>exact .bot _
  |some j=>exact .fb f j off b l (hρ k j l hr hk) hb
 |bot v=>exact .bot v
theorem UF.ren [Fuel] (hρ:∀k j l,ρ k=some j->m k=some l->m' j=some l) (hM:∀b,b<w.heap.size→¬M b→¬M' b) {cs:List SC} {vs:Array Value} (h:UF w m M cs vs):UF w m' M' (cs.map (SC.ren ρ)) vs:=by
 refine⟨by simp [h.1],λi x hx=> ?_⟩
 rw [List.getElem?_map]at hx
 cases hy:cs[i]? with
 |none=>rw [hy]at hx;cases hx
 |some y=>rw [hy]at hx;cases hx;exact lU.ren hρ hM (h.2 i y hy)
theorem Fp.ren [Fuel] (hρ:∀k j l,ρ k=some j->m k=some l->m' j=some l) (hM:∀b,b<w.heap.size→¬M b→¬M' b) {x:AV} {v:Value} (h:Fp w m M x v):Fp w m' M' (x.ren ρ) v:=by
 cases x with
 |s x=>exact lU.ren hρ hM h
 |agg cs=>obtain⟨vs,rfl,hL⟩:=h;exact⟨vs,rfl,hL.ren hρ hM⟩
theorem nZ.ren [Fuel] (hρ:∀k j l,ρ k=some j->m k=some l->m' j=some l) (hM:∀b,b<w.heap.size→¬M b→¬M' b) {x:SV} {v:Value} (h:nZ w m M x v):nZ w m' M' (x.ren ρ) v:=by
 cases x with
 |one x=>exact Fp.ren hρ hM h
 |tup as'=>
  obtain⟨vs,rfl,hz,hs⟩:=h
  refine⟨vs,rfl,by simp [hz],λi a ha=> ?_⟩
  rw [List.getElem?_map]at ha
  cases hy:as'[i]? with
  |none=>rw [hy]at ha;cases ha
  |some y=>rw [hy]at ha;cases ha;exact Fp.ren hρ hM (hs i y hy)
end
end Go.AM
namespace Go.AM
open Go Go.RowKit Go.CP
def atQ (g:Nat->bF) (h':List bF) (src:List (Option Nat)) (Z:Nat->Prop) (x:SC) (y:CV):Prop:=
 (∃x',x= .c x'/\x'.eqv y)∨∃(k:Nat) (t:Ty) (xs:List (den t)),x= .own k/\Z k/\g k= .arr (wd t) xs.length (fE t xs)/\(∀j:Nat,src[j]? =some (some k)->h'[j]? =some bF.dead)/\(y= .ls t xs\/(y= .lsn t xs/\xs≠ []))
inductive X4 (g:Nat->bF) (h':List bF) (src:List (Option Nat)) (Z:Nat->Prop):SC->SC->Prop
 |bot (x:SC):X4 g h' src Z x .bot
 |c {x y:CV} (e:x.eqv y):X4 g h' src Z (.c x) (.c y)
 |rp (cs:List CV):X4 g h' src Z (.rp cs) (.rp cs)
 |own {k j:Nat} (hj:src[j]? =some (some k)):X4 g h' src Z (.own k) (.own j)
 |gh {j z:Nat} {f:Nat->List CV} (hj:src[j]? =some none) (ho:h'[j]? =some (.arr z 0 f)):X4 g h' src Z (.c (.val (.slice none 0 0))) (.own j)
 |frz {k:Nat} {t:Ty} {xs:List (den t)} (hz:Z k) (hk:g k= .arr (wd t) xs.length (fE t xs)) (hn:∀j:Nat,src[j]? =some (some k)->h'[j]? =some bF.dead):X4 g h' src Z (.own k) (.c (.ls t xs))
 |frn {k:Nat} {t:Ty} {xs:List (den t)} (hz:Z k) (hk:g k= .arr (wd t) xs.length (fE t xs)) (hn:∀j:Nat,src[j]? =some (some k)->h'[j]? =some bF.dead) (hx:xs≠ []):X4 g h' src Z (.own k) (.c (.lsn t xs))
 |frp {k:Nat} {cs:List SC} {ys:List CV} (hz:Z k) (hk:g k= .box cs) (he:∀(i:Nat) y,ys[i]? =some y→∃x,cs[i]? =some x/\atQ g h' src Z x y) (hn:∀j:Nat,src[j]? =some (some k)->h'[j]? =some bF.dead):X4 g h' src Z (.pb k 0) (.rp ys)
 |pb {k j off:Nat} (hj:src[j]? =some (some k)):X4 g h' src Z (.pb k off) (.pb j off)
 |mp {k j:Nat} (hj:src[j]? =some (some k)):X4 g h' src Z (.mp k) (.mp j)
 |fb {f:FuncId} {k j off:Nat} (hj:src[j]? =some (some k)):X4 g h' src Z (.fb f k off) (.fb f j off)
 |pe {k j i off:Nat} (hj:src[j]? =some (some k)):X4 g h' src Z (.pe k i off) (.pe j i off)
 |fn {f:FuncId} {ks js:List Nat} (hl:ks.length=js.length) (hj:∀(i j:Nat),js[i]? =some j→∃k,ks[i]? =some k/\src[j]? =some (some k)):X4 g h' src Z (.fn f ks) (.fn f js)
def ag1 (g:Nat->bF) (h':List bF) (src:List (Option Nat)) (Z:Nat->Prop) (cs cs':List SC):Prop:=
 cs.length=cs'.length∧∀(i:Nat) x',cs'[i]? =some x'→∃x,cs[i]? =some x/\X4 g h' src Z x x'
def aph (g:Nat->bF) (h':List bF) (src:List (Option Nat)) (Z:Nat->Prop):AV->AV->Prop
 | .s x,.s y=>X4 g h' src Z x y
 | .agg xs,.agg ys=>ag1 g h' src Z xs ys
 |_,_=>False
def aj4 (g:Nat->bF) (h':List bF) (src:List (Option Nat)) (Z:Nat->Prop):SV->SV->Prop
 | .one x,.one y=>aph g h' src Z x y
 | .tup xs,.tup ys=>xs.length=ys.length∧∀(i:Nat) y,ys[i]? =some y→∃x,xs[i]? =some x/\aph g h' src Z x y
 |_,_=>False
def aq0 (g:Nat->bF) (h':List bF) (src:List (Option Nat)) (Z:Nat->Prop):bF->bF->Prop
 | .box xs,.box ys=>ag1 g h' src Z xs ys
 | .arr z n f,.arr z' n' f'=>z=z'/\n=n'/\f=f'
 | .mp a,.mp b=>a=b
 | .ms a,.ms b=>a=b
 | .ra z n xs,.ra z' n' ys=>z=z'/\n=n'/\ag1 g h' src Z xs ys
 |_,_=>False
structure adn (p:Nat) (g:Nat->bF) (h':List bF) (src:List (Option Nat)) (Z:Nat->Prop):Prop where
 len:src.length=h'.length
 obj:∀(j:Nat) o',h'[j]? =some o'->o'= .dead\/(∃k,src[j]? =some (some k)/\aq0 g h' src Z (g k) o')\/(src[j]? =some none∧∃z f,o'= .arr z 0 f)
 nod:∀(i j k:Nat),src[i]? =some (some k)->src[j]? =some (some k)->h'[i]? ≠some bF.dead->h'[j]? ≠some bF.dead->i=j
 pre:∀(j:Nat),j<p->src[j]? =some (some j)
def Qs (m:vW) (h':List bF) (src:List (Option Nat)):vW:=λj=>
 match src[j]? with
 |some (some k)=>m k
 |some none=>match h'[j]? with
  |some (.arr z _ _)=>some ⟨none,0,z,none,0⟩
  |_=>none
 |none=>none
theorem aq0.live [Fuel] {g:Nat->bF} {h':List bF} {src:List (Option Nat)} {Z:Nat->Prop} {o o':bF} (e:aq0 g h' src Z o o'):o.live:=by
 cases o<;>cases o'<;>first|(cases e;done)|trivial
theorem aj5 [Fuel] {X:Mu} {w:World} {m:vW} {h:List bF} (H:bI X w m h) {k z n:Nat} {f:Nat->List CV} (hk:mX h k= .arr z n f) {M':Mu} (hM:∀b,b<w.heap.size→¬MX X m h b→¬M' b) (hMk:∀l b,m k=some l->l.blk=some b→¬M' b)
  {v:Value} (hs:lU w m (MX X m h) (.own k) v):OZ w M' (.rd z n f) v:=by
 have hL:Later w m (MX X m h) w m M':=⟨λ_ _ h=>h,hM,λ_ _ _=>rfl,Nat.le_refl _⟩
 cases hs with
 | own _ l hmk=>
  have hn:=ajE H hk hmk
  subst hn
  by_cases hl0:l.n=0
  ·rw [hl0];exact .rd0 z f _ _
  ·obtain⟨l',e1,e2,e3,e4,e5⟩:=H.obj k _ (l5 hk trivial)
   rw [hmk]at e1;cases e1
   cases hb:l.blk with
   |none=>have:=e4 hb;omega
   |some b=>
    obtain⟨e6,T,vs,e7,e8,e9,e10⟩:=e5 b hb
    rw [e6]
    have hz:l.n*z<=vs.size:=by rw [e8];exact Nat.mul_le_mul_right _ e3.2
    refine .rd z l.n f b 0 l.cap (λq=>vs.getD q undef) (hMk l b hmk hb) (lt_of_block e7) e3.2 (λi hi=>(e10 i hi).1) (λq hq=> ?_) (λq hq=>e9 _ (by omega)) (λi q y hi hy=>((e10 i hi).2 q y hy).later hL)
    rw [cell_of_row w b _ vs T _ e7]
    have:q<vs.size:=by omega
    simp [Array.getD,this]
section
variable {X X':Mu} {w:World} {m:vW} {g:Nat->bF} {h h':List bF} {src:List (Option Nat)} {Z:Nat->Prop} {p:Nat}
def aj6 (g:Nat->bF) (h:List bF):Prop:=∀k,(g k).live->h[k]? =some (g k)
theorem adn.mut [Fuel] (F:adn p g h' src Z) (hg:aj6 g h) {b:Nat} (hb:Mut (Qs m h' src) h' b):∃(j k:Nat) (l:Loc),src[j]? =some (some k)/\h[k]? =some (g k)/\(g k).live/\m k=some l/\l.blk=some b/\h'[j]? ≠some bF.dead:=by
 obtain⟨j,o',l,hj,hl,hm,hbk⟩:=hb
 rcases F.obj j o' hj with rfl|⟨k,h1,h3⟩|⟨h1,z,f,rfl⟩
 ·exact hl.elim
 ·unfold Qs at hm;rw [h1]at hm
  exact⟨j,k,l,h1,hg k h3.live,h3.live,hm,hbk,by rw [hj];intro e;cases e;exact hl⟩
 ·unfold Qs at hm;rw [h1,hj]at hm
  cases hm;cases hbk
theorem adn.apH [Fuel] (F:adn p g h' src Z) (hg:aj6 g h) {b:Nat} (hb:Mut (Qs m h' src) h' b):Mut m h b:=
 let⟨_,k,l,_,h2,h3,h4,h5,_⟩:=F.mut hg hb;⟨k,g k,l,h2,h3,h4,h5⟩
structure ais (X X':Mu) (w:World) (m:vW) (g:Nat->bF) (h h':List bF) (src:List (Option Nat)) (Z:Nat->Prop):Prop where
 sub:∀b,X' b->X b\/Mut m h b
 dis:∀b,Mut (Qs m h' src) h' b→¬X' b
 lt:∀b,X' b->b<w.heap.size
 frz:∀k,Z k->(g k).live→∀l b,m k=some l->l.blk=some b→¬X' b
theorem ais.refl [Fuel] (F:adn p g h' src Z) (hg:aj6 g h) (H:bI X w m h):ais X X w m g h h' src Z:=
 ⟨λ_ h=> .inl h,λb hb=>H.adA b (F.apH hg hb),H.xlt,λk _ hk l b h1 h2=>H.adA b ⟨k,g k,l,hg k hk,hk,h1,h2⟩⟩
theorem ais.hM [Fuel] (F:adn p g h' src Z) (hg:aj6 g h) (E:ais X X' w m g h h' src Z):∀b,b<w.heap.size→¬MX X m h b→¬MX X' (Qs m h' src) h' b:=by
 intro b _ h1 h2
 rcases h2 with h2|h2
 ·exact h1 (E.sub b h2)
 ·exact h1 (.inr (F.apH hg h2))
theorem X4.sim [Fuel] (F:adn p g h' src Z) (hg:aj6 g h) (E:ais X X' w m g h h' src Z) (H:bI X w m h) {x x':SC} {v:Value} (e:X4 g h' src Z x x') (hs:lU w m (MX X m h) x v):lU w (Qs m h' src) (MX X' (Qs m h' src) h') x' v:=by
 have hM:=E.hM F hg
 have hL:Later w m (MX X m h) w m (MX X' (Qs m h' src) h'):=⟨λ_ _ h=>h,hM,λ_ _ _=>rfl,Nat.le_refl _⟩
 have hm:∀{j k:Nat} {l:Loc},src[j]? =some (some k)->m k=some l->Qs m h' src j=some l:=λh1 h2=>by unfold Qs;rw [h1];exact h2
 cases e with
 |bot=>exact .bot v
 |c e=>cases hs with|c hs=>exact .c ((hs.later hL).eqv e)
 |rp cs=>
  cases hs with
  |rp _ b off c hb hs hc h=>exact .rp cs b off c (hM b hs hb) hs hc (λj x hx=>(h j x hx).later hL)
 |own hj=>cases hs with|own _ l hk=>exact .own _ l (hm hj hk)
 | @gh j z f hj ho=>
  cases hs with
  |c hs=>cases hs;exact .own j ⟨none,0,z,none,0⟩ (by unfold Qs;rw [hj,ho])
 | @frz k t xs hz hk hn=>
  have hlv:(g k).live:=by rw [hk];trivial
  have hget:mX h k= .arr (wd t) xs.length (fE t xs):=by unfold mX;rw [hg k hlv,hk];rfl
  refine .c (.ls t xs v (aj5 H hget hM (λl b hmk hbk h2=> ?_) hs))
  rcases h2 with h2|h2
  ·exact E.frz k hz hlv l b hmk hbk h2
  ·obtain⟨j,k',l',h3,h4,h5,h6,h7,h8⟩:=F.mut hg h2
   have:=H.inj k' k _ _ l' l b h4 (hg k hlv) h5 hlv h6 hmk h7 hbk
   subst this
   exact h8 (hn j h3)
 | @frn k t xs hz hk hn hx=>
  have hlv:(g k).live:=by rw [hk];trivial
  have hget:mX h k= .arr (wd t) xs.length (fE t xs):=by unfold mX;rw [hg k hlv,hk];rfl
  refine .c (.lsn t xs v (aj5 H hget hM (λl b hmk hbk h2=> ?_) hs) (λh=>absurd h hx))
  rcases h2 with h2|h2
  ·exact E.frz k hz hlv l b hmk hbk h2
  ·obtain⟨j,k',l',h3,h4,h5,h6,h7,h8⟩:=F.mut hg h2
   have:=H.inj k' k _ _ l' l b h4 (hg k hlv) h5 hlv h6 hmk h7 hbk
   subst this
   exact h8 (hn j h3)
 | @frp k cs ys hz hk he hn=>
  cases hs with
  | pb _ _ b l hmk hbk=>
   have hlv:(g k).live:=by rw [hk];trivial
   have hget:h[k]? =some (.box cs):=by rw [hg k hlv,hk]
   obtain⟨l',b',T,vs,e1,e2,e3,e4,e5⟩:=H.obj k _ hget
   rw [hmk]at e1;cases e1
   rw [hbk]at e2;cases e2
   have hnM:∀(k:Nat),(g k).live->Z k->(∀j:Nat,src[j]? =some (some k)->h'[j]? =some bF.dead)→∀l b,m k=some l->l.blk=some b→¬MX X' (Qs m h' src) h' b:=by
    intro k hlv hz hn l b hmk hbk h2
    rcases h2 with h2|h2
    ·exact E.frz k hz hlv l b hmk hbk h2
    ·obtain⟨j,k',l',h3,h4,h5,h6,h7,h8⟩:=F.mut hg h2
     have:=H.inj k' k _ _ l' l b h4 (hg k hlv) h5 hlv h6 hmk h7 hbk
     subst this
     exact h8 (hn j h3)
   refine .rp ys b 0 (λj=>vs.getD j undef) (hnM k hlv hz hn l b hmk hbk) (lt_of_block e3) (λj hj=> ?_) (λj y hy=> ?_)
   ·obtain⟨y,hy⟩:∃y,ys[j]? =some y:=⟨ys[j],List.getElem?_eq_getElem hj⟩
    obtain⟨x,hx,_⟩:=he j y hy
    have hj2:j<vs.size:=by rw [e4.1];exact aR hx
    rw [cell_of_row w b _ vs T _ e3]
    simp [Array.getD,hj2]
   ·obtain⟨x,hx,hc⟩:=he j y hy
    have hsx:=e4.2 j x hx
    rcases hc with⟨x',rfl,e⟩|⟨k2,t,xs,rfl,z2,g2,n2,hy2⟩
    ·cases hsx with|c hsx=>exact(hsx.later hL).eqv e
    ·have hlv2:(g k2).live:=by rw [g2];trivial
     have ait:mX h k2= .arr (wd t) xs.length (fE t xs):=by unfold mX;rw [hg k2 hlv2,g2];rfl
     have hrd:=aj5 H ait hM (λl b hmk hbk=>hnM k2 hlv2 z2 n2 l b hmk hbk) hsx
     rcases hy2 with rfl|⟨rfl,hne⟩
     ·exact .ls t xs _ hrd
     ·exact .lsn t xs _ hrd (λh=>absurd h hne)
 |pb hj=>cases hs with|pb _ _ b l hk hb=>exact .pb _ _ b l (hm hj hk) hb
 |mp hj=>cases hs with|mp _ b l hk hb=>exact .mp _ b l (hm hj hk) hb
 |fb hj=>cases hs with|fb _ _ _ b l hk hb=>exact .fb _ _ _ b l (hm hj hk) hb
 |pe hj=>cases hs with|pe _ _ _ b l hk hb hi=>exact .pe _ _ _ b l (hm hj hk) hb hi
 | fn hl hj=>
  cases hs with
  |fn _ _ vs hsz hk=>
   refine .fn _ _ vs (by rw [hsz,hl]) (λi j hi=> ?_)
   obtain⟨k,h1,h2⟩:=hj i j hi
   obtain⟨l,b,e1,e2,e3⟩:=hk i k h1
   exact⟨l,b,hm h2 e1,e2,e3⟩
theorem ag1.sim [Fuel] (F:adn p g h' src Z) (hg:aj6 g h) (E:ais X X' w m g h h' src Z) (H:bI X w m h) {cs cs':List SC} {vs:Array Value} (e:ag1 g h' src Z cs cs') (hs:UF w m (MX X m h) cs vs):UF w (Qs m h' src) (MX X' (Qs m h' src) h') cs' vs:=
 ⟨by rw [hs.1,e.1],λi x' hx=>let⟨x,h1,h2⟩:=e.2 i x' hx;h2.sim F hg E H (hs.2 i x h1)⟩
theorem aph.sim [Fuel] (F:adn p g h' src Z) (hg:aj6 g h) (E:ais X X' w m g h h' src Z) (H:bI X w m h) {a a':AV} {v:Value} (e:aph g h' src Z a a') (hs:Fp w m (MX X m h) a v):Fp w (Qs m h' src) (MX X' (Qs m h' src) h') a' v:=by
 cases a<;>cases a'<;>first|(cases e;done)|skip
 ·exact X4.sim F hg E H e hs
 ·obtain⟨vs,rfl,hL⟩:=hs;exact⟨vs,rfl,ag1.sim F hg E H e hL⟩
theorem aj4.sim [Fuel] (F:adn p g h' src Z) (hg:aj6 g h) (E:ais X X' w m g h h' src Z) (H:bI X w m h) {a a':SV} {v:Value} (e:aj4 g h' src Z a a') (hs:nZ w m (MX X m h) a v):nZ w (Qs m h' src) (MX X' (Qs m h' src) h') a' v:=by
 cases a<;>cases a'<;>first|(cases e;done)|skip
 ·exact aph.sim F hg E H e hs
 ·obtain⟨vs,rfl,hz,hL⟩:=hs
  exact⟨vs,rfl,by rw [hz,e.1],λi y hy=>let⟨x,h1,h2⟩:=e.2 i y hy;h2.sim F hg E H (hL i x h1)⟩
theorem adn.rel [Fuel] (F:adn p g h' src Z) (hg:aj6 g h) (E:ais X X' w m g h h' src Z) (H:bI X w m h):bI X' w (Qs m h' src) h':=by
 have hL:Later w m (MX X m h) w m (MX X' (Qs m h' src) h'):=⟨λ_ _ h=>h,E.hM F hg,λ_ _ _=>rfl,Nat.le_refl _⟩
 refine⟨λj o' hj=> ?_,λj j' o o' l l' b h1 h2 h3 h4 h5 h6 h7 h8=> ?_,λj hj=> ?_,E.dis,E.lt⟩
 ·rcases F.obj j o' hj with rfl|⟨k,h1,h3⟩|⟨h1,z,f,rfl⟩
  ·trivial
  ·have hob:=H.obj k _ (hg k h3.live)
   have hm:∀l,m k=some l->Qs m h' src j=some l:=λl hl=>by unfold Qs;rw [h1];exact hl
   generalize g k=o at h3 hob
   cases o<;>cases o'<;>first|(cases h3;done)|skip
   ·obtain⟨l,b,T,vs,e1,e2,e3,e4,e5⟩:=hob
    exact⟨l,b,T,vs,hm l e1,e2,e3,ag1.sim F hg E H h3 e4,e5⟩
   ·obtain⟨rfl,rfl,rfl⟩:=h3
    obtain⟨l,e1,e2,e3,e4,e5⟩:=hob
    refine⟨l,hm l e1,e2,e3,e4,λb hb=> ?_⟩
    obtain⟨e6,T,vs,e7,e8,e9,e10⟩:=e5 b hb
    exact⟨e6,T,vs,e7,e8,e9,λi hi=>⟨(e10 i hi).1,λq x hx=>((e10 i hi).2 q x hx).later hL⟩⟩
   ·have h3:_=_:=h3
    subst h3
    obtain⟨l,b,rows,clock,e1,e2,e3,e4⟩:=hob
    exact⟨l,b,rows,clock,hm l e1,e2,e3,e4⟩
   ·obtain⟨rfl,rfl,hx⟩:=h3
    obtain⟨l,b,T,vs,e1,e2,e3,e4,e5,e6,e7,e8,e9,e10⟩:=hob
    refine⟨l,b,T,vs,hm l e1,e2,e3,e4,e5,e6,e7,e8,by rw [<-hx.1];exact e9,λi y hy=> ?_⟩
    obtain⟨x,h1,h2⟩:=hx.2 i y hy
    exact X4.sim F hg E H h2 (e10 i x h1)
   ·have h3:_=_:=h3
    subst h3
    obtain⟨l,b,rows,clock,e1,e2,e3,e4⟩:=hob
    exact⟨l,b,rows,clock,hm l e1,e2,e3,e4⟩
  ·exact⟨⟨none,0,z,none,0⟩,by unfold Qs;rw [h1,hj],rfl,⟨rfl,Nat.le_refl _⟩,λ_=>rfl,λb hb=>by cases hb⟩
 ·have key:∀(q:Nat) (oq:bF) (lq:Loc),h'[q]? =some oq->oq.live->Qs m h' src q=some lq->lq.blk=some b→∃k,src[q]? =some (some k)/\(g k).live/\m k=some lq:=by
   intro q oq lq hq hl hm hb
   rcases F.obj q oq hq with rfl|⟨k,e1,e3⟩|⟨e1,z,f,rfl⟩
   ·exact hl.elim
   ·unfold Qs at hm;rw [e1]at hm;exact⟨k,e1,e3.live,hm⟩
   ·unfold Qs at hm;rw [e1,hq]at hm;cases hm;cases hb
  obtain⟨k,a1,a3,a4⟩:=key j o l h1 h3 h5 h7
  obtain⟨k',b1,b3,b4⟩:=key j' o' l' h2 h4 h6 h8
  have:=H.inj k k' _ _ l l' b (hg k a3) (hg k' b3) a3 b3 a4 b4 h7 h8
  subst this
  exact F.nod j j' k a1 b1 (by rw [h1];intro e;cases e;exact h3) (by rw [h2];intro e;cases e;exact h4)
 ·have:src[j]? =none:=List.getElem?_eq_none (by rw [F.len];exact hj)
  unfold Qs;rw [this]
theorem adn.keep [Fuel] (F:adn p g h' src Z) {j:Nat} {l:Loc} (hj:j<p) (hm:m j=some l):Qs m h' src j=some l:=by unfold Qs;rw [F.pre j hj];exact hm
theorem Y3 [Fuel] (h:List bF):aj6 (mX h) h:=λk hk=>l5 rfl hk
theorem apI [Fuel] {st st':St} (F:adn p (mX st.h) st'.h src Z) (hσ:∀x s',look st'.σ x=some s'→∃s,look st.σ x=some s/\aj4 (mX st.h) st'.h src Z s s'):Le p st st':=by
 intro X w m nt a H hs
 have hg:=Y3 st.h
 have E:=ais.refl F hg H
 refine⟨Qs m st'.h src,F.rel hg E H,⟨hs.1,λx s' hx=> ?_⟩,λb hb=>F.apH hg hb,λj l hj hm=>F.keep hj hm⟩
 obtain⟨s,h1,h2⟩:=hσ x s' hx
 obtain⟨v,hv,Cz⟩:=hs.2 x s h1
 exact⟨v,hv,h2.sim F hg E H Cz⟩
end
end Go.AM
namespace Go.AM
open Go Go.CP Go.RowKit
def Jb [Fuel] (P:Program) (f:FuncId) (args:List SV) (h:List bF) (R:SV->List bF->Prop):Prop:=
 ∀ (X:Mu) (w:World) (m:vW) (vs:List Value),bI X w m h->K7 (nZ w m (MX X m h)) args vs→
  Calls P f vs.toArray w λe w'=>∃v r h' m',e= .returned v/\R r h'/\bI X w' m' h'/\nZ w' m' (MX X m' h') r v/\ad2 w (Mut m h) w'∧
   (∀b,Mut m' h' b->Mut m h b\/w.heap.size<=b)∧∀j l,j<h.length->m j=some l->m' j=some l
theorem Jb.mono [Fuel] {P:Program} {f:FuncId} {args:List SV} {h:List bF} {R R':SV->List bF->Prop} (hc:Jb P f args h R) (hr:∀r h',R r h'->R' r h'):Jb P f args h R':=
 λX w m vs H ha=>(hc X w m vs H ha).mono λe w' ⟨v,r,h',m',e1,e2,e3⟩=>⟨v,r,h',m',e1,hr _ _ e2,e3⟩
def abv (P:Program) (st:St):ResultVar->Option AV
 | .tmp t=>match look st.σ t with
  |some (.one v)=>some v
  |_=>none
 | .cell a T=>match look st.σ a with
  |some (.one (.s (.pb k off)))=>match mX st.h k with
   | .box cs=>Sw P T cs off
   |_=>none
  |_=>none
def amg (P:Program) (st:St):List ResultVar->Option (List AV)
 | []=>some []
 |x::r=>match abv P st x,amg P st r with
  |some v,some l=>some (v::l)
  |_,_=>none
def apj (P:Program) (st:St) (rs:List ResultVar):Option SV:=
 match amg P st rs with
 |some [v]=>some (.one v)
 |some vs=>some (.tup vs)
 |none=>none
def X5:Nat->List SV->List (Nat×SV)
 |_,[]=> []
 |i,s::r=>(i,s)::X5 (i+1) r
def an5 (tmps:Array Value):ResultVar->Sem Value
 | .tmp t=>pure (tmps.getD t undef)
 | .cell a t=>do loadVar t (<-asAddr (tmps.getD a undef))
theorem aiu [Fuel] (fn:Func) (tmps:Array Value):results fn tmps=(do
  let vs←fn.results.mapM (an5 tmps)
  pure (if h:vs.size=1 then vs[0]else .tuple vs)):=by
 unfold results
 congr 1
section
variable {P:Program} {X:Mu} {w:World} {m:vW}
theorem ag2 [Fuel] {st:St} {nt:Nat} {a:Act} (H:bI X w m st.h) (hs:Slots w m (MX X m st.h) nt st.σ a):∀{rs:List ResultVar} {l:List AV},amg P st rs=some l→
  ∃vs:List Value,(rs.mapM (an5 a.tmps)).run P w= .ok vs w/\K7 (Fp w m (MX X m st.h)) l vs
 | [],l,h=>by simp [amg]at h;subst h;exact⟨[],by simp,.nil⟩
 | x :: rs,l,h=>by
  simp only [amg]at h
  cases h1:abv P st x with
  |none=>rw [h1]at h;cases h
  | some v=>
   cases h2:amg P st rs with
   |none=>rw [h1,h2]at h;cases h
   | some l'=>
    rw [h1,h2]at h
    cases h
    obtain⟨vs,hr,hall⟩:=ag2 H hs h2
    cases x with
    | tmp t=>
     simp only [abv]at h1
     split at h1
     ·rename_i v' hl
      cases h1
      obtain⟨u,hu,Cz⟩:=hs.2 t _ hl
      refine⟨u::vs,?_,.cons Cz hall⟩
      have:a.tmps.getD t undef=u:=by simp [hu]
      have e:(an5 a.tmps (.tmp t)).run P w= .ok u w:=by simp [an5,this]
      simp only [List.mapM_cons,Sem.run_bind,Sem.run_pure,Result.andThen_ok,e,hr]
     ·cases h1
    | cell a' T=>
     simp only [abv]at h1
     split at h1
     ·rename_i k off hl
      cases hk:mX st.h k with
      | box cs=>
       rw [hk]at h1
       obtain⟨u,hu,Cz⟩:=hs.2 a' _ hl
       cases Cz with
       |pb _ _ b lo hm hb=>
        obtain⟨u',hr',hs'⟩:=Ql (P:=P) (adF H hk hm hb) h1
        rw [Nat.zero_add]at hr'
        refine⟨u'::vs,?_,.cons hs' hall⟩
        have:a.tmps.getD a' undef= .pointer (some ⟨b,off,none⟩):=by simp [hu]
        have e:(an5 a.tmps (.cell a' T)).run P w= .ok u' w:=by simp only [an5,this,Sem.run_bind,asAddr,Sem.run_pure,Result.andThen_ok,hr']
        simp only [List.mapM_cons,Sem.run_bind,Sem.run_pure,Result.andThen_ok,e,hr]
      |arr=>rw [hk]at h1;cases h1
      |mp es=>rw [hk]at h1;cases h1
      |ra z1 n1 cs1=>rw [hk]at h1;cases h1
      |ms es1=>rw [hk]at h1;cases h1
      |dead=>rw [hk]at h1;cases h1
     ·cases h1
theorem Y4 [Fuel] {st:St} {nt:Nat} {a:Act} {fn:Func} {r:SV} (H:bI X w m st.h) (hs:Slots w m (MX X m st.h) nt st.σ a) (hr:apj P st fn.results.toList=some r):
  ∃v,(results fn a.tmps).run P w= .ok v w/\nZ w m (MX X m st.h) r v:=by
 unfold apj at hr
 cases hl:amg P st fn.results.toList with
 |none=>rw [hl]at hr;cases hr
 | some l=>
  rw [hl]at hr
  obtain⟨vs,hrun,hall⟩:=ag2 (P:=P) H hs hl
  have hm:(fn.results.mapM (an5 a.tmps)).run P w= .ok vs.toArray w:=by
   rw [Array.mapM_eq_mapM_toList,Sem.run_map,hrun];rfl
  refine⟨if h:vs.toArray.size=1 then vs.toArray[0]else .tuple vs.toArray,?_,?_⟩
  ·rw [aiu,Sem.run_bind,hm]
   rfl
  ·cases hall with
   |nil=>
    simp only at hr;cases hr
    exact⟨#[],rfl,rfl,λi a ha=>by simp at ha⟩
   | cons h1 t1=>
    cases t1 with
    |nil=>simp only at hr;cases hr;exact h1
    | cons h2 t2=>
     rename_i a1 b1 a2 b2 l2 r2
     simp only at hr;cases hr
     rw [dif_neg (by simp)]
     refine⟨_,rfl,?_,?_⟩
     ·have:∀(l:List AV) (r:List Value),K7 (Fp w m (MX X m st.h)) l r->r.length=l.length:=by
       intro l r h
       induction h with
       |nil=>rfl
       |cons _ _ ih=>simp [ih]
      simp [this _ _ t2]
     ·have:∀(l:List AV) (r:List Value),K7 (Fp w m (MX X m st.h)) l r→∀(i:Nat) a,l[i]? =some a->Fp w m (MX X m st.h) a ((r[i]?).getD undef):=by
       intro l r h
       induction h with
       |nil=>intro i a ha;simp at ha
       |cons h0 _ ih=>
        intro i a ha
        cases i with
        |zero=>simp at ha;subst ha;simpa using h0
        |succ i=>simpa using ih i a (by simpa using ha)
      intro i a ha
      have:=this _ _ (.cons h1 (.cons h2 t2)) i a ha
      rw [jw];exact this
end
theorem UR [Fuel]:∀{args:List SV} {i x:Nat} {s:SV},look (X5 i args) x=some s->i<=x/\args[x - i]? =some s
 | [],i,x,s,h=>by simp [X5,look]at h
 | a::args,i,x,s,h=>by
  simp only [X5,look]at h
  cases hb:Nat.beq i x with
  |true=>rw [hb]at h;simp at h;subst h;have:=Nat.eq_of_beq_eq_true hb;subst this;simp
  |false=>
   rw [hb]at h
   obtain⟨h1,h2⟩:=UR h
   refine⟨by omega,?_⟩
   have:x - i=(x - (i+1))+1:=by omega
   rw [this,List.getElem?_cons_succ];exact h2
theorem K7.len [Fuel] {α β:Type} {R:α->β->Prop}:∀{l:List α} {r:List β},K7 R l r->l.length=r.length
 |_,_,.nil=>rfl
 |_,_,.cons _ t=>by simp [K7.len t]
theorem K7.at [Fuel] {α β:Type} {R:α->β->Prop}:∀{l:List α} {r:List β},K7 R l r→∀(i:Nat) a,l[i]? =some a→∃b,r[i]? =some b/\R a b
 |_,_,.nil,i,a,h=>by simp at h
 |_,_,.cons h0 t,i,a,h=>by
  cases i with
  |zero=>simp at h;subst h;exact⟨_,rfl,h0⟩
  |succ i=>simpa using K7.at t i a (by simpa using h)
def an6 (P:Program) (p:Nat) (fn:Func) (R:SV->List bF->Prop) (e:Exit) (st:St):Prop:=
 (e= .normal\/e= .ret)∧∃st',Le p st st'∧∃r0 r h' src Z,apj P st' fn.results.toList=some r0/\adn p (mX st'.h) h' src Z/\aj4 (mX st'.h) h' src Z r0 r/\R r h'
theorem ad3 [Fuel] {P:Program} {f:FuncId} {fn:Func} {c:Code} {args:List SV} {h:List bF} {R:SV->List bF->Prop} (hf:P.funcs[f]? =some fn) (hb:fn.body=some c) (hn:Nat.ble args.length fn.ntmps=true)
  (hw:wpA P fn.ntmps h.length c (an6 P h.length fn R) ⟨X5 0 args,h⟩):Jb P f args h R:=by
 intro X w m vs H ha
 have hn:=Nat.le_of_ble_eq_true hn
 have hlen:=ha.len
 refine calls_of_wp hf hb ?_
 have hs:Slots w m (MX X m h) fn.ntmps (X5 0 args) {tmps:=vs.toArray++Array.replicate (fn.ntmps - vs.toArray.size) undef,defers:= []}:=by
  refine⟨by simp;omega,λx s hx=> ?_⟩
  obtain⟨_,hx⟩:=UR hx
  simp only [Nat.sub_zero]at hx
  obtain⟨v,hv,Cz⟩:=ha.at x s hx
  refine⟨v,?_,Cz⟩
  have hxl:x<vs.length:=aR hv
  show(vs.toArray++Array.replicate (fn.ntmps - vs.toArray.size) undef)[x]? =some v
  rw [Array.getElem?_append_left (by simpa using hxl)]
  simpa using hv
 have R0:Rel [] X w (Mut m h) m h.length fn.ntmps ⟨X5 0 args,h⟩ {tmps:=vs.toArray++Array.replicate (fn.ntmps - vs.toArray.size) undef,defers:= []} w:=
  ⟨rfl,⟨rfl,rfl,UG.same _,Nat.le_refl _,λ_ _ _=>rfl⟩,m,H,hs,λb hb=> .inl hb,λ_ _ _ h=>h⟩
 refine wp_mono (hw [] X w (Mut m h) m _ w R0) (λe a' w' hq=> ?_)
 obtain⟨st0,⟨he,st,hle,r0,r,h2,src,Z,hr,F,hF,hR⟩,alO⟩:=hq
 have alO:=alO.le hle
 obtain⟨m',H',hs',hm',hj'⟩:=alO.ex
 obtain⟨v,hrun,Cz⟩:=Y4 (fn:=fn) H' hs' hr
 have hg:=Y3 st.h
 have E:=ais.refl F hg H'
 have hbody:a'.defers= []∧∃v,(results fn a'.tmps).run P w'= .ok v w'∧∃v' r h' m',Ending.returned v= .returned v'/\R r h'/\bI X w' m' h'/\nZ w' m' (MX X m' h') r v'/\ad2 w (Mut m h) w'∧
   (∀b,Mut m' h' b->Mut m h b\/w.heap.size<=b)∧∀j l,j<h.length->m j=some l->m' j=some l:=
  ⟨alO.defers,v,hrun,v,r,h2,Qs m' h2 src,rfl,hR,F.rel hg E H',hF.sim F hg E H' Cz,alO.frame,λb hb=>hm' b (F.apH hg hb),λj l hj hm=>F.keep hj (hj' j l hj hm)⟩
 rcases he with rfl|rfl
 ·exact hbody
 ·exact hbody
end Go.AM
namespace Go.AM
open Go Go.CP Go.RowKit
def nodupB:List Nat->Bool
 | []=>true
 |k::r=> !(Qg k r)&&nodupB r
theorem Fq [Fuel] {k:Nat}:∀{l:List Nat} {i j:Nat},idxOf k l i=some j->i<=j/\l[j - i]? =some k
 | [],_,_,h=>by cases h
 | a::l,i,j,h=>by
  simp only [idxOf]at h
  cases hb:Nat.beq a k with
  |true=>rw [hb]at h;simp at h;subst h;have:=Nat.eq_of_beq_eq_true hb;subst this;simp
  |false=>
   rw [hb]at h
   obtain⟨h1,h2⟩:=Fq h
   refine⟨by omega,?_⟩
   have:j - i=(j - (i+1))+1:=by omega
   rw [this,List.getElem?_cons_succ];exact h2
theorem ad4 [Fuel]:∀{l:List Nat} {i j k:Nat},nodupB l=true->l[i]? =some k->l[j]? =some k->i=j
 | [],_,_,_,_,h,_=>by simp at h
 | a::l,i,j,k,hn,hi,hj=>by
  simp only [nodupB,Bool.and_eq_true,Bool.not_eq_true']at hn
  have hno:a ∉ l:=λh=>by have:=mD.2 h;rw [this]at hn;cases hn.1
  cases i with
  |zero=>
   simp at hi;subst hi
   cases j with
   |zero=>rfl
   |succ j=>simp at hj;exact absurd (List.mem_of_getElem? hj) hno
  |succ i=>
   cases j with
   |zero=>simp at hj;subst hj;simp at hi;exact absurd (List.mem_of_getElem? hi) hno
   |succ j=>simp at hi hj;rw [ad4 hn.2 hi hj]
theorem bF.acj [Fuel] {o:bF} {ρ:Nat->Option Nat}:(o.ren ρ).live ↔ o.live:=by cases o<;>exact Iff.rfl
theorem Sr.ren [Fuel] {w:World} {m m':vW} {M M':Mu} {ρ:Nat->Option Nat} (hρ:∀k j l,ρ k=some j->m k=some l->m' j=some l) (hM:∀b,b<w.heap.size→¬M b→¬M' b) {k j:Nat} {o:bF}
  (hkj:∀l,m k=some l->m' j=some l) (h:Sr w m M k o):Sr w m' M' j (o.ren ρ):=by
 have hL:Later w m M w (λk=>m k) M':=⟨λ_ _ h=>h,hM,λ_ _ _=>rfl,Nat.le_refl _⟩
 cases o with
 |dead=>trivial
 |mp es=>obtain⟨l,b,rows,clock,e1,e2,e3,e4⟩:=h;exact⟨l,b,rows,clock,hkj l e1,e2,e3,e4⟩
 |ms es=>obtain⟨l,b,rows,clock,e1,e2,e3,e4⟩:=h;exact⟨l,b,rows,clock,hkj l e1,e2,e3,e4⟩
 |ra z n cs=>
  obtain⟨l,b,T,vs,e1,e2,e3,e4,e5,e6,e7,e8,e9,e10⟩:=h
  refine⟨l,b,T,vs,hkj l e1,e2,e3,e4,e5,e6,e7,e8,by rw [List.length_map];exact e9,λi x hx=> ?_⟩
  rw [List.getElem?_map]at hx
  cases hy:cs[i]? with
  |none=>rw [hy]at hx;cases hx
  |some y=>rw [hy]at hx;cases hx;exact lU.ren hρ hM (e10 i y hy)
 |box cs=>
  obtain⟨l,b,T,vs,e1,e2,e3,e4,e5⟩:=h
  exact⟨l,b,T,vs,hkj l e1,e2,e3,e4.ren hρ hM,e5⟩
 |arr z n f=>
  obtain⟨l,e1,e2,e3,e4,e5⟩:=h
  refine⟨l,hkj l e1,e2,e3,e4,λb hb=> ?_⟩
  obtain⟨e6,T,vs,e7,e8,e9,e10⟩:=e5 b hb
  exact⟨e6,T,vs,e7,e8,e9,λi hi=>⟨(e10 i hi).1,λj x hx=>((e10 i hi).2 j x hx).later hL⟩⟩
def at_ (K:List Nat):Nat->Option Nat:=λj=>K[j]?
def ad5:List Nat->List bF->List (Nat×bF)
 |k::K,o::h=>(k,o)::ad5 K h
 |_,_=> []
theorem UU [Fuel]:∀{K:List Nat} {h:List bF} {k:Nat} {o:bF},(k,o)∈ad5 K h ↔∃j:Nat,K[j]? =some k/\h[j]? =some o
 | [],h,k,o=>by simp [ad5]
 |k0::K,[],k,o=>by simp [ad5]
 | k0::K,o0::h,k,o=>by
  simp only [ad5,List.mem_cons,Prod.mk.injEq,UU (K:=K)]
  constructor
  ·rintro(⟨rfl,rfl⟩|⟨j,h1,h2⟩)
   ·exact⟨0,rfl,rfl⟩
   ·exact⟨j+1,by simpa using h1,by simpa using h2⟩
  ·rintro⟨j,h1,h2⟩
   cases j with
   |zero=>simp at h1 h2;exact .inl ⟨h1.symm,h2.symm⟩
   |succ j=>exact .inr ⟨j,by simpa using h1,by simpa using h2⟩
theorem Y5 [Fuel]:∀{K:List Nat} {hs:List bF} {h:List bF},nodupB K=true->(∀k∈K,k<h.length)→∀(j k:Nat) (o:bF),K[j]? =some k->hs[j]? =some o->(bD h (ad5 K hs))[k]? =some o
 | [],hs,h,_,_,j,k,o,hk,_=>by simp at hk
 |k0::K,[],h,_,_,j,k,o,_,ho=>by simp at ho
 | k0::K,o0::hs,h,hn,hl,j,k,o,hk,ho=>by
  simp only [nodupB,Bool.and_eq_true,Bool.not_eq_true']at hn
  have hno:k0 ∉ K:=λh=>by have:=mD.2 h;rw [this]at hn;cases hn.1
  simp only [ad5,bD]
  cases j with
  |zero=>
   simp at hk ho;subst hk;subst ho
   rw [lS _ _ _ (λo' ho'=> ?_),List.getElem?_set_self (hl k0 (by simp))]
   obtain⟨i,hi,_⟩:=UU.1 ho'
   exact hno (List.mem_of_getElem? hi)
  |succ j=>
   simp at hk ho
   exact Y5 hn.2 (λk hk=>by simp;exact hl k (by simp [hk])) j k o hk ho
theorem afM [Fuel] {K:List Nat} (hn:nodupB K=true) {j k:Nat} (hj:K[j]? =some k):idxOf k K 0=some j:=by
 have hex:∀(l:List Nat) (i:Nat),k∈l→∃r,idxOf k l i=some r:=by
  intro l
  induction l with
  |nil=>intro i h;cases h
  | cons a l ih=>
   intro i h
   simp only [idxOf]
   cases hb:Nat.beq a k with
   |true=>exact⟨i,rfl⟩
   |false=>
    cases h with
    |head=>rw [Nat.beq_refl]at hb;cases hb
    |tail _ h=>exact ih (i+1) h
 obtain⟨r,hr⟩:=hex K 0 (List.mem_of_getElem? hj)
 have:=(Fq hr).2
 simp only [Nat.sub_zero]at this
 rw [hr,ad4 hn hj this]
theorem abw [Fuel] {K:List Nat} {k:Nat}:idxOf k K 0=none→∀j:Nat,K[j]? ≠some k:=by
 have:∀(l:List Nat) (i:Nat),idxOf k l i=none→∀j:Nat,l[j]? ≠some k:=by
  intro l
  induction l with
  |nil=>intro i _ j h;simp at h
  | cons a l ih=>
   intro i h j hj
   simp only [idxOf]at h
   cases hb:Nat.beq a k with
   |true=>rw [hb]at h;cases h
   |false=>
    rw [hb]at h
    cases j with
    |zero=>simp at hj;subst hj;rw [Nat.beq_refl]at hb;cases hb
    |succ j=>exact ih (i+1) h j (by simpa using hj)
 exact this K 0
def aax:List Nat->List (Nat×bF)
 | []=> []
 |k::r=>(k,.dead)::aax r
theorem Y6 [Fuel] {k:Nat} {o:bF}:∀{ks:List Nat},(k,o)∈aax ks->k∈ks/\o= .dead
 | [],h=>by cases h
 |j::r,h=>by
  cases h with
  |head=>exact⟨List.mem_cons_self ..,rfl⟩
  |tail _ h=>exact⟨List.mem_cons_of_mem _ (Y6 h).1,(Y6 h).2⟩
theorem UW [Fuel]:∀(ks:List Nat) (h:List bF) (k:Nat) (o:bF),(bD h (aax ks))[k]? =some o->(k ∉ ks/\h[k]? =some o)\/(k∈ks/\o= .dead)
 | [],h,k,o,e=> .inl ⟨by simp,e⟩
 | j::r,h,k,o,e=>by
  have e':(bD (h.set j .dead) (aax r))[k]? =some o:=e
  rcases UW r (h.set j .dead) k o e' with⟨h1,h2⟩|⟨h1,h2⟩
  ·by_cases hj:j=k
   ·subst hj
    have hlt:=aR h2
    simp at hlt
    rw [List.getElem?_set_self hlt]at h2
    exact .inr ⟨by simp,(Option.some.inj h2).symm⟩
   ·rw [List.getElem?_set_ne hj]at h2
    exact .inl ⟨by simp [h1,Ne.symm hj],h2⟩
  ·exact .inr ⟨by simp [h1],h2⟩
def JH:List (Nat×bF)->Nat->bF
 | [],_=> .dead
 |(j,o)::r,k=>bif Nat.beq j k then o else JH r k
theorem abx [Fuel] {k:Nat}:∀{l:List (Nat×bF)},(JH l k).live->(k,JH l k)∈l
 | [],h=>h.elim
 |(j,o)::r,h=>by
  simp only [JH]at h⊢
  cases hb:Nat.beq j k with
  |true=>have:=Nat.eq_of_beq_eq_true hb;subst this;simp
  |false=>rw [hb]at h;simp only [cond_false]at h⊢;exact List.mem_cons_of_mem _ (abx h)
def CV.isVal:CV->Bool
 | .val _=>true
 | .e0=>true
 |_=>false
def SC.plain:SC->Bool
 | .c x=>x.isVal
 | .rp _=>false
 |_=>true
def AV.plain:AV->Bool
 | .s x=>x.plain
 | .agg cs=>cs.all SC.plain
def SV.plain:SV->Bool
 | .one v=>v.plain
 | .tup vs=>vs.all AV.plain
def bF.plain:bF->Prop
 | .dead=>True
 | .box cs=>cs.all SC.plain=true
 | .arr _ n f=>∀i,i<n→∀x∈f i,x.isVal=true
 | .mp _=>True
 | .ms _=>True
 | .ra _ _ cs=>cs.all SC.plain=true
section
variable {w:World} {m:vW} {M M':Mu}
theorem OZ.anyM [Fuel] {x:CV} {v:Value} (hx:x.isVal=true) (h:OZ w M x v):OZ w M' x v:=by
 cases h with
 |val v=>exact .val v
 |e0 a=>exact .e0 a
 |rd0=>cases hx
 |rd=>cases hx
 |ls=>cases hx
 |lsn=>cases hx
theorem lU.anyM [Fuel] {x:SC} {v:Value} (hx:x.plain=true) (h:lU w m M x v):lU w m M' x v:=by
 cases h with
 |c h=>exact .c (h.anyM hx)
 |rp=>cases hx
 |own k l hk=>exact .own k l hk
 |sl k lo len l a c hk h0 h1 h2 h3=>exact .sl k lo len l a c hk h0 h1 h2 h3
 |pb k off b l hk hb=>exact .pb k off b l hk hb
 |pe k i off b l hk hb hi=>exact .pe k i off b l hk hb hi
 |fn f caps vs hs h=>exact .fn f caps vs hs h
 |mp k b l hk hb=>exact .mp k b l hk hb
 |fb f k off b l hk hb=>exact .fb f k off b l hk hb
 |bot v=>exact .bot v
theorem UF.anyM [Fuel] {cs:List SC} {vs:Array Value} (hx:cs.all SC.plain=true) (h:UF w m M cs vs):UF w m M' cs vs:=
 ⟨h.1,λi x hi=>(h.2 i x hi).anyM ((List.all_eq_true.1 hx) x (List.mem_of_getElem? hi))⟩
theorem Fp.anyM [Fuel] {x:AV} {v:Value} (hx:x.plain=true) (h:Fp w m M x v):Fp w m M' x v:=by
 cases x with
 |s x=>exact lU.anyM hx h
 |agg cs=>obtain⟨vs,rfl,hL⟩:=h;exact⟨vs,rfl,hL.anyM hx⟩
theorem nZ.anyM [Fuel] {x:SV} {v:Value} (hx:x.plain=true) (h:nZ w m M x v):nZ w m M' x v:=by
 cases x with
 |one x=>exact Fp.anyM hx h
 |tup as'=>obtain⟨vs,rfl,hz,hs⟩:=h;exact⟨vs,rfl,hz,λi a ha=>(hs i a ha).anyM ((List.all_eq_true.1 hx) a (List.mem_of_getElem? ha))⟩
theorem Sr.anyM [Fuel] {k:Nat} {o:bF} (hx:o.plain) (h:Sr w m M k o):Sr w m M' k o:=by
 cases o with
 |dead=>trivial
 |mp es=>exact h
 |ms es=>exact h
 |ra z n cs=>
  obtain⟨l,b,T,vs,e1,e2,e3,e4,e5,e6,e7,e8,e9,e10⟩:=h
  exact⟨l,b,T,vs,e1,e2,e3,e4,e5,e6,e7,e8,e9,λi x hy=>(e10 i x hy).anyM (List.all_eq_true.1 hx x (List.mem_of_getElem? hy))⟩
 |box cs=>obtain⟨l,b,T,vs,e1,e2,e3,e4,e5⟩:=h;exact⟨l,b,T,vs,e1,e2,e3,e4.anyM hx,e5⟩
 |arr z n f=>
  obtain⟨l,e1,e2,e3,e4,e5⟩:=h
  refine⟨l,e1,e2,e3,e4,λb hb=> ?_⟩
  obtain⟨e6,T,vs,e7,e8,e9,e10⟩:=e5 b hb
  exact⟨e6,T,vs,e7,e8,e9,λi hi=>⟨(e10 i hi).1,λq x hq=>((e10 i hi).2 q x hq).anyM (hx i hi x (List.mem_of_getElem? hq))⟩⟩
end
theorem ad6 [Fuel] {k:Nat} {o:bF}:∀{l:List (Nat×bF)},(k,o)∈l->aau k l=true
 |(j,o')::r,h=>by
  simp only [aau,Bool.or_eq_true]
  cases h with
  |head=>exact .inl (Nat.beq_refl k)
  |tail _ h=>exact .inr (ad6 h)
theorem NC [Fuel]:∀(a b:List (Nat×bF)) (h:List bF),bD h (a++b)=bD (bD h a) b
 | [],b,h=>rfl
 |(k,o)::a,b,h=>by show bD (h.set k o) (a++b)=_;rw [NC a b];rfl
theorem aay [Fuel] {K L:List Nat} {j k:Nat} (h:K[j]? =some k):(K++L)[j]? =some k:=by rw [List.getElem?_append_left (aR h)];exact h
theorem aj7 [Fuel] {objs:List (Nat×bF)} {h:List bF} (ajw:∀k o,(k,o)∈objs->h[k]? =some o):aj6 (JH objs) h:=λk hk=>ajw k _ (abx hk)
theorem aj8 [Fuel] {P:Program} {f:FuncId} {args args':List SV} {objs:List (Nat×bF)} {h0 h1:List bF} {r:SV} (K L ks:List Nat) (kill:Bool)
  (hgo:∀(vs:Array Value) (w:World),(callFunc f vs).run P w= .ok (.enter f vs) w)
  (hA:Jb P f args' h0 (λr' h'=>r'=r/\h'=h1))
  (F:adn 0 (JH objs) h0 (K.map some) (· ∈ks)) (hF:K7 (aj4 (JH objs) h0 (K.map some) (· ∈ks)) args args')
  (k2:(K++L).length=h1.length) (k3:nodupB (K++L)=true) (k4:∀k∈ks,k ∉ K++L/\(JH objs k).live) (k5:∀k∈K,(JH objs k).live)
  (k6:(h1.drop K.length).all al6=true) (k8:∀k∈L,aau k objs=false) (hp:kill=true\/(r.plain=true∧∀o∈h1,o.plain)):
  acf P f args objs (r.ren (at_ (K++L))) (ad5 (K++L) (h1.map (bF.ren (at_ (K++L))))++aax (bif kill then ks else [])):=by
 refine⟨hgo,λX w m h vs H ajw hnew ha=> ?_⟩
 have hg:=aj7 ajw
 let ks':List Nat:=bif kill then ks else []
 have atS:∀k,k∈ks'->k∈ks:=by
  intro k (hk:k∈bif kill then ks else [])
  cases kill with
  |true=>exact hk
  |false=>exact absurd hk (List.not_mem_nil)
 have hsrc:∀(j k:Nat),K[j]? =some k ↔ (K.map some)[j]? =some (some k):=by
  intro j k;rw [List.getElem?_map];cases K[j]? <;>simp
 have k1:K.length=h0.length:=by rw [<-F.len];simp
 let mc:vW:=Qs m h0 (K.map some)
 have hmc:∀(j k:Nat),K[j]? =some k->mc j=m k:=λj k hj=>by simp only [mc,Qs,(hsrc j k).1 hj]
 let Xc:Mu:=λb=>X b∨∃(k:Nat) (o:bF) (l:Loc),h[k]? =some o/\o.live/\m k=some l/\l.blk=some b/\k ∉ K/\k ∉ ks
 have afN:∀b,Mut mc h0 b->Mut m h b∧∃(j k:Nat) (o:bF) (l:Loc),K[j]? =some k/\h[k]? =some o/\o.live/\m k=some l/\l.blk=some b:=by
  intro b hb
  obtain⟨j,k,l,e1,e2,e3,e4,e5,_⟩:=F.mut hg hb
  exact⟨⟨k,_,l,e2,e3,e4,e5⟩,j,k,_,l,(hsrc j k).2 e1,e2,e3,e4,e5⟩
 have E:ais X Xc w m (JH objs) h h0 (K.map some) (· ∈ks):=by
  refine⟨λb hb=> ?_,λb hb hX=> ?_,λb hb=> ?_,λk hz hlv l b hm hbk hX=> ?_⟩
  ·rcases hb with hb|⟨k,o,l,e1,e2,e3,e4,_⟩
   ·exact .inl hb
   ·exact .inr ⟨k,o,l,e1,e2,e3,e4⟩
  ·obtain⟨q,j,k,o,l,e1,e2,e3,e4,e5⟩:=afN b hb
   rcases hX with hX|⟨k',o',l',q1,q2,q3,q4,q5,_⟩
   ·exact H.adA b q hX
   ·have:=H.inj k k' o o' l l' b e2 q1 e3 q2 e4 q3 e5 q4
    subst this
    exact q5 (List.mem_of_getElem? e1)
  ·rcases hb with hb|⟨k,o,l,e1,e2,e3,e4,_⟩
   ·exact H.xlt b hb
   ·exact agH H e1 e2 e3 e4
  ·rcases hX with hX|⟨k',o',l',q1,q2,q3,q4,_,q6⟩
   ·exact H.adA b ⟨k,_,l,hg k hlv,hlv,hm,hbk⟩ hX
   ·have:=H.inj k k' _ o' l l' b (hg k hlv) q1 hlv q2 hm q3 hbk q4
    subst this
    exact q6 hz
 have Hc:bI Xc w mc h0:=F.rel hg E H
 have hargs:K7 (nZ w mc (MX Xc mc h0)) args' vs:=by
  clear hA hnew
  induction hF generalizing vs with
  |nil=>cases ha;exact .nil
  |cons e _ ih=>cases ha with|cons h1 t=>exact .cons (e.sim F hg E H h1) (ih _ t)
 refine(hA Xc w mc vs Hc hargs).mono (λe w' he=> ?_)
 obtain⟨v,r',h',m',rfl,⟨rfl,rfl⟩,H',Cz,hfr,hmt,hid⟩:=he
 -- the caller's view afterwards
 let KL:=K++L
 have atT:∀(j k:Nat),KL[j]? =some k→∃o,(k,o)∈ad5 KL (h'.map (bF.ren (at_ KL))):=by
  intro j k hj
  have hjl:j<h'.length:=by rw [<-k2];exact aR hj
  exact⟨(h'[j]).ren (at_ KL),UU.2 ⟨j,hj,by rw [List.getElem?_map,List.getElem?_eq_getElem hjl];rfl⟩⟩
 have ane:∀(j k:Nat),K.length<=j->KL[j]? =some k->m k=none/\h[k]? =some .dead:=by
  intro j k hj hk
  obtain⟨o,ho⟩:=atT j k hk
  rcases hnew k o (List.mem_append_left _ ho)with⟨o',ho'⟩|⟨h1,h2⟩
  ·have hkL:k∈L:=by
    have hk':(K++L)[j]? =some k:=hk
    rw [List.getElem?_append_right hj]at hk'
    exact List.mem_of_getElem? hk'
   have:=k8 k hkL
   rw [ad6 ho']at this;cases this
  ·exact⟨h2,h1⟩
 have arN:∀(j k:Nat),KL[j]? =some k->j<K.length->K[j]? =some k:=λj k hj hlt=>by
  have hj:(K++L)[j]? =some k:=hj
  rw [List.getElem?_append_left hlt]at hj;exact hj
 have hin:∀(j k:Nat),KL[j]? =some k->k<h.length:=by
  intro j k hj
  rcases Nat.lt_or_ge j K.length with h1|h1
  ·exact aR (hg k (k5 k (List.mem_of_getElem? (arN j k hj h1))))
  ·exact aR (ane j k h1 hj).2
 let m2:vW:=λk=>match idxOf k KL 0 with
  |some j=>match m' j with
   |some l=>some l
   |none=>m k
  |none=>m k
 have hext:∀k l,m k=some l->m2 k=some l:=by
  intro k l hk
  simp only [m2]
  cases hi:idxOf k KL 0 with
  |none=>exact hk
  | some j=>
   have hj:=(Fq hi).2
   simp only [Nat.sub_zero]at hj
   have hjK:j<K.length:=by
    rcases Nat.lt_or_ge j K.length with h1|h1
    ·exact h1
    ·rw [(ane j k h1 hj).1]at hk;cases hk
   have:=hid j l (by omega) (by rw [hmc j k (arN j k hj hjK)];exact hk)
   simp only [this]
 have hm2:∀(j k:Nat) (l:Loc),KL[j]? =some k->m' j=some l->m2 k=some l:=by
  intro j k l hj hl
  simp only [m2,show idxOf k KL 0=some j from afM k3 hj,hl]
 have aq1:∀k,idxOf k KL 0=none->m2 k=m k:=λk hk=>by simp only [m2,hk]
 have arO:∀k,idxOf k KL 0=none->k ∉ K:=λk hi hk=>by
  obtain⟨j,hj⟩:=List.getElem?_of_mem hk
  exact abw hi j (aay hj)
 let h2:=bD h (ad5 KL (h'.map (bF.ren (at_ KL)))++aax ks')
 have ait:∀(k:Nat) (o:bF),h2[k]? =some o->(∃(j:Nat) (o':bF),KL[j]? =some k/\h'[j]? =some o'/\o=o'.ren (at_ KL))\/(idxOf k KL 0=none/\k ∉ ks'/\h[k]? =some o)\/(idxOf k KL 0=none/\o= .dead):=by
  intro k o hk
  have hk:(bD (bD h (ad5 KL (h'.map (bF.ren (at_ KL))))) (aax ks'))[k]? =some o:=by rw [<-NC];exact hk
  rcases UW ks' _ k o hk with⟨hd,hk⟩|⟨hd,rfl⟩
  ·cases hi:idxOf k KL 0 with
   |some j=>
    have hj:=(Fq hi).2
    simp only [Nat.sub_zero]at hj
    have hjl:j<h'.length:=by rw [<-k2];exact aR hj
    have:=Y5 (h:=h) (hs:=h'.map (bF.ren (at_ KL))) k3 (λk hk=>by obtain⟨j,hj⟩:=List.getElem?_of_mem hk;exact hin j k hj) j k _ hj (by rw [List.getElem?_map,List.getElem?_eq_getElem hjl];rfl)
    rw [this]at hk
    cases hk
    exact .inl ⟨j,h'[j],hj,List.getElem?_eq_getElem hjl,rfl⟩
   | none=>
    have hne:∀o,(k,o) ∉ ad5 KL (h'.map (bF.ren (at_ KL))):=by
     intro o ho
     obtain⟨j,hj,_⟩:=UU.1 ho
     exact abw hi j hj
    rw [lS _ h k hne]at hk
    exact .inr (.inl ⟨rfl,hd,hk⟩)
  ·refine .inr (.inr ⟨?_,rfl⟩)
   cases hi:idxOf k KL 0 with
   |none=>rfl
   |some j=>
    have hj:=(Fq hi).2
    simp only [Nat.sub_zero]at hj
    exact absurd (List.mem_of_getElem? hj) (k4 k (atS k hd)).1
 have afO:∀b,Mut m2 h2 b->Mut m' h' b∨∃(k:Nat) (o:bF) (l:Loc),h[k]? =some o/\o.live/\m k=some l/\l.blk=some b/\k ∉ K/\k ∉ ks':=by
  rintro b ⟨k,o,l,hk,hl,hm,hb⟩
  rcases ait k o hk with⟨j,o',hj,ho',rfl⟩|⟨hi,hd,ho⟩|⟨_,rfl⟩
  ·rw [bF.acj]at hl
   left
   have hob:=H'.obj j o' ho'
   obtain⟨l',hl'⟩:∃l',m' j=some l':=by
    cases o' with
    |dead=>exact hl.elim
    |mp es=>obtain⟨l',_,_,_,e1,_⟩:=hob;exact⟨l',e1⟩
    |ra z1 n1 cs1=>obtain⟨l',_,_,_,e1,_⟩:=hob;exact⟨l',e1⟩
    |ms es1=>obtain⟨l',_,_,_,e1,_⟩:=hob;exact⟨l',e1⟩
    |box cs=>obtain⟨l',_,_,_,e1,_⟩:=hob;exact⟨l',e1⟩
    |arr z n f=>obtain⟨l',e1,_⟩:=hob;exact⟨l',e1⟩
   rw [hm2 j k l' hj hl']at hm
   cases hm
   exact⟨j,o',l,ho',hl,hl',hb⟩
  ·right
   rw [aq1 k hi]at hm
   exact⟨k,o,l,ho,hl,hm,hb,arO k hi,hd⟩
  ·exact hl.elim
 have hkeep:∀b,b<w.heap.size→¬Mut mc h0 b->w'.heap[b]? =w.heap[b]? :=λb hb hM=>hfr.keep b hb hM
 have hLt:Later w m (MX X m h) w' m2 (MX X m2 h2):=by
  refine⟨hext,λb hb h1 h2'=> ?_,λb hb h1=>hkeep b hb (λh2'=>h1 (.inr (afN b h2').1)),hfr.size⟩
  rcases h2' with h2'|h2'
  ·exact h1 (.inl h2')
  ·rcases afO b h2' with h3|⟨k,o,l,e1,e2,e3,e4,_⟩
   ·rcases hmt b h3 with h4|h4
    ·exact h1 (.inr (afN b h4).1)
    ·omega
   ·exact h1 (.inr ⟨k,o,l,e1,e2,e3,e4⟩)
 have hρ:∀j k l,at_ KL j=some k->m' j=some l->m2 k=some l:=λj k l hj hl=>hm2 j k l hj hl
 have hMM:kill=true→∀b,b<w'.heap.size→¬MX Xc m' h' b→¬MX X m2 h2 b:=by
  intro hkl b _ h1 hb
  refine h1 ?_
  rcases hb with hb|hb
  ·exact .inl (.inl hb)
  ·rcases afO b hb with h1|⟨k,o,l,e1,e2,e3,e4,e5,e6⟩
   ·exact .inr h1
   ·exact .inl (.inr ⟨k,o,l,e1,e2,e3,e4,e5,by subst hkl;exact e6⟩)
 have hres:nZ w' m2 (MX X m2 h2) (r'.ren (at_ KL)) v:=by
  rcases hp with hp|⟨hp,_⟩
  ·exact nZ.ren hρ (hMM hp) Cz
  ·exact nZ.ren hρ (λ_ _ h=>h) (Cz.anyM hp)
 refine⟨v,m2,rfl,⟨⟨λk o hk=> ?_,λk k' o o' l l' b e1 e2 e3 e4 e5 e6 e7 e8=> ?_,λk hk=> ?_,λb hb hX=> ?_,λb hb=>Nat.lt_of_lt_of_le (H.xlt b hb) hfr.size⟩,hLt,hfr.os,hfr.tape,hfr.output,λb hb hM=>hkeep b hb (λh1=>hM (afN b h1).1),λb hb=> ?_,λk e1 e2 e3=> ?_⟩,hres⟩
 ·rcases ait k o hk with⟨j,o',hj,ho',rfl⟩|⟨hi,_,ho⟩|⟨_,rfl⟩
  ·rcases hp with hp|⟨_,hp⟩
   ·exact Sr.ren hρ (hMM hp) (λl hl=>hm2 j k l hj hl) (H'.obj j o' ho')
   ·exact Sr.ren hρ (λ_ _ h=>h) (λl hl=>hm2 j k l hj hl) ((H'.obj j o' ho').anyM (hp o' (List.mem_of_getElem? ho')))
  ·have hob:=H.obj k o ho
   have hblk:∀l b,o.live->m k=some l->l.blk=some b->w'.heap[b]? =w.heap[b]? :=by
    intro l b hl hm hb
    refine hkeep b (agH H ho hl hm hb) (λh1=> ?_)
    obtain⟨_,j,k',o',l',e1,e2,e3,e4,e5⟩:=afN b h1
    have:=H.inj k k' o o' l l' b ho e2 hl e3 hm e4 hb e5
    subst this
    exact arO k hi (List.mem_of_getElem? e1)
   cases o with
   |dead=>trivial
   |mp es=>
    obtain⟨l,b,rows,clock,e1,e2,e3,e4⟩:=hob
    exact⟨l,b,rows,clock,hext k l e1,e2,by rw [hblk l b trivial e1 e2];exact e3,e4⟩
   |ms es=>
    obtain⟨l,b,rows,clock,e1,e2,e3,e4⟩:=hob
    exact⟨l,b,rows,clock,hext k l e1,e2,by rw [hblk l b trivial e1 e2];exact e3,e4⟩
   |ra z n cs=>
    obtain⟨l,b,T,us,e1,e2,e3,e4,e5,e6,e7,e8,e9,e10⟩:=hob
    exact⟨l,b,T,us,hext k l e1,e2,e3,e4,e5,by rw [hblk l b trivial e1 e4];exact e6,e7,e8,e9,λi x hx=>(e10 i x hx).later hLt⟩
   |box cs=>
    obtain⟨l,b,T,us,e1,e2,e3,e4,e5⟩:=hob
    exact⟨l,b,T,us,hext k l e1,e2,by rw [hblk l b trivial e1 e2];exact e3,e4.later hLt,e5⟩
   |arr z n f=>
    obtain⟨l,e1,e2,e3,e4,e5⟩:=hob
    refine⟨l,hext k l e1,e2,e3,e4,λb hb=> ?_⟩
    obtain⟨e6,T,us,e7,e8,e9,e10⟩:=e5 b hb
    exact⟨e6,T,us,by rw [hblk l b trivial e1 hb];exact e7,e8,e9,λi hi=>⟨(e10 i hi).1,λq x hx=>((e10 i hi).2 q x hx).later hLt⟩⟩
  ·trivial
 ·-- two objects in one block
  have own:∀(q:Nat) (oq:bF) (lq:Loc),h2[q]? =some oq->oq.live->m2 q=some lq->lq.blk=some b->(∃(j:Nat) (o':bF),KL[j]? =some q/\h'[j]? =some o'/\o'.live/\m' j=some lq)\/(idxOf q KL 0=none/\h[q]? =some oq/\m q=some lq):=by
   intro q oq lq hq hl hm hb
   rcases ait q oq hq with⟨j,o',hj,ho',rfl⟩|⟨hi,_,ho⟩|⟨_,rfl⟩
   ·rw [bF.acj]at hl
    left
    have hob:=H'.obj j o' ho'
    obtain⟨l',hl'⟩:∃l',m' j=some l':=by
     cases o' with
     |dead=>exact hl.elim
     |mp es=>obtain⟨l',_,_,_,e1,_⟩:=hob;exact⟨l',e1⟩
     |ra z1 n1 cs1=>obtain⟨l',_,_,_,e1,_⟩:=hob;exact⟨l',e1⟩
     |ms es1=>obtain⟨l',_,_,_,e1,_⟩:=hob;exact⟨l',e1⟩
     |box cs=>obtain⟨l',_,_,_,e1,_⟩:=hob;exact⟨l',e1⟩
     |arr z n f=>obtain⟨l',e1,_⟩:=hob;exact⟨l',e1⟩
    rw [hm2 j q l' hj hl']at hm
    cases hm
    exact⟨j,o',hj,ho',hl,hl'⟩
   ·right;rw [aq1 q hi]at hm;exact⟨hi,ho,hm⟩
   ·exact hl.elim
  have mixed:∀(q:Nat) (oq:bF) (lq:Loc) (j:Nat) (o':bF) (q':Nat) (lq':Loc),(idxOf q KL 0=none/\h[q]? =some oq/\m q=some lq)->oq.live->lq.blk=some b->KL[j]? =some q'->h'[j]? =some o'->o'.live->m' j=some lq'->lq'.blk=some b->False:=by
   rintro q oq lq j o' q' lq' ⟨hi,ho,hm⟩ hl hb hj ho' hl' hm' hb'
   have hM':Mut m' h' b:=⟨j,o',lq',ho',hl',hm',hb'⟩
   rcases hmt b hM' with h4|h4
   ·obtain⟨_,j2,k2',o2,l2,q1,q2,q3,q4,q5⟩:=afN b h4
    have:=H.inj q k2' oq o2 lq l2 b ho q2 hl q3 hm q4 hb q5
    subst this
    exact arO q hi (List.mem_of_getElem? q1)
   ·have:=agH H ho hl hm hb;omega
  rcases own k o l e1 e3 e5 e7 with⟨j,o1,a1,a2,a3,a4⟩|a
  ·rcases own k' o' l' e2 e4 e6 e8 with⟨j',o2,b1,b2,b3,b4⟩|b'
   ·have:=H'.inj j j' o1 o2 l l' b a2 b2 a3 b3 a4 b4 e7 e8
    subst this
    rw [a1]at b1;exact Option.some.inj b1
   ·exact(mixed k' o' l' j o1 k l b' e4 e8 a1 a2 a3 a4 e7).elim
  ·rcases own k' o' l' e2 e4 e6 e8 with⟨j',o2,b1,b2,b3,b4⟩|b'
   ·exact(mixed k o l j' o2 k' l' a e3 e7 b1 b2 b3 b4 e8).elim
   ·exact H.inj k k' o o' l l' b a.2.1 b'.2.1 e3 e4 a.2.2 b'.2.2 e7 e8
 ·have hlen:h2.length=h.length:=Ny _ _
  have hk':h.length<=k:=by rw [<-hlen];exact hk
  have:idxOf k KL 0=none:=by
   cases hi:idxOf k KL 0 with
   |none=>rfl
   |some j=>have hj:=(Fq hi).2;simp only [Nat.sub_zero]at hj;have:=hin j k hj;omega
  rw [aq1 k this];exact H.used k hk'
 ·rcases afO b hb with h3|⟨k,o,l,e1,e2,e3,e4,_⟩
  ·exact H'.adA b h3 (.inl hX)
  ·exact H.adA b ⟨k,o,l,e1,e2,e3,e4⟩ hX
 ·rcases afO b hb with h3|⟨k,o,l,e1,e2,e3,e4,_⟩
  ·rcases hmt b h3 with h4|h4
   ·exact .inl (afN b h4).1
   ·exact .inr h4
  ·exact .inl ⟨k,o,l,e1,e2,e3,e4⟩
 ·-- a number that is not used
  cases hi:idxOf k KL 0 with
  |none=>rw [aq1 k hi];exact e3
  | some j=>
   exfalso
   have hj:=(Fq hi).2
   simp only [Nat.sub_zero]at hj
   rcases ait k _ e2 with⟨j',o',hj',ho',he⟩|⟨hi',_⟩|⟨hi',_⟩
   ·rcases Nat.lt_or_ge j' K.length with hlt|hge
    ·have hlv:=k5 k (List.mem_of_getElem? (arN j' k hj' hlt))
     have:=hg k hlv
     rw [e1]at this
     rw [<-Option.some.inj this]at hlv
     exact hlv
    ·have hmem:o'∈h'.drop K.length:=List.mem_of_getElem? (i:=j' - K.length) (by rw [List.getElem?_drop,Nat.add_sub_cancel' hge];exact ho')
     have:=Wo ((List.all_eq_true.1 k6) o' hmem)
     have h3:=bF.acj (ρ:=at_ KL).2 this
     rw [<-he]at h3
     exact h3
   ·rw [hi]at hi';cases hi'
   ·rw [hi]at hi';cases hi'
end Go.AM
