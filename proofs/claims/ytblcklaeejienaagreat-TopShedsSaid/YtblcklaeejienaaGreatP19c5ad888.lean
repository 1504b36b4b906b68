/- The abstract machine: further operations: arrays whose cells refer to objects, bound functions, pointers that are compared with nil. -/
import Derived.Test.YtblcklaeejienaaGreatP04a09d15f
set_option linter.defProp false
set_option linter.unusedSectionVars false
set_option linter.unusedSimpArgs false
set_option linter.unusedVariables false
namespace Go.AM
open Go Go.CP Go.RowKit
variable [Fuel]
section
variable {k z n:Nat}{p:SC}{v:Value}{bK:Eff}{a:Option Addr}{id:Nat}{e:TypeId}{xo yo:Operand}
def aaR(P:Program)(T:TypeId)(get:Nat->aU):SC->Option Eff
 | .pe k i off=>match get k with
  | .ra z _ cs=>match yu P T cs (i*z+off)with
   |some v=>some {r:=.one v}
   |none=>none
  |_=>none
 |_=>none
def aar(P:Program)(T:TypeId)(get:Nat->aU)(p:SC)(v:AV):Option Eff:=
 match P.info? T with
 |none=>none
 |some i=>
  bif Nat.beq (kP v).length i.size&&(kP v).all SC.scalar then
   match p with
   | .pe k j off=>match get k with
    | .ra z n cs=>bif Nat.ble (j*z+off+i.size) cs.length then some {r:=fP undef,ws:=[(k,.ra z n (splice cs (j*z+off) (kP v)))]}else none
    |_=>none
   |_=>none
  else none
def aaq(P:Program)(t:TypeId)(get:Nat->aU)(x:SC)(i:Int):Option Eff:=
 match x with
 | .own k=>match P.underlying t with
  |some (.slice e)=>match P.info? e,get k with
   |some ie,.ra z n _=>bif Nat.beq z ie.size then some {r:=.one (.s (.pe k i.toNat 0)),bs:=[decide (0<=i/\i<n)]}else none
   |_,_=>none
  |_=>none
 |_=>none
def Jj(P:Program)(get:Nat->aU)(t:TypeId)(x:SC):Option Eff:=
 match P.underlying t with
 |some (.slice _)=>match x with
  | .own k=>match get k with
   | .ra _ n _=>some {r:=fP (.int .i64 (n:Int))}
   |_=>none
  |_=>none
 |_=>none
def ahx(P:Program)(t:TypeId)(id len:Nat)(ps:List (Nat×AV)):Option Eff:=
 match qJ P t with
 |none=>none
 |some (_,i,z)=>
  bif Nat.ble (len*i.size) 16777216 then
   match vN (λk=>some (k*i.size,i.size)) (rep (vals z.toList) len) ps with
   |some cs=>some {r:=.one (.s (.own id)),ws:=[(id,.ra i.size len cs)]}
   |none=>none
  else none
def Mq(z:Nat)(get:Nat->aU):SC->Option (Nat×List SC)
 | .own k=>match get k with
  | .ra z' n cs=>bif Nat.beq z z' then some (n,cs)else none
  |_=>none
 |_=>none
def aac(P:Program)(t:TypeId)(id:Nat)(get:Nat->aU)(s x:SC):Option Eff:=
 match qJ P t with
 |none=>none
 | some (_,i,_)=>
  match Mq i.size get x with
  |none=>none
  | some (k,ys)=>match s with
   | .own j=>match get j with
    | .ra z n cs=>bif Nat.beq i.size z then
      some {r:=.one (.s (.own id)),ws:=[(j,.dead),(id,.ra i.size (n+k) (cs++ys))],bs:=[decide ((n+k)*i.bytes<=140737488355328)]}else none
    |_=>none
   | .c (.val (.slice none 0 0))=>some {r:=.one (.s (.own id)),ws:=[(id,.ra i.size k ys)],bs:=[decide (0<k/\k*i.bytes<=140737488355328)]}
   |_=>none
def ajB(P:Program)(op:BinOp)(t:TypeId)(x y:SC):Option Eff:=
 match P.underlying t with
 |some (.pointer _)=>match x,y,op with
  | .pb _ _,.c (.val (.pointer none)),.eql=>some {r:=fP (.bool false)}
  | .pb _ _,.c (.val (.pointer none)),.neq=>some {r:=fP (.bool true)}
  | .c (.val (.pointer none)),.c (.val (.pointer none)),.eql=>some {r:=fP (.bool true)}
  | .c (.val (.pointer none)),.c (.val (.pointer none)),.neq=>some {r:=fP (.bool false)}
  |_,_,_=>none
 |_=>none
def lI(P:Program)(id:Nat)(ρ:Operand->Option SV)(get:Nat->aU):Op->Option Eff
 | .load T a=>match ρ a with
  |some (.one (.s p))=>aaR P T get p
  |_=>none
 | .store T a v=>match ρ a,ρ v with
  |some (.one (.s p)),some (.one v)=>aar P T get p v
  |_,_=>none
 | .indexAddr t x i=>match ρ x,ρ i with
  |some (.one (.s p)),some (.one (.s (.c (.val (.int _ n)))))=>aaq P t get p n
  |_,_=>none
 | .buildSlice t n ps=>match partsOf ρ ps.toList with
  |some l=>ahx P t id n l
  |none=>none
 | .makeFunc fn first caps=>match fn,first.toList with
  | .func f,[x]=>match ρ x with
   |some (.one (.s (.pb k off)))=>bif Nat.beq caps.size 0 then some {r:=.one (.s (.fb f k off))}else none
   |_=>none
  |_,_=>none
 | .binOp op t x y _=>match ρ x,ρ y with
  |some (.one (.s x)),some (.one (.s y))=>ajB P op t x y
  |_,_=>none
 | .index t x i=>match P.underlying t,ρ x,ρ i with
  |some (.array n e),some (.one (.agg cs)),some (.one (.s (.c (.val (.int _ j)))))=>match P.info? e with
   |some ie=>match yu P e cs (j.toNat*ie.size)with
    |some v=>some {r:=.one v,bs:=[decide (0<=j/\j<n)]}
    |none=>none
   |none=>none
  |_,_,_=>none
 | .makeMap t none=>ah5 P t id
 | .lookup t x i ok=>match ρ x,ρ i with
  |some (.one (.s x)),some (.one (.s i))=>aaS P get t x i ok
  |_,_=>none
 | .mapUpdate t x i v=>match ρ x,ρ i,ρ v with
  |some (.one (.s x)),some (.one (.s i)),some (.one v)=>abx P get t x i v
  |_,_,_=>none
 | .unOp .xor _ x=>match ρ x with
  |some (.one (.s (.c (.val (.int k n)))))=>some {r:=fP (.int k (k.wrap ((BitVec.ofInt k.bits (if k.signed then -1 else k.max)^^^BitVec.ofInt k.bits n).toNat)))}
  |_=>none
 | .call c=>match c.callee,c.args.toList,c.argTypes.toList with
  | .builtin .len,[x],t::_=>match ρ x with
   |some (.one (.s x))=>match Jj P get t x with
    |some e=>some e
    |none=>PN P get t x
   |_=>none
  | .builtin .append,[s,x],[t,u]=>match ρ s,ρ x,P.underlying u with
   |some (.one (.s s)),some (.one (.s x)),some (.slice _)=>aac P t id get s x
   |_,_,_=>none
  |_,_,_=>none
 |_=>none
section
variable {P:Program} {X:Mu} {w:World} {m:gV} {h:List aU}
theorem aJr(H:fJ X w m h){cs:List SC}(e:eB h k=.ra z n cs){b:Nat}{l:Loc}(hk:m k=some l)(hb:l.blk=some b):
  Gi w m (MX X m h) b 0 cs/\l.z=z/\l.n=n:=by
 obtain⟨l',b',T,vs,e1,e2,e3,e4,e5,e6,e7,e8,e9,e10⟩:=H.obj k _ (oP e trivial);rw[hk]at e1;cases e1;rw[hb]at e4;cases e4;refine⟨λj x hx=> ?_,e2,e3.1⟩;have hj:j<cs.length:=iF hx;have hle:n*z<=l.cap*z:=jS _ e3.2;have hv:j<vs.size:=ah
 refine⟨vs.getD j undef,?_,e10 j x hx⟩;rw[cell_of_row w b _ vs T _ e6];simp[Array.getD,hv]
theorem aGI(H:fJ X w m h){T:TypeId}(hp:dU w m (MX X m h) p v)(he:aaR P T (eB h) p=some bK):
  ∃u,(Instr.loadAt T v).run P w=.ok u w/\bK.ws=[]/\eZ w m (MX X m h) bK.r u:=by
 unfold aaR at he;split at he
 .rename_i k i off;split at he
  .rename_i z n cs hg;split at he
   .rename_i a hl;cases he;cases hp with|pe _ _ _ b l hk hb hi=>obtain⟨hC,hz,hn⟩:=aJr H hg hk hb;obtain⟨u,hr,hs⟩:=UR (P:=P) hC hl;refine⟨u,?_,rfl,hs⟩;rw[nM,<-hz]at hr;simp only[Instr.loadAt,Instr.sureAddr,Sem.run_bind,Sem.run_pure,Result.andThen_ok,hr]
   .cases he
  .cases he
 .cases he
theorem aFS(H:fJ X w m h){T:TypeId}{a:AV}{pv:Value}(hp:dU w m (MX X m h) p pv)(ha:jo w m (MX X m h) a v)
  (he:aar P T (eB h) p a=some bK):
  ∃w',(Instr.storeAt T pv v).run P w=.ok () w'/\bK.r=fP undef/\Stp X w m h w' m (eX h bK.ws):=by
 unfold aar at he;rcases hi:P.info? T with _|i;rw[hi]at he;cases he;rw[hi]at he;simp only at he;cases hb:(Nat.beq (kP a).length i.size&&(kP a).all SC.scalar)with
 |false=>rw[hb]at he;cases he
 | true =>
  rw[hb]at he;simp only[aY]at he;simp only[dQ]at hb;obtain⟨hsz,hsc⟩:=hb;have hsz:=eG hsz;obtain⟨hL,h1⟩:=jo.cells ha hsc;have hvs:v.cells.size=i.size:=by rw[hL.1];exact hsz
  split at he
  .rename_i k j off;split at he
   .rename_i z n cs hg;rcases hle:Nat.ble (j*z+off+i.size) cs.length with _|_;rw[hle]at he;cases he;rw[hle]at he;simp only[aY]at he;cases he;have hle:=qN hle;cases hp with
    |pe _ _ _ b l hk hbk hjl=>
     have hget:=oP hg trivial;obtain⟨l',b',t,cur,e1,e2,e3,e4,e5,e6,e7,e8,e9,e10⟩:=H.obj k _ hget;rw[hk]at e1;cases e1;rw[hbk]at e4;cases e4;subst e2;have hle2:n*l.z<=l.cap*l.z:=jS _ e3.2;have hcl:j*l.z+off+v.cells.size<=cur.size:=ah;have hst:=agp (off:=j*l.z+off) hi e6 hvs hcl h1;refine⟨_,hst,rfl,?_⟩;refine Stp.write H hget trivial hk hbk rfl rfl ⟨rfl,λ_=>gy _⟩ aj (λc _ hc=>setRow_other w b c _ hc) (λkG=> ?_);have akd:j*l.z+off+v.cells.toList.length<=cur.toList.length:=(aD hcl);refine⟨l,b,t,_,hk,rfl,e3,hbk,e5,setRow_heap w b cur _ t _ e6,?_,?_,?_,λq x hx=> ?_⟩
     .rw[z8,yL _ _ _ akd];simpa using e7
     .exact Gc akd (λq hq=>by have:=e8 q (aD hq);rwa [ng]at this) h1
     .rw[yL _ _ _ (by rw[<-hL.1,hvs];exact hle)];exact e9
     .rw[rX _ _ _ (by rw[<-hL.1,hvs];exact hle)]at hx;rw[wG,rX _ _ _ akd];have hll:(kP a).length=v.cells.toList.length:=(by rw[<-hL.1];simp);rw[hll]at hx;split at hx
      .rename_i hin;rw[bW hin];have:=(hL.2 _ _ hx).later kG;rwa [ng]at this
      .rename_i hin;rw[dn hin];have:=(e10 _ _ hx).later kG;rwa [ng]at this
   .cases he
  .cases he
theorem aFQ{t:TypeId}{x:SC}{v:Value}{k:IntKind}{i:Int}{bK:Eff}(H:fJ X w m h)(hx:dU w m (MX X m h) x v)(he:aaq P t (eB h) x i=some bK)(hc:∀q∈bK.bs,q=true):
  ∃u,(Instr.indexAt t v (.int k i)).run P w=.ok u w/\bK.ws=[]/\eZ w m (MX X m h) bK.r u:=by
 unfold aaq at he;split at he
 .rename_i k';split at he
  .rename_i e hu;split at he
   .rename_i ie z n cs hi hg;rcases hbz:Nat.beq z ie.size with _|_;rw[hbz]at he;cases he;rw[hbz]at he;simp only[aY]at he;cases he;have hb:0<=i/\i<n:=iX (hc _ aj);have hz:=eG hbz;cases hx with|own _ l hk=>obtain⟨l',b,T,vs,e1,e2,e3,e4,e5,e6,e7,e8,e9,e10⟩:=H.obj k' _ (oP hg trivial);rw[hk]at e1;cases e1;rw[e5];have hr:=run_indexAt_slice (P:=P) (w:=w) (k:=k) (b:=b) (off:=0) (n:=l.n) (c:=l.cap) hu hi (i:=i) (by rw[e3.1];exact hb);refine⟨_,hr,rfl,?_⟩;have:=dU.pe (w:=w) (m:=m) (M:=MX X m h) k' i.toNat 0 b l hk e4 (by rw[e3.1];omega);rw[e2,hz]at this;simp only[vk]at this;simpa using(show eZ w m (MX X m h) (.one (.s (.pe k' i.toNat 0))) _ from this)
   .cases he
  .cases he
 .cases he
theorem aHA(H:fJ X w m h){t ty:TypeId}{ts:List TypeId}{x:SC}{v:Value}{bK:Eff}(hx:dU w m (MX X m h) x v)(he:Jj P (eB h) t x=some bK):
  ∃u,(Builtin.len_ (t::ts).toArray ty #[v]).run P w=.ok u w/\bK.ws=[]/\eZ w m (MX X m h) bK.r u:=by
 unfold Jj at he;split at he
 .rename_i e hu;split at he
  .rename_i k;split at he
   .rename_i z n cs hg;cases he;cases hx with|own _ l hk=>obtain⟨l',b,T,vs,e1,e2,e3,_⟩:=H.obj k _ (oP hg trivial);rw[hk]at e1;cases e1;refine⟨_,?_,rfl,.c (.val _)⟩;simp[Builtin.len_,run_underlying hu,goInt,e3.1]
   .cases he
  .cases he
 .cases he
theorem Stp.asO(H:fJ X w m h)(hid:h[id]? =some .dead)(hm:m id=none){w1:World}(hw1:w1.heap=w.heap)(hos:w1.os=w.os)(ht:w1.tape=w.tape)(ho:oG w w1)
  (kl:Option Nat) {cap:Nat} {cs:List SC} {vs:Array Value} (T:TypeId)
  (hn:n<=cap) (hsz:vs.size=cap*z) (h1:∀i,i<vs.size->(vs.getD i undef).oneCell'=true) (hcl:cs.length=n*z)
  (hf:∀(i:Nat) x,cs[i]? =some x->dU w m (MX X m h) x (vs.getD i undef)):
  ∃m',Stp X w m h (w1.alloc (.cells vs T)) m' ((sM h kl).set id (.ra z n cs))∧
   dU (w1.alloc (.cells vs T)) m' (MX X m' ((sM h kl).set id (.ra z n cs))) (.own id) (.slice (some ⟨w.heap.size,0,none⟩) n cap):=by
 let l:Loc:=⟨some ⟨w.heap.size,0,none⟩,cap,z,some w.heap.size,n⟩
 have hsz1:w1.heap.size=w.heap.size:=by rw[hw1]
 refine⟨mX m id l,?_,.own id l (by simp[mX])⟩;refine Stp.make H hid hm kl l (.ra z n cs) trivial hos ht ho (by simp[hsz1]) (λb hb=> .inl ?_) (λb hb=> ?_) (λkG=> ?_)
 .rw[TN w1 _ b (by rw[hsz1];exact hb),hw1]
 .cases hb;exact .inl (gy _)
 .refine⟨l,w.heap.size,T,vs,by simp[mX],rfl,⟨rfl,hn⟩,rfl,rfl,?_,hsz,h1,hcl,λi x hx=>(hf i x hx).later kG⟩;rw[<-hsz1];exact UL w1 _
theorem aFO(H:fJ X w m h){id:Nat}(hid:h[id]? =some .dead)(hm:m id=none){t:TypeId}{n:Nat}{ps:List (Nat×AV)}{qs:Array (Nat×Value)}{bK:Eff}
  (hq:jY (λ(a:Nat×AV) (b:Nat×Value)=>a.1=b.1/\jo w m (MX X m h) a.2 b.2) ps qs.toList) (he:ahx P t id n ps=some bK):
  ∃v w' m',(Instr.buildSlice t n qs).run P w=.ok v w'/\Stp X w m h w' m' (eX h bK.ws)/\eZ w' m' (MX X m' (eX h bK.ws)) bK.r v:=by
 unfold ahx at he;rcases jF:qJ P t with _|q;rw[jF]at he;cases he;obtain⟨e,i,z⟩:=q;rw[jF]at he;simp only at he;obtain⟨hu,hi,⟨zv,hz,hzc⟩,hzs,hz1,hpos,Bj⟩:=DK jF;rcases hb:Nat.ble (n*i.size) 16777216 with _|_;rw[hb]at he;cases he;rw[hb]at he;simp only[aY]at he;have hb:=qN hb;rcases hf:vN (λk=>some (k*i.size,i.size)) (rep (vals z.toList) n) ps with _|cs;rw[hf]at he;cases he;rw[hf]at he;cases he;obtain⟨hr,hr1⟩:=ahN (w:=w) (m:=m) (M:=MX X m h) z n ah hz1;obtain⟨vs',r1,r2,r3⟩:=U2 hq hr hr1 hf;have hlen:cs.length=n*i.size:=by rw[ag7 hf,OM];simp[vals,hzs]
 obtain⟨m',hS,hs⟩:=Stp.asO H hid hm (w1:=w) rfl rfl rfl (oG.same _) none (z:=i.size) (n:=n) (cap:=n) (cs:=cs) (vs:=vs') e (gy _)
  (by rw[r2.1,hlen]) r3 hlen r2.2
 refine⟨_,_,m',?_,hS,hs⟩;have hzero:∀zz:Array Value,zz=(if n*i.size=0 then #[]else z)->((Array.range (n*i.size)).map (zz[· %zz.size]!))=((Array.range (n*z.size)).map (z[· %z.size]!)):=by
  intro zz hzz;rw[hzs];by_cases h0:n*i.size=0
  .rw[h0];simp
  .rw[dn h0]at hzz;rw[hzz,hzs]
 simp only[Instr.buildSlice,Sem.run_bind,run_underlying hu,Result.andThen_ok,AL hi];rw[dn ah];by_cases h0:n*i.size=0
 .rw[bW h0];simp only[Sem.run_bind,Sem.run_pure,Result.andThen_ok];rw[hzero #[] (by rw[bW h0]),r1];simp[newRow]
 .rw[dn h0];simp only[Sem.run_bind,Sem.run_pure,Result.andThen_ok,FX hi hz,hzc];rw[hzero z (by rw[dn h0]),r1];simp[newRow]
def pins(news:List Value)(z:Nat):Nat->List CV:=λi=>((news.drop (i*z)).take z).map .val
theorem aIH(H:fJ X w m h){ys:List SC}{x:SC}(hx:dU w m (MX X m h) x v)(hs:Mq z (eB h) x=some (k,ys)):
  ∃news,Src w (MX X m h) z k (pins news z) v news/\ys.length=k*z∧∀(i:Nat) y,ys[i]? =some y->dU w m (MX X m h) y ((news[i]?).getD undef):=by
 unfold Mq at hs;split at hs
 .rename_i k';split at hs
  .rename_i z' n cs hg;rcases hb:Nat.beq z z' with _|_;rw[hb]at hs;cases hs;rw[hb]at hs;have hb:=eG hb;subst hb;simp only[aY]at hs;cases hs;cases hx with
   |own _ l hk=>
    obtain⟨l',b,T,vs,e1,e2,e3,e4,e5,e6,e7,e8,e9,e10⟩:=H.obj k' _ (oP hg trivial);rw[hk]at e1;cases e1;have hle:k*z<=vs.size:=(by rw[e7];exact jS _ e3.2);have hln:(vs.toList.take (k*z)).length=k*z:=ay;have hget:∀j,j<k*z->(vs.toList.take (k*z))[j]? =some (vs.getD j undef):=(by intro j hj;rw[tq,bW hj];have:j<vs.size:=ah;simp[Array.getD,this]);refine⟨vs.toList.take (k*z),⟨⟨l.base,l.cap,by rw[e3.1],?_⟩,hln,λu hu=> ?_,λi hi=> ?_⟩,e9,λi y hy=> ?_⟩
    .right;refine⟨b,0,e5,λj u hu=> ?_⟩;have hj:j<k*z:=(by have:=iF hu;omega);rw[hget j hj]at hu;rw[cell_of_row w b _ vs T _ e6,<-hu];have:j<vs.size:=ah;simp[Array.getD,this]
    .obtain⟨j,hj,rfl⟩:=xV hu;have hj':j<k*z:=ah;have:=hget j hj';rw[jR hj]at this;rw[rM this];exact e8 j ah
    .have hiz:i*z+z<=k*z:=(by rw[<-pK];exact jS _ ah);refine⟨by unfold pins;simp only[kQ,sD,List.length_drop,hln];omega,λj x hx=> ?_⟩;unfold pins at hx;rw[mW]at hx;rcases hq:(((vs.toList.take (k*z)).drop (i*z)).take z)[j]? with _|u;rw[hq]at hx;cases hx;rw[hq]at hx;cases hx;have hj:j<z:=(by have:=iF hq;simp at this;omega);rw[tq,bW hj,yP]at hq;rw[hq];exact .val u
    .have hi:i<k*z:=(by have:=iF hy;omega);rw[hget i hi];exact e10 i y hy
  .cases hs
 .cases hs
theorem aIO{M:Mu}{cs ys:List SC}{us news:List Value}(hc:cs.length=us.length)(hf:∀(i:Nat) x,cs[i]? =some x->dU w m M x ((us[i]?).getD undef))(hg:∀(i:Nat) x,ys[i]? =some x->dU w m M x ((news[i]?).getD undef))(rest:List Value)(hn:ys.length=news.length):
  ∀(i:Nat) x,(cs++ys)[i]? =some x->dU w m M x (((us++(news++rest))[i]?).getD undef):=by
 intro i x hx;rcases mI i cs.length with h1|h1
 .rw[p9 h1]at hx;rw[p9 ah];exact hf i x hx
 .rw[uo h1]at hx;rw[uo ah,<-hc];have:=iF hx;rw[p9 ah];exact hg _ x hx
theorem aE0(H:fJ X w m h){id:Nat}(hid:h[id]? =some .dead)(hm:m id=none){t u ty:TypeId}{e':TypeId}(hu':P.underlying u=some (.slice e')){s x:SC}{sv xv:Value}{bK:Eff}
  (hs:dU w m (MX X m h) s sv) (hx:dU w m (MX X m h) x xv) (he:aac P t id (eB h) s x=some bK) (hc:∀q∈bK.bs,q=true):
  ∃v w' m',(Builtin.append_ #[t,u] ty #[sv,xv]).run P w=.ok v w'/\Stp X w m h w' m' (eX h bK.ws)/\eZ w' m' (MX X m' (eX h bK.ws)) bK.r v:=by
 unfold aac at he;rcases jF:qJ P t with _|q;rw[jF]at he;cases he;obtain⟨e,i,z⟩:=q;rw[jF]at he;simp only at he;obtain⟨hu,hi,⟨zv,hz,hzc⟩,hzs,hz1,hpos,Bj⟩:=DK jF;rcases hsr:Mq i.size (eB h) x with _|q;rw[hsr]at he;cases he;obtain⟨k,ys⟩:=q;rw[hsr]at he;simp only at he;obtain⟨news,hS,hyl,hys⟩:=aIH H hx hsr;have hnl:news.length=k*i.size:=hS.2.1
 have grown:∀(base:Option Addr) (n cap:Nat) (cs:List SC) (olds:List Value) (kl:Option Nat),cap<n+k->(n+k)*i.bytes<=140737488355328->cs.length=n*i.size->olds.length=n*i.size->(∀u∈olds,u.oneCell'=true)→
   (∀w1:World,w1.heap=w.heap->(Builtin.firstCells i.size n (.slice base n cap)).run P w1=.ok olds.toArray w1)->(∀(q:Nat) y,cs[q]? =some y->dU w m (MX X m h) y ((olds[q]?).getD undef))→
   ∃v w' m',(Builtin.append_ #[t,u] ty #[.slice base n cap,xv]).run P w=.ok v w'/\Stp X w m h w' m' ((sM h kl).set id (.ra i.size (n+k) (cs++ys)))/\eZ w' m' (MX X m' ((sM h kl).set id (.ra i.size (n+k) (cs++ys)))) (.one (.s (.own id))) v:=by
  intro base n cap cs olds kl hgrow hbytes hcs ho1 ho2 ho3 ho4;have h63:n+k<=9223372036854775807:=by have:(n+k)*1<=(n+k)*i.bytes:=aiR _ Bj;omega
  have hfit:=growslice_fits hgrow hbytes;have hrun:=ap7 (ty:=ty) hu hu' hi hz hS ho3 hgrow h63 hfit;have hge:=grownCap_ge w (n+k) cap e;generalize grownCap w (n+k) cap e=nc at hrun hge;have hsz:(olds.toArray++news.toArray++Builtin.zeroCells zv.cells (nc-(n+k))).size=nc*i.size:=by simp only[ajl,z8,size_zeroCells,hzc,hzs,ho1,hnl,<-nV];congr 1;omega
  have htl:(olds.toArray++news.toArray++Builtin.zeroCells zv.cells (nc-(n+k))).toList=olds++(news++(Builtin.zeroCells zv.cells (nc-(n+k))).toList):=aj
  obtain⟨m',hSt,iN⟩:=Stp.asO H hid hm (w1:=w.drew) rfl rfl rfl ⟨rfl,λ_=>abg _⟩ kl (z:=i.size) (n:=n+k) (cap:=nc) (cs:=cs++ys) (vs:=olds.toArray++news.toArray++Builtin.zeroCells zv.cells (nc - (n+k))) e hge hsz
   (λq hq=>by
    rw[ng,htl];rcases mI q olds.length with h1|h1
    .rw[p9 h1,jR h1];exact ho2 _ (zo h1)
    .rw[uo h1];rcases mI (q-olds.length) news.length with h2|h2
     .rw[p9 h2,jR h2];exact hS.2.2.1 _ (zo h2)
     .rw[uo h2];have h3:q-olds.length-news.length<(Builtin.zeroCells zv.cells (nc-(n+k))).toList.length:=(by have h5:(Builtin.zeroCells zv.cells (nc-(n+k))).toList.length=(nc-(n+k))*i.size:=(by simp only[ajk,size_zeroCells,hzc,hzs]);rw[h5];rw[hsz]at hq;have e2:(nc-(n+k))*i.size+(n+k)*i.size=nc*i.size:=(by rw[<-nV];congr 1;omega);rw[nV]at e2;omega);rw[jR h3];simp only[Lp,aso,Builtin.zeroCells,Array.getElem_map,asn,hzc];have h4:(q-olds.length-news.length)%z.size<z.size:=uw _ ah;simp only[h4,AY]
      exact(LJ.1 hz1) _ h4)
   (by rw[qp,hcs,hyl,nV])
   (by
    simp only[ng,htl]
    exact aIO (by rw[hcs,ho1]) ho4 hys _ (by rw[hyl,hnl]))
  exact⟨_,_,m',hrun,hSt,iN⟩
 split at he
 .rename_i j;split at he
  .rename_i z1 n cs hg;rcases hb:Nat.beq i.size z1 with _|_;rw[hb]at he;cases he;rw[hb]at he;have hb:=eG hb;subst hb;simp only[aY]at he;cases he;have hbytes:(n+k)*i.bytes<=140737488355328:=iX (hc _ aj);cases hs with
   | own _ l hk=>
    have hget:=oP hg trivial;obtain⟨l',b,T,vs,g1,g6,g3,g4,g7,g10,g11,g12,g13,g14⟩:=H.obj j _ hget;rw[hk]at g1;cases g1;rw[g3.1,g7];have hle:n*i.size<=vs.size:=(by rw[g11];exact jS _ g3.2);show∃v w' m',_/\Stp X w m h w' m' ((sM h (some j)).set id (.ra i.size (n+k) (cs++ys)))/\eZ w' m' (MX X m' ((sM h (some j)).set id (.ra i.size (n+k) (cs++ys)))) (.one (.s (.own id))) v;by_cases hroom:n+k<=l.cap
    .have hfit:n*i.size+news.length<=vs.size:=(by rw[hnl,g11,<-nV];exact jS _ hroom);refine⟨_,_,mX m id {l with n:=n+k},ahM hu hu' hi hS g10 hroom hfit,?_,?_⟩
     .refine Stp.make H hid hm (some j) {l with n:=n+k} _ (by exact trivial) rfl rfl ⟨rfl,λ_=>gy _⟩ aj (λc hcb=> ?_) (λc hcb=> ?_) (λkG=> ?_)
      .by_cases hcc:c=b
       .subst hcc;exact .inr ⟨j,_,l,rfl,hget,trivial,hk,g4⟩
       .exact .inl (setRow_other w b c _ hcc)
      .have hcb:l.blk=some c:=hcb;rw[g4]at hcb;cases hcb;exact .inr ⟨j,_,l,rfl,hget,trivial,hk,g4⟩
      .refine⟨{l with n:=n+k},b,T,_,bW rfl,g6,⟨rfl,hroom⟩,g4,g7,setRow_heap w b vs _ T _ g10,?_,?_,?_,?_⟩
       .rw[z8,yL _ _ _ (aD hfit)];simpa using g11
       .exact Gc (aD hfit) (λq hq=>by have:=g12 q (aD hq);rwa [ng]at this) hS.2.2.1
       .rw[qp,g13,hyl,nV]
       .intro q y hy;rw[wG,rX _ _ _ (aD hfit)];rcases mI q cs.length with h1|h1
        .rw[p9 h1]at hy;rw[dn ah];have:=(g14 q y hy).later kG;rwa [ng]at this
        .rw[uo h1]at hy;have:=iF hy;rw[bW ah,show q-n*i.size=q-cs.length by omega];exact(hys _ y hy).later kG
     .show dU _ (mX m id {l with n:=n+k}) _ (.own id) _;rw[<-g7];exact .own id {l with n:=n+k} (bW rfl)
    .refine grown _ n l.cap cs (vs.toList.take (n*i.size)) (some j) ah hbytes g13 ay (λu hu=> ?_) (λw1 hw1=> ?_) (λq y hy=> ?_)
     .obtain⟨q,hq,rfl⟩:=xV hu;have hq':q<n*i.size:=(by simp at hq;omega);have:=g12 q ah;rw[ng]at this;rw[aiF];have hq2:q<vs.toList.length:=ay;rw[jR hq2]at this;exact this
     .refine run_firstCells_some w1 i.size n ⟨b,0,none⟩ n l.cap _ ay (λq v hv=> ?_);rw[addr_add];have hq:q<n*i.size:=(by have:=iF hv;simp at this;omega);rw[cell_of_row w1 b _ vs T _ (by rw[hw1];exact g10)];rw[tq,bW hq]at hv;simpa using hv
     .have hq:q<n*i.size:=(by have:=iF hy;omega);rw[tq,bW hq];have:=g14 q y hy;rwa [ng]at this
  .cases he
 .cases he;have hb:0<k/\k*i.bytes<=140737488355328:=iX (hc _ aj);cases hs with|c hs=>cases hs;have:=grown none 0 0 [] [] none ah (by rw[nM];exact hb.2) aj aj aj (λw1 _=>by simp[Builtin.firstCells,loadCells,loadCellsFrom]) aj;simpa[eX,sM]using this
 .cases he
theorem anf(w:World)(d:Nat){T e:TypeId}(a:Option Addr)(hT:P.underlying T=some (.pointer e)):
  (Op.equalIn (d+1) T (.pointer a) (.pointer none)).run P w=.ok a.isNone w:=by
 have hu:=run_underlying (P:=P) (w:=w) hT;rcases a with _|a;simp[Op.equalIn,hu];simp[Op.equalIn,hu]
theorem aqc{w:World}{T:TypeId}(hT:P.underlying T=some (.pointer e)):
  (do eqGuard .eql T xo yo (.pointer a) (.pointer none);binOp .eql T (.pointer a) (.pointer none):Sem Value).run P w=.ok (.bool a.isNone) w:=by
 have hq:=anf (P:=P) w 9999 a hT;have hg:(eqGuard .eql T xo yo (.pointer a) (.pointer none)).run P w=.ok () w:=by simp[eqGuard]
 rw[Sem.run_bind,hg];simp[binOp,Op.equal,Op.maxDepth,hq]
theorem aqd{w:World}{T:TypeId}(hT:P.underlying T=some (.pointer e)):
  (do eqGuard .neq T xo yo (.pointer a) (.pointer none);binOp .neq T (.pointer a) (.pointer none):Sem Value).run P w=.ok (.bool (!a.isNone)) w:=by
 have hq:=anf (P:=P) w 9999 a hT;have hg:(eqGuard .neq T xo yo (.pointer a) (.pointer none)).run P w=.ok () w:=by simp[eqGuard]
 rw[Sem.run_bind,hg];simp[binOp,Op.equal,Op.maxDepth,hq]
theorem aIz{op:BinOp}{t:TypeId}{xo yo:Operand}{x y:SC}{a b:Value}{M:Mu}{bK:Eff}(hx:dU w m M x a)(hy:dU w m M y b)(he:ajB P op t x y=some bK):
  ∃v,(do eqGuard op t xo yo a b;binOp op t a b:Sem Value).run P w=.ok v w/\bK.ws=[]/\eZ w m M bK.r v:=by
 unfold ajB at he;split at he
 .rename_i e hu;split at he
  .cases he;cases hx;cases hy with|c hy=>cases hy;exact⟨_,aqc hu,rfl,.c (.val _)⟩
  .cases he;cases hx;cases hy with|c hy=>cases hy;exact⟨_,aqd hu,rfl,.c (.val _)⟩
  .cases he;cases hx with|c hx=>cases hx;cases hy with|c hy=>cases hy;exact⟨_,aqc hu,rfl,.c (.val _)⟩
  .cases he;cases hx with|c hx=>cases hx;cases hy with|c hy=>cases hy;exact⟨_,aqd hu,rfl,.c (.val _)⟩
  .cases he
 .cases he
theorem aGr(H:fJ X w m h)(hid:h[id]? =some .dead)(hm:m id=none){a:Act}{o:Oper}{ρ:Operand->Option SV}
  (hρ:∀x s,ρ x=some s->eZ w m (MX X m h) s (a.eval x))  (he:lI P id ρ (eB h) o.op=some bK) (hc:∀q∈bK.bs,q=true):
  Yields P X w m h o a bK.ws bK.r:=by
 obtain⟨dst,op,type,pos,after,guard⟩:=o;cases op with
 |load T x=>
  simp only[lI]at he;split at he
  .rename_i p hx;obtain⟨u,hr,hw,hs⟩:=aGI H (hρ x _ hx) he;exact Yields.pure H (by simp[execOp,hr]) hw hs
  .cases he
 |store T x y=>
  simp only[lI]at he;split at he
  .rename_i p v hx hy;obtain⟨w',hr,hw,hS⟩:=aFS H (hρ x _ hx) (hρ y _ hy) he;refine⟨.skip,w',m,undef,by simp[execOp,hr],.inr ⟨rfl,rfl⟩,hS,?_⟩;rw[hw];exact .c (.val _)
  .cases he
 |indexAddr t x i=>
  simp only[lI]at he;split at he
  .rename_i p k n hx hi;have hv:=hρ i _ hi;generalize hev:a.eval i=v' at hv;cases hv with|c hv=>cases hv;obtain⟨u,hr,hw,hs⟩:=aFQ (k:=k) H (hρ x _ hx) he hc;exact Yields.pure H (by simp[execOp,hev,hr]) hw hs
  .cases he
 |buildSlice t n ps=>simp only[lI]at he;rcases hp:partsOf ρ ps.toList with _|l;rw[hp]at he;cases he;rw[hp]at he;simp only at he;have hq:=Zz hρ hp;obtain⟨v,w',m',hr,hS,hs⟩:=aFO (P:=P) H hid hm (qs:=ps.map λ(i,x)=>(i,a.eval x)) (aD hq) he;exact⟨.value v,w',m',v,by simp[execOp,hr],.inl rfl,hS,hs⟩
 |binOp op t x y t'=>
  simp only[lI]at he;split at he
  .rename_i sx sy hx hy;obtain⟨v,hr,hw,hs⟩:=aIz (xo:=x) (yo:=y) (hρ x _ hx) (hρ y _ hy) he;exact Yields.pure H (by simp only[execOp,Sem.run_bind]at hr⊢;rw[hr];rfl) hw hs
  .cases he
 |makeMap t r=>cases r with
  |some r=>cases he
  |none=>obtain⟨w',m',v,hr,hS,hs⟩:=aGK (P:=P) H hid hm (t:=t) he;exact⟨.value v,w',m',v,by simp[execOp,hr],.inl rfl,hS,hs⟩
 |lookup t x i ok=>
  simp only[lI]at he;split at he
  .rename_i sx si hx hi;obtain⟨v,hr,hw,hs⟩:=aGJ (P:=P) H (hρ x _ hx) (hρ i _ hi) he hc;exact Yields.pure H (by simp[execOp,hr]) hw hs
  .cases he
 |mapUpdate t x i v=>
  simp only[lI]at he;split at he
  .rename_i sx si sv hx hi hv;obtain⟨w',hr,hw,hS⟩:=aHE (P:=P) H (hρ x _ hx) (hρ i _ hi) (hρ v _ hv) he hc;exact⟨.skip,w',m,undef,by simp[execOp,hr],.inr ⟨rfl,rfl⟩,hS,by rw[hw];exact .c (.val _)⟩
  .cases he
 |index t x i=>
  simp only[lI]at he;split at he
  .rename_i n e cs k j hu hx hi;split at he
   .rename_i ie hie;split at he
    .rename_i v hl;cases he;have hb:0<=j/\j<n:=iX (hc _ aj);obtain⟨vs,hev,hL⟩:=hρ x _ hx;have hv:=hρ i _ hi;generalize jF:a.eval i=v' at hv;cases hv with|c hv=>cases hv;obtain⟨u,hr,hs⟩:=aqb (P:=P) hL hl;exact Yields.pure H (v:=u) (by simp[execOp,hev,jF,Instr.index,asIntOf,run_underlying hu,hb.1,hb.2,AL hie,hr]) rfl hs
    .cases he
   .cases he
  .cases he
 |unOp op t x=>
  cases op<;>first|(cases he;done)|skip
  simp only[lI]at he;split at he
  .rename_i k n hx;cases he;have hv:=hρ x _ hx;generalize hev:a.eval x=v' at hv;cases hv with|c hv=>cases hv;exact Yields.pure H (v:=.int k _) (by simp[execOp,hev,Op.unary,Op.intBits]) rfl (.c (.val _))
  .cases he
 |makeFunc f first caps=>
  simp only[lI]at he;split at he
  .rename_i f' x hf;split at he
   .rename_i k off hx;rcases hb:Nat.beq caps.size 0 with _|_;rw[hb]at he;cases he;rw[hb]at he;cases he;have hc0:caps= #[]:=ab5 (eG hb);subst hc0;have hf1:first= #[x]:=by cases first;simp_all
    subst hf1;have hv:=hρ x _ hx;generalize hev:a.eval x=v at hv;cases hv with|pb _ _ b l hk hbk=>exact Yields.pure H (bK:={r:=.one (.s (.fb f' k off))}) (v:=.func (.func f') #[.pointer (some ⟨b,off,none⟩)] #[]) (by simp[execOp,Instr.makeFunc,hev]) rfl (.fb f' k off b l hk hbk)
   .cases he
  .cases he
 | call c=>
  obtain⟨callee,args,argTypes⟩:=c;simp only[lI]at he;split at he
  .rename_i x t ts ha ht;split at he
   .rename_i v hx;obtain⟨u,hr,hw,hs⟩:∃u,(Builtin.len_ (t::ts).toArray type #[a.eval x]).run P w=.ok u w/\bK.ws=[]/\eZ w m (MX X m h) bK.r u:=by
     split at he
     .rename_i e' h1;cases he;exact aHA (P:=P) H (ty:=type) (ts:=ts) (hρ x _ hx) h1
     .exact aHz (P:=P) H (ty:=type) (ts:=ts) (hρ x _ hx) he
    have e1:args= #[x]:=(by cases args;simp_all);have e2:argTypes=(t::ts).toArray:=(by cases argTypes;simp_all);subst e1;subst e2;exact Yields.pure H (by simp only[execOp,resolve,Sem.run_bind,Sem.run_pure,Result.andThen_ok,invoke,builtin];simp only[Jg,mH,yR];rw[hr];rfl) hw hs
   .cases he
  .rename_i s x t u' ha ht;split at he
   .rename_i sv xv e' hsv hxv hu';obtain⟨u,w',m',hr,hS,hs⟩:=aE0 (P:=P) (ty:=type) H hid hm hu' (hρ s _ hsv) (hρ x _ hxv) he hc;have e1:args= #[s,x]:=(by cases args;simp_all);have e2:argTypes= #[t,u']:=(by cases argTypes;simp_all);subst e1;subst e2;exact⟨.value u,w',m',u,by simp only[execOp,resolve,Sem.run_bind,Sem.run_pure,Result.andThen_ok,invoke,builtin];simp only[Jg,mH,yR];rw[hr];rfl,.inl rfl,hS,hs⟩
   .cases he
  .cases he
 |_=>cases he
end
theorem aol{P:Program}{id:Nat}{ρ:Operand->Option SV}{get get':Nat->aU}{o:Op}{e:Eff}(hg:∀k,(get k).live->get' k=get k)(he:lI P id ρ get o=some e):lI P id ρ get' o=some e:=by
 have hra:∀{k z n cs},get k=.ra z n cs->get' k=.ra z n cs:=λ{k z n cs} h=>by rw[hg k (by rw[h];trivial),h]
 have hms:∀{k es},get k=.ms es->get' k=.ms es:=λ{k es} h=>by rw[hg k (by rw[h];trivial),h]
 cases o with
 |load T a=>
  simp only[lI]at he⊢;split at he
  .rename_i p _;unfold aaR at he⊢;split at he
   .split at he
    .rename_i hk;rw[hra hk];exact he
    .cases he
   .cases he
  .cases he
 | store T a v=>
  simp only[lI]at he⊢;split at he
  .rename_i p v _ _;unfold aar at he⊢;rcases hi:P.info? T with _|i;rw[hi]at he;cases he;rw[hi]at he;simp only at he⊢;cases hb:(Nat.beq (kP v).length i.size&&(kP v).all SC.scalar)with
   |false=>rw[hb]at he;cases he
   |true=>
    rw[hb]at he;simp only[aY]at he⊢;split at he
    .split at he
     .rename_i hk;rw[hra hk];exact he
     .cases he
    .cases he
  .cases he
 | indexAddr t x i=>
  simp only[lI]at he⊢;split at he
  .unfold aaq at he⊢;split at he
   .split at he
    .split at he
     .rename_i hi hk;rw[hi,hra hk];exact he
     .cases he
    .cases he
   .cases he
  .cases he
 | call c=>
  simp only[lI]at he⊢;split at he
  .rename_i hc ha ht;split at he
   .rename_i x hx;have hlx:∀{t e'},Jj P get t x=some e'->Jj P get' t x=some e':=by
     intro t e' h;unfold Jj at h⊢;split at h
     .rename_i hu;split at h
      .split at h
       .rename_i hk;rw[hra hk];exact h
       .cases h
      .cases h
     .cases h
    split at he
    .rename_i e' h1;cases he;rw[hlx h1]
    .rename_i h1;have hn:∀{t},PN P get t x=some e->Jj P get' t x=none:=by
      intro t hq;clear he;unfold PN at hq;split at hq
      .rename_i hu;unfold Jj;simp only[hu]
      .cases hq
     rw[hn he];unfold PN at he⊢;split at he
     .split at he
      .rename_i hk;rw[hms hk];exact he
      .cases he
     .cases he
   .cases he
  .rename_i hc ha ht;split at he
   .unfold aac at he⊢;split at he
    .cases he
    .split at he
     .cases he
     .rename_i hs';have hs2:∀{z x r},Mq z get x=some r->Mq z get' x=some r:=by
       intro z x r h;unfold Mq at h⊢;split at h
       .split at h
        .rename_i hk;rw[hra hk];exact h
        .cases h
       .cases h
      rw[hs2 hs'];simp only at he⊢;split at he
      .split at he
       .rename_i hk;rw[hra hk];exact he
       .cases he
      .exact he
      .cases he
   .cases he
  .cases he
 | lookup t x i ok=>
  simp only[lI]at he⊢;split at he
  .unfold aaS at he⊢;split at he
   .split at he
    .split at he
     .rename_i hk;rw[hms hk];exact he
     .cases he
    .cases he
   .cases he
  .cases he
 | mapUpdate t x i v=>
  simp only[lI]at he⊢;split at he
  .unfold abx at he⊢;split at he
   .split at he
    .split at he
     .rename_i hk;rw[hms hk];exact he
     .cases he
    .cases he
   .cases he
  .cases he
 |makeMap t r=>cases r<;>exact he
 |unOp op t x=>cases op<;>exact he
 |_=>exact he
end
section
variable {v:Value}{o:Oper}{a:Act}
def CV.eqv(x y:CV):Prop:=
 match y with
 | .rd z' n' f'=>match x with
  | .rd z n f=>z=z'/\n=n'∧∀i,i<n->f i=f' i
  | .val (.slice _ 0 _)=>n'=0
  | .e0=>n'=0
  |_=>False
 | .ls t xs=>match x with
  | .rd z n f=>z=wd t/\n=xs.length∧∀i,i<n->f i=fE t xs i
  | .val (.slice _ 0 _)=>xs=[]
  | .e0=>xs=[]
  | .ls t' xs'=>CV.ls t' xs'=CV.ls t xs
  | .lW t' xs'=>CV.lW t' xs'=CV.lW t xs
  |_=>False
 | .lW t xs=>match x with
  | .val (.slice none 0 0)=>xs=[]
  | .ls t' (x'::xs')=>CV.ls t' (x'::xs')=CV.ls t xs
  | .lW t' xs'=>CV.lW t' xs'=CV.lW t xs
  |_=>False
 |y=>x=y
def SC.eqv(x y:SC):Prop:=
 match y with
 | .bot=>True
 | .c y=>match x with
  | .c x=>x.eqv y
  |_=>False
 |y=>x=y
def GL:List CV->List CV->Prop
 | [],[]=>True
 |x::xs,y::ys=>x.eqv y/\GL xs ys
 |_,_=>False
theorem CV.wJ(x:CV):x.eqv x:=by cases x with
 |rd z n f=>exact⟨rfl,rfl,λ_ _=>rfl⟩
 |_=>rfl
theorem SC.wJ(x:SC):x.eqv x:=by cases x with|c y=>exact y.wJ|bot=>trivial|_=>rfl
theorem AQ:∀xs:List CV,GL xs xs
 | []=>trivial
 |x::xs=>⟨x.wJ,AQ xs⟩
theorem apJ:∀{xs ys:List CV},GL xs ys->xs.length=ys.length∧∀(i:Nat) y,ys[i]? =some y→∃x,xs[i]? =some x/\x.eqv y
 | [],[],_=>⟨rfl,λi y h=>by simp at h⟩
 |x::xs,y::ys,⟨e,r⟩=>by obtain⟨q1,q2⟩:=apJ r;refine⟨by simp[q1],λi z hz=> ?_⟩;cases i with|zero=>simp at hz;subst hz;exact⟨x,rfl,e⟩|succ i=>simpa using q2 i z (aD hz)
 | [],_::_,h=>by cases h
 |_::_,[],h=>by cases h
def GN:List SC->List SC->Prop
 | [],[]=>True
 |x::xs,y::ys=>x.eqv y/\GN xs ys
 |_,_=>False
def AV.eqv:AV->AV->Prop
 | .s x,.s y=>x.eqv y
 | .agg xs,.agg ys=>GN xs ys
 |_,_=>False
def acf:List AV->List AV->Prop
 | [],[]=>True
 |x::xs,y::ys=>x.eqv y/\acf xs ys
 |_,_=>False
def SV.eqv:SV->SV->Prop
 | .one x,.one y=>x.eqv y
 | .mY xs,.mY ys=>acf xs ys
 |_,_=>False
def aU.eqv:aU->aU->Prop
 | .arr z n f,.arr z' n' f'=>z=z'/\n=n'∧∀i,i<n->GL (f i) (f' i)
 | .box xs,.box ys=>GN xs ys
 | .ms a,.ms b=>a=b
 | .ra z n xs,.ra z' n' ys=>z=z'/\n=n'/\GN xs ys
 | .dead,.dead=>True
 |_,_=>False
def zH:List (Nat×aU)->List (Nat×aU)->Prop
 | [],[]=>True
 |(k,o)::xs,(k',o')::ys=>k=k'/\o.eqv o'/\zH xs ys
 |_,_=>False
section
variable {w:World} {m:gV} {M:Mu}
theorem lC.arF{z n:Nat}{f f':Nat->List CV}(h:lC w M (.rd z n f) v)(hf:∀i,i<n->f i=f' i):lC w M (.rd z n f') v:=by cases h with|qm _ _ a cap=>exact .qm z f' a cap|rd _ _ _ b off cap c hb hs hn hl hc h1 iN=>exact .rd z n f' b off cap c hb hs hn (λi hi=>by rw[<-hf i hi];exact hl i hi) hc h1 (λi j x hi hx=>by rw[<-hf i hi]at hx;exact iN i j x hi hx)
theorem lC.eqv{x y:CV}(h:lC w M x v)(e:x.eqv y):lC w M y v:=by cases y with
 |rd z' n' f'=>cases x with
  |rd z n f=>obtain⟨rfl,rfl,hf⟩:=e;exact h.arF hf
  |e0=>have e:n'=0:=e;subst e;cases h with|e0 a=>exact .qm z' f' a 0
  |val u=>cases u with
   |slice a n c=>cases n with
    |zero=>have e:n'=0:=e;subst e;cases h;exact .qm z' f' a c
    |succ n=>exact False.elim e
   |_=>exact False.elim e
  |ls t xs=>exact False.elim e
  |lW t xs=>exact False.elim e
 |ls t xs=>cases x with
  |rd z n f=>obtain⟨rfl,rfl,hf⟩:=e;exact .ls t xs v (h.arF hf)
  |e0=>have e:xs=[]:=e;subst e;cases h with|e0 a=>exact .ls t [] _ (.qm _ _ a 0)
  |val u=>cases u with
   |slice a n c=>cases n with
    |zero=>have e:xs=[]:=e;subst e;cases h;exact .ls t [] _ (.qm _ _ a c)
    |succ n=>exact False.elim e
   |_=>exact False.elim e
  |ls t' xs'=>have e:CV.ls t' xs'=CV.ls t xs:=e;rw[<-e];exact h
  |lW t' xs'=>have e:CV.lW t' xs'=CV.lW t xs:=e;cases e;cases h with|lW _ _ _ h _=>exact .ls t xs v h
 |lW t xs=>cases x with
  |rd z n f=>exact False.elim e
  |e0=>exact False.elim e
  |val u=>cases u with
   |slice a n c=>cases a with|some a=>exact False.elim e|none=>cases n with|succ n=>exact False.elim e|zero=>cases c with|succ c=>exact False.elim e|zero=>have e:xs=[]:=e;subst e;cases h;exact .lW t [] _ (.qm _ _ none 0) (λ_=>rfl)
   |_=>exact False.elim e
  |ls t' xs'=>rcases xs' with _|⟨x',xs'⟩;exact False.elim e;have e:CV.ls t' (x'::xs')=CV.ls t xs:=e;cases e;cases h with|ls _ _ _ h=>exact .lW t _ v h (λh=>by cases h)
  |lW t' xs'=>have e:CV.lW t' xs'=CV.lW t xs:=e;rw[<-e];exact h
 |val u=>have e:x=_:=e;subst e;exact h
 |e0=>have e:x=_:=e;subst e;exact h
theorem dU.eqv{x y:SC}{v:Value}(h:dU w m M x v)(e:x.eqv y):dU w m M y v:=by cases y with
 |bot=>exact .bot v
 |c y=>cases x with
  |c x=>cases h with|c h=>exact .c (h.eqv e)
  |_=>exact False.elim e
 |_=>have e:x=_:=e;subst e;exact h
theorem ahw:∀{xs ys:List SC},GN xs ys->xs.length=ys.length∧∀(i:Nat) y,ys[i]? =some y→∃x,xs[i]? =some x/\x.eqv y
 | [],[],_=>⟨rfl,λi y h=>by simp at h⟩
 |x::xs,y::ys,⟨e,r⟩=>by obtain⟨q1,q2⟩:=ahw r;refine⟨by simp[q1],λi z hz=> ?_⟩;cases i with|zero=>simp at hz;subst hz;exact⟨x,rfl,e⟩|succ i=>simpa using q2 i z (aD hz)
 | [],_::_,h=>by cases h
 |_::_,[],h=>by cases h
theorem nY.eqv{xs ys:List SC}{vs:Array Value}(h:nY w m M xs vs)(e:GN xs ys):nY w m M ys vs:=by obtain⟨q1,q2⟩:=ahw e;refine⟨by rw[h.1,q1],λi y hy=> ?_⟩;obtain⟨x,hx,WZ⟩:=q2 i y hy;exact(h.2 i x hx).eqv WZ
theorem jo.eqv{x y:AV}{v:Value}(h:jo w m M x v)(e:x.eqv y):jo w m M y v:=by cases x with
 |s x=>cases y with|s y=>exact dU.eqv h e|agg=>cases e
 |agg xs=>cases y with
  |s y=>cases e
  |agg ys=>obtain⟨vs,rfl,hL⟩:=h;exact⟨vs,rfl,hL.eqv e⟩
theorem apI:∀{xs ys:List AV},acf xs ys->xs.length=ys.length∧∀(i:Nat) y,ys[i]? =some y→∃x,xs[i]? =some x/\x.eqv y
 | [],[],_=>⟨rfl,λi y h=>by simp at h⟩
 |x::xs,y::ys,⟨e,r⟩=>by obtain⟨q1,q2⟩:=apI r;refine⟨by simp[q1],λi z hz=> ?_⟩;cases i with|zero=>simp at hz;subst hz;exact⟨x,rfl,e⟩|succ i=>simpa using q2 i z (aD hz)
 | [],_::_,h=>by cases h
 |_::_,[],h=>by cases h
theorem eZ.eqv{x y:SV}{v:Value}(h:eZ w m M x v)(e:x.eqv y):eZ w m M y v:=by cases x with
 |one x=>cases y with|one y=>exact jo.eqv h e|mY=>cases e
 |mY xs=>cases y with
  |one y=>cases e
  |mY ys=>obtain⟨vs,rfl,hz,hs⟩:=h;obtain⟨q1,q2⟩:=apI e;refine⟨vs,rfl,by rw[hz,q1],λi y hy=> ?_⟩;obtain⟨x,hx,WZ⟩:=q2 i y hy;exact(hs i x hx).eqv WZ
theorem aU.aap{o o':aU}(e:o.eqv o'):o.live ↔ o'.live:=by cases o<;>cases o'<;>first|(cases e;done)|exact Iff.rfl
theorem yc.eqv{k:Nat}{o o':aU}(h:yc w m M k o)(e:o.eqv o'):yc w m M k o':=by cases o with
 |dead=>cases o'<;>first|(cases e;done)|trivial
 |ms es=>cases o' with|ms es'=>have e:es=es':=e;rw[<-e];exact h|_=>cases e
 |ra z n xs=>cases o' with
  |ra z' n' ys=>obtain⟨rfl,rfl,hx⟩:=e;obtain⟨l,b,T,vs,e1,e2,e3,e4,e5,e6,e7,e8,e9,e10⟩:=h;obtain⟨q1,q2⟩:=ahw hx;refine⟨l,b,T,vs,e1,e2,e3,e4,e5,e6,e7,e8,by rw[<-q1];exact e9,λi y hy=> ?_⟩;obtain⟨x,hx,WZ⟩:=q2 i y hy;exact(e10 i x hx).eqv WZ
  |_=>cases e
 |box xs=>cases o' with
  |box ys=>obtain⟨l,b,T,vs,e1,e2,e3,e4,e5⟩:=h;exact⟨l,b,T,vs,e1,e2,e3,e4.eqv e,e5⟩
  |_=>cases e
 |arr z n f=>cases o' with
  |arr z' n' f'=>obtain⟨rfl,rfl,hf⟩:=e;obtain⟨l,e1,e2,e3,e4,e5⟩:=h;refine⟨l,e1,e2,e3,e4,λb hb=> ?_⟩;obtain⟨e6,T,vs,e7,e8,e9,e10⟩:=e5 b hb;refine⟨e6,T,vs,e7,e8,e9,λi hi=> ?_⟩;obtain⟨q1,q2⟩:=apJ (hf i hi);refine⟨by rw[<-q1];exact(e10 i hi).1,λj x hx=> ?_⟩;obtain⟨y,hy,hxy⟩:=q2 j x hx;exact((e10 i hi).2 j y hy).eqv hxy
  |_=>cases e
end
def wX(h h':List aU):Prop:=h.length=h'.length∧∀(k:Nat) o',h'[k]? =some o'→∃o,h[k]? =some o/\o.eqv o'
theorem aU.wJ(o:aU):o.eqv o:=by cases o with
 |dead=>trivial
 |ms es=>exact rfl
 |box xs=>show GN xs xs;induction xs with|nil=>trivial|cons x xs ih=>exact⟨x.wJ,ih⟩
 |arr z n f=>exact⟨rfl,rfl,λi _=>AQ (f i)⟩
 |ra z n xs=>refine⟨rfl,rfl,?_⟩;induction xs with|nil=>trivial|cons x xs ih=>exact⟨x.wJ,ih⟩
theorem wX.refl(h:List aU):wX h h:=⟨rfl,λk o ho=>⟨o,ho,o.wJ⟩⟩
theorem wX.set{h h':List aU}(e:wX h h')(k:Nat){o o':aU}(ho:o.eqv o'):wX (h.set k o) (h'.set k o'):=by
 refine⟨by simp[e.1],λj x hx=> ?_⟩;by_cases hj:k=j
 .subst hj;have hlt:=iF hx;simp at hlt;rw[uq hlt]at hx;cases hx;exact⟨o,uq (by rw[e.1];exact hlt),ho⟩
 .rw[su hj]at hx;rw[su hj];exact e.2 j x hx
theorem wX.as0:∀{ws ws':List (Nat×aU)} {h h':List aU},wX h h'->zH ws ws'->wX (eX h ws) (eX h' ws')
 | [],[],h,h',e,_=>e
 |(k,o)::ws,(k',o')::ws',h,h',e,⟨hk,ho,hr⟩=>by subst hk;show wX (eX (h.set k o) ws) (eX (h'.set k o') ws');exact wX.as0 (wX.set e k ho) hr
 | [],_::_,_,_,_,h=>by cases h
 |_::_,[],_,_,_,h=>by cases h
theorem iO.eqv{m:gV}{h h':List aU}(e:wX h h')(b:Nat):iO m h b ↔ iO m h' b:=by
 constructor
 .rintro⟨k,o,l,hk,hl,r⟩;have hlt:k<h'.length:=by rw[<-e.1];exact iF hk
  obtain⟨o2,ho2,he⟩:=e.2 k h'[k] (jR hlt);rw[hk]at ho2;cases ho2;exact⟨k,h'[k],l,jR hlt,(aU.aap he).1 hl,r⟩
 .rintro⟨k,o,l,hk,hl,r⟩;obtain⟨o2,ho2,he⟩:=e.2 k o hk;exact⟨k,o2,l,ho2,(aU.aap he).2 hl,r⟩
theorem MX.eqv{X:Mu}{m:gV}{h h':List aU}(e:wX h h'):MX X m h=MX X m h':=by funext b;simp only[MX,iO.eqv e b]
theorem fJ.eqv{X:Mu}{w:World}{m:gV}{h h':List aU}(H:fJ X w m h)(e:wX h h'):fJ X w m h':=by
 refine⟨λk o hk=> ?_,λk k' o o' l l' b h1 h2 h3 h4 h5 h6 h7 h8=> ?_,λk hk=>H.used k (by rw[e.1];exact hk),λb hb=>H.uL b ((iO.eqv e b).2 hb),H.xlt⟩
 .obtain⟨o2,ho2,he⟩:=e.2 k o hk;rw[<-MX.eqv e];exact(H.obj k o2 ho2).eqv he
 .obtain⟨o2,ho2,he2⟩:=e.2 k o h1;obtain⟨o3,ho3,he3⟩:=e.2 k' o' h2;exact H.inj k k' o2 o3 l l' b ho2 ho3 ((aU.aap he2).2 h3) ((aU.aap he3).2 h4) h5 h6 h7 h8
theorem Stp.eqv{X:Mu}{w w':World}{m m':gV}{h h' h'':List aU}(S:Stp X w m h w' m' h')(e:wX h' h''):Stp X w m h w' m' h'':=
 ⟨S.rel.eqv e,by rw[<-MX.eqv e];exact S.later,S.os,S.tape,S.output,S.keep,λb hb=>S.mt b ((iO.eqv e b).2 hb),λk h1 h2 h3=>S.nw k h1 (by obtain⟨o,ho,he⟩:=e.2 k _ h2;cases o with|dead=>exact ho|_=>cases he) h3⟩
def Gz(P:Program)(f:FuncId)(args:List SV)(objs:List (Nat×aU))(r:SV)(ws:List (Nat×aU)):Prop:=
 (∀(vs:Array Value) (w:World),(callFunc f vs).run P w=.ok (.enter f vs) w)∧
 ∀(X:Mu) (w:World) (m:gV) (h:List aU) (vs:List Value),fJ X w m h->(∀k o,(k,o)∈objs->h[k]? =some o)→
  (∀k o,(k,o)∈ws->(∃o',(k,o')∈objs)\/(h[k]? =some .dead/\m k=none))->jY (eZ w m (MX X m h)) args vs→
  Calls P f vs.toArray w λe w'=>∃v m',e=.returned v/\Stp X w m h w' m' (eX h ws)/\eZ w' m' (MX X m' (eX h ws)) r v
inductive oJ where
 |ov (r:SV)
 |Xi (r:SV) (ws:List (Nat×aU))
 |xo
 |call (r:SV) (ks:List Nat) (ws:List (Nat×aU))
def oD:List (Nat×oJ)->Nat->Option oJ
 | [],_=>none
 |(j,o)::r,i=>bif Nat.beq j i then some o else oD r i
def Cv(ρ:Operand->Option SV):List Operand->Option (List SV)
 | []=>some []
 |x::r=>match ρ x,Cv ρ r with
  |some s,some l=>some (s::l)
  |_,_=>none
def ajV:SV->Option (FuncId×List SV)
 | .one (.s (.c (.val (.func (.func f) first caps))))=>bif Nat.beq first.size 0&&Nat.beq caps.size 0 then some (f,[])else none
 | .one (.s (.fn f ks))=>some (f,ks.map λk=> .one (.s (.pb k 0)))
 |_=>none
def Ev(k:Nat):List (Nat×aU)->Bool
 | []=>false
 |(j,_)::r=>Nat.beq j k||Ev k r
def Vy(fv:SV)(as':List SV):Option (FuncId×List SV):=
 match fv with
 | .one (.s (.fb f k off))=>some (f,.one (.s (.pb k off))::as')
 |_=>match ajV fv with
  |some (f,caps)=>some (f,as'++caps)
  |none=>none
def Js(id:Nat)(objs:List (Nat×aU)):List (Nat×aU)->Bool
 | []=>true
 |(k,_)::r=>(Ev k objs||(Nat.ble id k&&Nat.blt k (id+64)))&&Js id objs r
def mD(get:Nat->aU):List Nat->List (Nat×aU)
 | []=> []
 |k::r=>(k,get k)::mD get r
def Gv:List (Nat×aU)->Bool
 | []=>true
 |(_,.dead)::_=>false
 |_::r=>Gv r
def Dh(l:List Bool):List Prop:=l.map (· =true)
theorem aaH{l:List Bool}(h:∀q∈Dh l,q):∀b∈l,b=true:=λb hb=>h _ (qw.2 ⟨b,hb,rfl⟩)
def p8(P:Program)(id:Nat)(ρ:Operand->Option SV)(get:Nat->aU)(o:Op)(cB:Option oJ):Option Eff:=
 match cB with
 |none=>match evalOp P id ρ get o with
  |some e=>some {r:=e.r,ws:=e.ws,cs:=Dh e.bs}
  |none=>none
 |some (.ov r)=>match evalOp P id ρ get o with
  |some e=>some {r:=r,ws:=e.ws,cs:=Dh e.bs++ [e.r.eqv r]}
  |none=>none
 |some (.Xi r ws)=>match evalOp P id ρ get o with
  |some e=>some {r:=r,ws:=ws,cs:=Dh e.bs++ [e.r.eqv r,zH e.ws ws]}
  |none=>none
 |some .xo=>match lI P id ρ get o with
  |some e=>some {r:=e.r,ws:=e.ws,cs:=Dh e.bs}
  |none=>none
 | some (.call r ks ws)=>match o with
  | .call c=>match c.callee with
   | .value fo=>match ρ fo,Cv ρ c.args.toList with
    |some fv,some as'=>match Vy fv as' with
     |some (f,all)=>bif Js id (mD get ks) ws&&Gv (mD get ks)then some {r:=r,ws:=ws,cs:=[Gz P f all (mD get ks) r ws]}else none
     |none=>none
    |_,_=>none
   |_=>none
  |_=>none
def Wd(P:Program)(X:Mu)(w:World)(m:gV)(h:List aU)(o:Oper)(a:Act)(ws:List (Nat×aU))(r:SV):Prop:=
 ∀(K:Act->World->Prop) (Q:Exit->Act->World->Prop),
  (∀w' m' v,Stp X w m h w' m' (eX h ws)->eZ w' m' (MX X m' (eX h ws)) r v->K (a.put o.dst v) w')->o.wp P a w K Q
theorem Yields.ok{P:Program}{X:Mu}{w:World}{m:gV}{h:List aU}{ws:List (Nat×aU)}{r:SV}(hy:Yields P X w m h o a ws r):Wd P X w m h o a ws r:=by
 intro K Q hK;obtain⟨nx,w',m',v,hr,hn,hS,hs⟩:=hy;unfold Oper.wp;rw[hr];rcases hn with rfl|⟨rfl,rfl⟩
 .exact hK w' m' v hS hs
 .exact hK w' m' undef hS hs
theorem Wd.eqv{P:Program}{X:Mu}{w:World}{m:gV}{h:List aU}{o:Oper}{a:Act}{ws ws':List (Nat×aU)}{r r':SV}(hy:Wd P X w m h o a ws r)(hw:zH ws ws')(hr:r.eqv r'):
  Wd P X w m h o a ws' r':=by
 intro K Q hK;have e:=wX.as0 (wX.refl h) hw;refine hy K Q (λw' m' v hS hs=>hK w' m' v (hS.eqv e) ?_);rw[<-MX.eqv e];exact hs.eqv hr
theorem ag6:∀ws:List (Nat×aU),zH ws ws
 | []=>trivial
 |(k,o)::r=>⟨rfl,o.wJ,ag6 r⟩
theorem aoH{w:World}{m:gV}{M:Mu}{ρ:Operand->Option SV}{ev:Operand->Value}(hρ:∀x s,ρ x=some s->eZ w m M s (ev x)):∀{xs:List Operand} {l:List SV},Cv ρ xs=some l->jY (eZ w m M) l (xs.map ev)
 | [],l,hv=>by simp[Cv]at hv;subst hv;exact .nil
 |x::xs,l,hv=>by
  simp only[Cv]at hv;split at hv
  .rename_i s l' h1 h2;cases hv;exact .cons (hρ x _ h1) (aoH hρ h2)
  .cases hv
theorem jY.append{α β:Type}{R:α->β->Prop}:∀{l l':List α} {r r':List β},jY R l r->jY R l' r'->jY R (l++l') (r++r')
 |_,_,_,_,.nil,h=>h
 |_,_,_,_,.cons h t,h'=> .cons h (jY.append t h')
theorem aop{k:Nat}:∀{l:List (Nat×aU)},Ev k l=true→∃o,(k,o)∈l
 | [],h=>by cases h
 |(j,o)::r,h=>by
  simp only[Ev,pO]at h;rcases h with h|h
  .have:=eG h;subst this;exact⟨o,aj⟩
  .obtain⟨o',ho⟩:=aop h;exact⟨o',by simp[ho]⟩
theorem aor{id:Nat}{objs:List (Nat×aU)}:∀{ws:List (Nat×aU)},Js id objs ws=true→∀k o,(k,o)∈ws->(∃o',(k,o')∈objs)\/(id<=k/\k<id+64)
 | [],_,k,o,h=>by cases h
 | (j,o')::r,hn,k,o,h=>by simp only[Js,dQ,pO]at hn;obtain⟨h1,h2⟩:=hn;cases h with
  |head=>
   rcases h1 with h1|⟨h1,h3⟩
   .exact .inl (aop h1)
   .refine .inr ⟨qN h1,?_⟩;simp only[Nat.blt]at h3;exact qN h3
  |tail _ h=>exact aor h2 k o h
theorem Zx:∀{l:List (Nat×aU)},Gv l=true→∀k o,(k,o)∈l->o.live
 | [],_,k,o,h=>by cases h
 | (j,o')::r,hl,k,o,h=>by cases h with
  |head=>cases o' with
   |dead=>cases hl
   |_=>trivial
  |tail _ h=>cases o' with
   |dead=>cases hl
   |_=>exact Zx (l:=r) hl k o h
theorem anW{get:Nat->aU}:∀{l:List Nat} {k:Nat} {o:aU},(k,o)∈mD get l->get k=o
 | [],_,_,h=>by cases h
 |j::r,k,o,h=>by cases h with|head=>rfl|tail _ h=>exact anW h
theorem anH{get get':Nat->aU}(hg:∀k,(get k).live->get' k=get k):∀{l:List Nat},Gv (mD get l)=true->mD get' l=mD get l
 | [],_=>rfl
 |k::r,h=>by
  have h1:=Zx h k (get k) (by simp[mD]);have h2:Gv (mD get r)=true:=by simp only[mD]at h;generalize get k=o at h h1;cases o with|dead=>exact h1.elim|_=>exact h
  simp only[mD,hg k h1,anH hg h2]
section
variable {P:Program} {X:Mu} {w:World} {m:gV} {h:List aU}
theorem aEQ(H :fJ X w m h){id:Nat}(hid:∀k,id<=k->k<id+64->h[k]? =some .dead/\m k=none){ρ:Operand->Option SV}{cB:Option oJ}
  (hρ:∀x s,ρ x=some s->eZ w m (MX X m h) s (a.eval x)) {bK:Eff} (he:p8 P id ρ (eB h) o.op cB=some bK) (hc:∀q∈bK.cs,q):
  Wd P X w m h o a bK.ws bK.r:=by
 obtain⟨hd,hm⟩:=hid id (gy _) ah;cases cB with
 |none=>simp only[p8]at he;rcases hv:evalOp P id ρ (eB h) o.op with _|e;rw[hv]at he;cases he;rw[hv]at he;cases he;exact(agj H hd hm hρ hv (aaH hc)).ok
 | some cB => cases cB with
  |ov r=>simp only[p8]at he;rcases hv:evalOp P id ρ (eB h) o.op with _|e;rw[hv]at he;cases he;rw[hv]at he;cases he;exact(agj H hd hm hρ hv (aaH λq hq=>hc q (by simp[hq]))).ok.eqv (ag6 _) (hc _ aj)
  |Xi r ws=>simp only[p8]at he;rcases hv:evalOp P id ρ (eB h) o.op with _|e;rw[hv]at he;cases he;rw[hv]at he;cases he;exact(agj H hd hm hρ hv (aaH λq hq=>hc q (by simp[hq]))).ok.eqv (hc _ aj) (hc _ aj)
  |xo=>simp only[p8]at he;rcases hv:lI P id ρ (eB h) o.op with _|e;rw[hv]at he;cases he;rw[hv]at he;cases he;exact(aGr H hd hm hρ hv (aaH hc)).ok
  | call r ks ws=>
   obtain⟨dst,op,type,pos,after,guard⟩:=o;simp only[p8]at he;generalize ajF:mD (eB h) ks=objs at he;cases op<;>first|(cases he;done)|skip
   rename_i c;obtain⟨callee,args,argTypes⟩:=c;simp only at he;cases callee<;>first|(cases he;done)|skip
   rename_i fo;simp only at he;rcases hf:ρ fo with _|fv;rw[hf]at he;cases he;rcases has:Cv ρ args.toList with _|as';rw[hf,has]at he;cases he;rw[hf,has]at he;simp only at he;rcases hfn:Vy fv as' with _|q;rw[hfn]at he;cases he;obtain⟨f,all⟩:=q;rw[hfn]at he;simp only at he;rcases hb:Js id objs ws&&Gv objs with _|_;rw[hb]at he;cases he;rw[hb]at he;simp only[aY]at he;cases he;simp only[dQ]at hb;have hcall:Gz P f all objs r ws:=hc _ aj;have CW:∀k o,(k,o)∈objs->h[k]? =some o:=λk o hk=>
    oP (anW (by rw[ajF];exact hk)) (Zx hb.2 k o hk)
   obtain ⟨fvs,Hl,hcv,hargs⟩:∃fvs Hl:List Value,a.eval fo= .func (.func f) fvs.toArray Hl.toArray/\jY (eZ w m (MX X m h)) all (fvs++(args.toList.map a.eval++Hl)):=by
    have hs:=hρ fo _ hf;have ha:=aoH hρ has;unfold Vy at hfn;split at hfn
    .rename_i f' k off;cases hfn;generalize a.eval fo=v at hs;cases hs with|fb _ _ _ b l hk hb'=>exact⟨[_],[],rfl,.cons (.pb k off b l hk hb') (by rw[nE];exact ha)⟩
    .rcases hfn':ajV fv with _|q;rw[hfn']at hfn;cases hfn;obtain⟨f2,caps⟩:=q;rw[hfn']at hfn;cases hfn;suffices∃Hl:List Value,a.eval fo= .func (.func f) #[] Hl.toArray/\jY (eZ w m (MX X m h)) caps Hl by obtain⟨Hl,e1,e2⟩:=this;exact⟨[],Hl,e1,ha.append e2⟩
     unfold ajV at hfn';split at hfn'
     .rename_i f' first aLN hno
      rcases hz:Nat.beq first.size 0&&Nat.beq aLN.size 0 with _|_;rw[hz]at hfn';cases hfn';rw[hz]at hfn';cases hfn';simp only[dQ]at hz;have h1:=ab5 (eG hz.1);have h2:=ab5 (eG hz.2);subst h1;subst h2;generalize a.eval fo=v at hs;cases hs with|c hs=>cases hs;exact⟨[],rfl,.nil⟩
     .rename_i f' ks hno;cases hfn';generalize a.eval fo=v at hs;cases hs with
      |fn _ _ vs hsz hk=>
       refine⟨vs.toList,aj,?_⟩
       have:∀(ks:List Nat) (l:List Value),l.length=ks.length->(∀(i:Nat) k,ks[i]? =some k→∃lo b,m k=some lo/\lo.blk=some b/\l[i]? =some (.pointer (some ⟨b,0,none⟩)))→
         jY (eZ w m (MX X m h)) (ks.map λk=>SV.one (.s (.pb k 0))) l:=by
        intro ks;induction ks with|nil=>intro l hl _;have:l=[]:=Jf (aD hl);subst this;exact .nil|cons k ks ih=>intro l hl hk;rcases l with _|⟨v,l⟩;simp at hl;obtain⟨lo,b,e1,e2,e3⟩:=hk 0 k rfl;simp at e3;subst e3;refine .cons (.pb k 0 b lo e1 e2) (ih l (aD hl) (λi k' hi=> ?_));have:=hk (i+1) k' (aD hi);simpa using this
       exact this ks vs.toList (aD hsz) (λi k hi=>by obtain⟨lo,b,e1,e2,e3⟩:=hk i k hi;exact⟨lo,b,e1,e2,aD e3⟩)
     .cases hfn'
   have hC:=hcall.2 X w m h _ H CW (λk o hk=>by
    rcases aor hb.1 k o hk with h1|h1
    .exact .inl h1
    .exact .inr (hid k h1.1 h1.2)) hargs
   intro K Q hK;unfold Oper.wp;have hrun:(execOp a.eval ⟨dst,.call ⟨.value fo,args,argTypes⟩,type,pos,after,guard⟩).run P w=.ok (.enter f (fvs++(args.toList.map a.eval++Hl)).toArray) w:=(by simp only[execOp,resolve,Sem.run_bind,hcv,Deferred.ofValue,Sem.run_pure,Result.andThen_ok,invoke];rw[hcall.1];congr 2;apply LK;simp);rw[hrun];simp only[Oper.upon];refine hC.mono (λe w' he=> ?_);obtain⟨v,m',rfl,hS,hs⟩:=he;exact hK w' m' v hS hs
end
end
structure zL(X:Mu)(w:World)(m:gV)(h:List aU)(w':World)(m':gV)(h':List aU):Prop where
  rel:fJ X w' m' h'
  later:Later w m (MX X m h) w' m' (MX X m' h')
  os:w'.os=w.os
  tape:w'.tape=w.tape
  output:oG w w'
  keep:∀b,b<w.heap.size→¬iO m h b->w'.heap[b]? =w.heap[b]?
  mt:∀b,iO m' h' b->iO m h b\/w.heap.size<=b
theorem Stp.far{X:Mu}{w w':World}{m m':gV}{h h':List aU}(s:Stp X w m h w' m' h'):zL X w m h w' m' h':=⟨s.rel,s.later,s.os,s.tape,s.output,s.keep,s.mt⟩
theorem zL.refl{X:Mu}{w:World}{m:gV}{h:List aU}(H:fJ X w m h):zL X w m h w m h:=
  ⟨H,Later.refl,rfl,rfl,oG.same _,λ_ _ _=>rfl,λ_ hb=> .inl hb⟩
theorem zL.trans{X:Mu}{w w' w'':World}{m m' m'':gV}{h h' h'':List aU}(a:zL X w m h w' m' h')(b:zL X w' m' h' w'' m'' h''):zL X w m h w'' m'' h'':=by
  refine⟨b.rel,a.later.trans b.later,b.os.trans a.os,b.tape.trans a.tape,a.output.trans b.output,λk hk hM=> ?_,λk hk=> ?_⟩
  · have hs:=a.later.size;rw[b.keep k ah (λhM'=>by rcases a.mt k hM' with h1|h1;exact hM h1;omega),a.keep k hk hM]
  · rcases b.mt k hk with h1|h1
    · exact a.mt k h1
    · exact .inr (vv a.later.size h1)
theorem Zv{P : Program}{id:Nat}{ρ:Operand->Option SV}{get get':Nat->aU}{o:Op}{e:Eff}(hg:∀k,(get k).live->get' k=get k)(he:evalOp P id ρ get o=some e):evalOp P id ρ get' o=some e:=by
  have atV:∀{k cs},get k=.box cs->get' k=.box cs:=λ{k cs} h=>by rw[hg k (by rw[h];trivial),h]
  have harr:∀{k z n f},get k=.arr z n f->get' k=.arr z n f:=λ{k z n f} h=>by rw[hg k (by rw[h];trivial),h]
  have hvw:∀x,vw get' x=vw get x∨∃k,vw get x=.own k:=by intro x;cases x with
    |own k=>simp only[vw];cases hk:get k with|arr z n f=>rw[harr hk];exact .inl rfl|box=>exact .inr ⟨k,rfl⟩|ra=>exact .inr ⟨k,rfl⟩|ms=>exact .inr ⟨k,rfl⟩|dead=>exact .inr ⟨k,rfl⟩
    |c y=>cases y<;>exact .inl rfl
    |_=>exact .inl rfl
  have hsrc:∀{z x r},qB z get x=some r->qB z get' x=some r:=by intro z x r hr;cases x with
    |sl k lo len=>simp only[qB,Ct]at hr⊢;cases hk:get k with
      |arr z' n f=>rw[hk]at hr;rw[harr hk];exact hr
      |box=>rw[hk]at hr;cases hr
      |ra z1 n1 cs1=>rw[hk]at hr;cases hr
      |ms es1=>rw[hk]at hr;cases hr
      |dead=>rw[hk]at hr;cases hr
    |own k=>simp only[qB]at hr⊢;cases hk:get k with
      |arr z' n f=>rw[hk]at hr;rw[harr hk];exact hr
      |box=>rw[hk]at hr;cases hr
      |ra z1 n1 cs1=>rw[hk]at hr;cases hr
      |ms es1=>rw[hk]at hr;cases hr
      |dead=>rw[hk]at hr;cases hr
    |c y=>cases y<;>exact hr
    |_=>exact hr
  have hdst:∀{z x r},Bh z get x=some r->Bh z get' x=some r:=by intro z x r hr;unfold Bh at hr⊢;cases x with
    |own k=> simp only at hr⊢;cases hk:get k with
        |arr z' n f=>rw[hk]at hr;rw[harr hk];exact hr
        |box=>rw[hk]at hr;cases hr
        |ra z1 n1 cs1=>rw[hk]at hr;cases hr
        |ms es1=>rw[hk]at hr;cases hr
        |dead=>rw[hk]at hr;cases hr
    |_=>exact hr
  cases o with
  | load T a=>
    simp only[evalOp]at he⊢;split at he
    · rename_i p hp;unfold abv at he⊢;cases p with
      |pb k off=>simp only at he⊢;cases hk:get k with
        |box cs=>rw[hk]at he;rw[atV hk];exact he
        |arr=>rw[hk]at he;cases he
        |ra z1 n1 cs1=>rw[hk]at he;cases he
        |ms es1=>rw[hk]at he;cases he
        |dead=>rw[hk]at he;cases he
      |pe k i off=>simp only at he⊢;cases hk:get k with
        |arr z n f=>rw[hk]at he;rw[harr hk];exact he
        |box=>rw[hk]at he;cases he
        |ra z1 n1 cs1=>rw[hk]at he;cases he
        |ms es1=>rw[hk]at he;cases he
        |dead=>rw[hk]at he;cases he
      |_=>exact he
    · cases he
  | store T a v=>
    simp only[evalOp]at he⊢;split at he
    · rename_i p v' hp hv;unfold Vb at he⊢;rcases hi:P.info? T with _|i;rw[hi]at he;cases he;rw[hi]at he;simp only at he⊢;cases hb:(Nat.beq (kP v').length i.size&&(kP v').all SC.scalar)with
      |false=>rw[hb]at he;cases he
      | true=> rw[hb]at he;simp only[aY]at he⊢;cases p with
        |pb k off=>simp only at he⊢;cases hk:get k with
          |box cs=>rw[hk]at he;rw[atV hk];exact he
          |arr=>rw[hk]at he;cases he
          |ra z1 n1 cs1=>rw[hk]at he;cases he
          |ms es1=>rw[hk]at he;cases he
          |dead=>rw[hk]at he;cases he
        |pe k j off=>simp only at he⊢;cases hk:get k with
          |arr z n f=>rw[hk]at he;rw[harr hk];exact he
          |box=>rw[hk]at he;cases he
          |ra z1 n1 cs1=>rw[hk]at he;cases he
          |ms es1=>rw[hk]at he;cases he
          |dead=>rw[hk]at he;cases he
        |_=>exact he
    · cases he
  | slice t x lo hi mx=>
    simp only[evalOp]at he⊢;split at he
    · rename_i p lo' hi' mx' hx h1 h2 h3;unfold aaT at he⊢;have hno:∀k,vw get p≠.own k:=by
        intro k hk;rw[hk]at he;unfold O5 at he;split at he
        · split at he
          · cases he
          · split at he
            · split at he
              · rename_i hl;simp[lenOf]at hl
              · rename_i hl;simp[lenOf]at hl
              · cases he
            · cases he
        · cases he
        · cases he
      have hv:vw get' p=vw get p:=by
        rcases hvw p with hv|⟨k,hv⟩
        · exact hv
        · exact absurd hv (hno k)
      rw[hv];generalize vw get p=p at he;unfold O5 at he⊢;rcases hu:P.underlying t with _|d;rw[hu]at he;cases he;rw[hu]at he;cases d with
      | slice e'=> simp only at he⊢;rcases hie:P.info? e' with _|ie;rw[hie]at he;cases he;rw[hie]at he;simp only at he⊢;cases mx' with
        |some m=>exact he
        | none=> simp only at he⊢;cases p with
          |sl k l len=>simp only at he⊢;cases hk:get k with
            |arr z n f=>rw[hk]at he;rw[harr hk];exact he
            |box=>rw[hk]at he;cases he
            |ra z1 n1 cs1=>rw[hk]at he;cases he
            |ms es1=>rw[hk]at he;cases he
            |dead=>rw[hk]at he;cases he
          |c y=>cases y<;>exact he
          |_=>exact he
      |_=>exact he
    · cases he
  | convert s d x=>
    simp only[evalOp]at he⊢;split at he
    · exact he
    · exact he
    · rename_i e k h1 h2 h3;cases hk:get k with
      |arr z n f=>rw[hk]at he;rw[harr hk];exact he
      |box=>rw[hk]at he;cases he
      |ra z1 n1 cs1=>rw[hk]at he;cases he
      |ms es1=>rw[hk]at he;cases he
      |dead=>rw[hk]at he;cases he
    · cases he
  | indexAddr t x i=>
    simp only[evalOp]at he⊢;split at he
    · rename_i p k n hx hi;cases p with
      | own k=>
        simp only[Un]at he⊢;split at he
        · split at he
          · rename_i h1 h2;rw[h1,harr h2];exact he
          · cases he
        · cases he
      |_=>
      try (rename_i y;cases y)
      all_goals simp only[Un]at he⊢
      all_goals unfold Ov at he⊢
      all_goals
        rcases hu:P.underlying t with _|d;rw[hu]at he;cases he;rw[hu]at he;cases d with
        | slice e'=>
          simp only at he⊢;rcases hie:P.info? e' with _|ie;rw[hie]at he;cases he;rw[hie]at he;simp only at he⊢
          first
            |exact he
            | (split at he
               · rename_i hk;rw[harr hk];exact he
               · cases he)
        |_=>exact he
    · cases he
  | call c=> simp only[evalOp]at he⊢;cases EJ:c.callee with
    |value f=>rw[EJ]at he;cases he
    |invoke r n=>rw[EJ]at he;cases he
    | builtin b =>
      rw[EJ]at he;simp only at he⊢;unfold I6 at he⊢;split at he
      · split at he
        · rename_i v hv;unfold abT at he⊢;split at he
          · exact he
          · split at he
            · rename_i y;rcases hvw y with hy|⟨k,hy⟩
              · rw[hy];exact he
              · rw[hy]at he;simp[lenOf]at he
            · cases he
          · exact he
          · cases he
        · cases he
      · split at he
        · rename_i s x u h1 h2 h3;unfold OZ at he⊢;split at he
          · rename_i k lo n1;unfold PL at he⊢;split at he
            · cases he
            · split at he
              · rename_i mm g c2 hs;rw[hsrc hs];split at he
                · rename_i hk;rw[harr hk];exact he
                · cases he
              · cases he
          · unfold OO at he⊢;split at he
            · cases he
            · rename_i q i z hq;split at he
              · rename_i n f c1 w1 k g c2 hd hs;rw[hdst hd,hsrc hs];exact he
              · cases he
        · exact he
        · cases he
      · split at he
        · rename_i s x h1 h2;unfold abt at he⊢;have hv:vw get' s=vw get s:=by
            rcases hvw s with hv|⟨k,hv⟩
            · exact hv
            · rw[hv]at he;unfold Pj at he;split at he
              · cases he
              · rename_i i _ _;cases hs:qB i.size get x<;>rw[hs]at he<;>cases he
          rw[hv];generalize vw get s=s at he;unfold Pj at he⊢;split at he
          · cases he
          · rename_i q i z hq;cases s with
            |sl k lo len=>rcases hs:qB i.size get x with _|r;rw[hs]at he;cases he;rw[hs]at he;rw[hsrc hs];simp only at he⊢;cases hk:get k with
              |arr z n f=>rw[hk]at he;rw[harr hk];exact he
              |box=>rw[hk]at he;cases he
              |ra z1 n1 cs1=>rw[hk]at he;cases he
              |ms es1=>rw[hk]at he;cases he
              |dead=>rw[hk]at he;cases he
            |_=>cases qB i.size get x<;>cases he
        · cases he
      · split at he
        · rename_i s h1;unfold aaQ at he⊢;have hv:vw get' s=vw get s:=by
            rcases hvw s with hv|⟨k,hv⟩
            · exact hv
            · rw[hv]at he;unfold O0 at he;split at he
              · cases he
              · cases he
          rw[hv];generalize vw get s=s at he;unfold O0 at he⊢;split at he
          · cases he
          · cases s with
            |sl k lo len=>simp only at he⊢;cases hk:get k with
              |arr z n f=>rw[hk]at he;rw[harr hk];exact he
              |box=>rw[hk]at he;cases he
              |ra z1 n1 cs1=>rw[hk]at he;cases he
              |ms es1=>rw[hk]at he;cases he
              |dead=>rw[hk]at he;cases he
            |_=>cases he
        · cases he
      · exact he
      · exact he
      · exact he
      · cases he
  |lookup t x i ok=>cases he
  |mapUpdate t x i v=>cases he
  |makeMap t r=>cases he
  | buildSlice t n ps=>
    simp only[evalOp]at he⊢;rcases hp:partsOf ρ ps.toList with _|l;rw[hp]at he;cases he;rw[hp]at he;simp only at he⊢;unfold PO at he⊢;split at he
    · rename_i ks hks;unfold VZ at he⊢;split at he
      · cases he
      · rename_i i z jF;cases hb:(Nat.beq i.size 1&&Nat.beq ks.length n&&Nat.ble (n*i.size) 16777216&&ks.all (λk=>Jk (get k)))with
        |false=>rw[hb]at he;cases he
        |true=>have hb0:=hb;rw[dQ]at hb;have hall:=j6.1 hb.2;have hgk:∀k∈ks,get' k=get k:=λk hk=>hg k (by have:=hall k hk;revert this;cases get k<;>intro h<;>first|trivial|cases h);have e1:ks.all (λk=>Jk (get' k))=true:=j6.2 λk hk=>(by rw[hgk k hk];exact hall k hk);have e2:(ks.map λk=>Fb (get' k))=ks.map λk=>Fb (get k):=aiI λk hk=>(by rw[hgk k hk]);rw[hb0]at he;rw[hb.1,e1,e2];exact he
    · exact he
  |_=>exact he
def abU:aU->Bool
  | .dead=>false
  |_=>true
theorem agN{o:aU}(h:abU o=true):o.live:=by cases o<;>first|trivial|cases h
def SC.refs:SC->List Nat
  | .own k=> [k]
  | .sl k _ _=> [k]
  | .pb k _=> [k]
  | .pe k _ _=> [k]
  | .fn _ ks=>ks
  | .mp k=> [k]
  | .fb _ k _=> [k]
  |_=> []
def AV.refs:AV->List Nat
  | .s x=>x.refs
  | .agg cs=>cs.flatMap SC.refs
def SV.refs:SV->List Nat
  | .one a=>a.refs
  | .mY as'=>as'.flatMap AV.refs
def Ch:Op->Bool
  | .load _ _=>true
  | .store _ _ _=>true
  | .indexAddr _ _ _=>true
  | .slice _ _ _ _ _=>true
  | .convert _ _ _=>true
  | .lookup _ _ _ _=>true
  | .mapUpdate _ _ _ _=>true
  | .buildSlice _ _ _=>true
  | .call c=>match c.callee with
    | .builtin .append=>true
    | .builtin .copy=>true
    | .builtin .clear=>true
    | .builtin .len=>true
    |_=>false
  |_=>false
def l8(k:Nat):List Nat->Bool
  | []=>false
  |j::r=>Nat.beq j k||l8 k r
theorem uV{k:Nat}:∀{l:List Nat},l8 k l=true ↔ k∈l
  | []=>by simp[l8]
  | j ::r=>by
    simp only[l8,pO,Ck,uV];constructor
    · rintro(h|h)
      · exact .inl (eG h).symm
      · exact .inr h
    · rintro(h|h)
      · subst h;exact .inl (oW k)
      · exact .inr h
def cut(σ:List (Nat×SV)):List Nat->List (Nat×SV)
  | []=> []
  |x::r=>match look σ x with
    |some s=>(x,s)::cut σ r
    |none=>cut σ r
def lD(h:List aU)(R:List Nat):Nat->aU:=λk=>bif l8 k R then eB h k else .dead
def ail:Option oJ->List Nat
  |some (.call _ ks _)=>ks
  |_=> []
def readsOf(σ:List (Nat×SV))(o:Op)(cB:Option oJ):List Nat:=
  bif Ch o then σ.flatMap (λp=>p.2.refs)else ail cB
def CR(ops:Array Oper)(σ:List (Nat×SV)):Option (Nat×Bool)->Option Bool
  |none=>some true
  | some (j,want)=>match(ops[j]?).bind (·.dst)with
    |some d=>match look σ d with
      |some (.one (.s (.c (.val (.bool b)))))=>some (b==want)
      |some (.one (.s (.c (.val (.tuple _)))))=>some false
      |_=>none
    |none=>none
def tF(id:Nat)(get:Nat->aU):List (Nat×aU)->Bool
  | []=>true
  |(k,_)::r=>((Nat.ble id k&&Nat.blt k (id+64))||abU (get k))&&tF id get r
def Es(nt:Nat):Option Nat->Bool
  |none=>true
  |some d=>Nat.blt d nt
structure Rec where
  r:SV
  ws:List (Nat×aU)
  cs:List Prop
  R:List Nat
def oF(P:Program)(nt:Nat)(ops:Array Oper)(cB:List (Nat×oJ))(base i:Nat)(o:Oper)(σ:List (Nat×SV))(h:List aU):Option Rec:=
  let σr:=cut σ (o.looksAt ops)
  bif Es nt o.dst then
    match CR ops σr o.guard with
    |some true=>
      let R:=readsOf σr o.op (oD cB i)
      match p8 P (base+64*i) (j3 σr) (lD h R) o.op (oD cB i)with
      |some e=>bif tF (base+64*i) (lD h R) e.ws then some {r:=e.r,ws:=e.ws,cs:=e.cs,R:=R}else none
      |none=>none
    |some false=>some {r:=fP undef,ws:=[],cs:=[],R:=[]}
    |none=>none
  else none
section
variable {ops:Array Oper}{base i:Nat}{o:Oper}{rc:Rec}{a:Act}{id:Nat}
def Slots(w:World)(m:gV)(M:Mu)(nt:Nat)(σ:List (Nat×SV))(a:Act):Prop:=
 a.tmps.size=nt∧∀x s,look σ x=some s→∃v,a.tmps[x]? =some v/\eZ w m M s v
theorem U4:∀(σ:List (Nat×SV)) (d x:Nat),look (del σ d) x=if d=x then none else look σ x
 | [],d,x=>by simp[del,look]
 | (i,s)::r,d,x=>by simp only[del];cases hid:Nat.beq i d with
  |true=>
   have:=eG hid;subst this;simp only[aY,U4 r i x,look];by_cases hx:i=x
   .simp[hx]
   .have:Nat.beq i x=false:=(by cases hb:Nat.beq i x;rfl;exact absurd (eG hb) hx);simp[hx,this]
  |false=>simp only[aX,look,U4 r d x];cases hix:Nat.beq i x with
   |true=>have:=eG hix;subst this;have:¬d=i:=(by intro e;subst e;rw[oW]at hid;cases hid);simp[this]
   |false=>simp
theorem uW(σ:List (Nat×SV))(d:Option Nat)(s:SV)(x:Nat):look (mQ σ d s) x=if d=some x then some s else look σ x:=by rcases d with _|d;simp[mQ];simp only[mQ,look,U4];cases hb:Nat.beq d x with
 |true=>have:=eG hb;subst this;simp
 |false=>
  have:¬d=x:=by intro e;subst e;rw[oW]at hb;cases hb
  simp[this]
theorem O6(σ:List (Nat×SV))(x:Nat):∀(L:List Nat) (s:SV),look (cut σ L) x=some s->look σ x=some s
 | [],s,h=>by simp[cut,look]at h
 |y::L,s,h=>by simp only[cut]at h;rcases hy:look σ y with _|u;rw[hy]at h;exact O6 σ x L s h;rw[hy]at h;simp only[look]at h;cases hb:Nat.beq y x with|true=>have:=eG hb;subst this;rw[hb]at h;simp at h;rw[hy,h]|false=>rw[hb]at h;exact O6 σ x L s h
theorem IV(σ:List (Nat×SV))(x:Nat):∀(L:List Nat),x∈L->look (cut σ L) x=look σ x
 | [],h=>by cases h
 |y::L,h=>by simp only[cut];cases hy:look σ y with
  |none=>cases h with
   |head=>rcases hl:look (cut σ L) x with _|s;rw[hy];rw[O6 σ x L s hl]
   |tail _ h=>exact IV σ x L h
  |some u=>simp only[look];cases hb:Nat.beq y x with
   |true=>have:=eG hb;subst this;simp[hy]
   |false=>cases h with
    |head=>rw[oW]at hb;cases hb
    |tail _ h=>simp;exact IV σ x L h
theorem aoS{σ σ':List (Nat×SV)}:∀{L:List Nat},(∀x∈L,look σ x=look σ' x)->cut σ L=cut σ' L
 | [],_=>rfl
 |y::L,h=>by simp only[cut];rw[h y aj,aoS (λx hx=>h x (by simp[hx]))]
theorem aHf{h h':List aU}{R:List Nat}(hr:∀k∈R,eB h k=eB h' k):lD h R=lD h' R:=by funext k;unfold lD;rcases hb:l8 k R with _|_;rfl;simp only[aY];exact hr k (uV.1 hb)
theorem aG7{P:Program}{nt:Nat}{cB:List (Nat×oJ)}{σ σ':List (Nat×SV)}{h h':List aU}
  (he:oF P nt ops cB base i o σ h=some rc) (hσ:∀x∈o.looksAt ops,look σ x=look σ' x) (hh:∀k∈rc.R,eB h k=eB h' k):oF P nt ops cB base i o σ' h'=some rc:=by
 unfold oF at he⊢;simp only at he⊢;rw[<-aoS hσ];rcases hd:Es nt o.dst with _|_;rw[hd]at he;cases he;rw[hd]at he;simp only[aY]at he⊢;rcases hg:CR ops (cut σ (o.looksAt ops)) o.guard with _|b;rw[hg]at he;cases he;rw[hg]at he;rcases b with _|_;exact he;simp only at he⊢;have hR:rc.R=readsOf (cut σ (o.looksAt ops)) o.op (oD cB i):=by cases hev:p8 P (base+64*i) (j3 (cut σ (o.looksAt ops))) (lD h (readsOf (cut σ (o.looksAt ops)) o.op (oD cB i))) o.op (oD cB i)with
  |none=>rw[hev]at he;cases he
  |some e=>rw[hev]at he;simp only at he;rcases hk:tF (base+64*i) (lD h (readsOf (cut σ (o.looksAt ops)) o.op (oD cB i))) e.ws with _|_;rw[hk]at he;cases he;rw[hk]at he;simp at he;rw[<-he]
 rw[hR]at hh;rw[<-aHf hh];exact he
section
variable {P:Program} {X:Mu} {w:World} {m:gV} {h:List aU} {M:Mu}
theorem aHQ(v:Value):jo w m M (Jt v) v:=by
 unfold Jt;split
 .rename_i cs;exact⟨cs,rfl,by have:=UU (w:=w) (m:=m) (M:=M) cs.toList;simpa[vals]using this⟩
 .exact .c (.val v)
theorem aqT{nt:Nat}{σ:List (Nat×SV)}{L:List Nat}(hs:Slots w m M nt σ a):∀x s,j3 (cut σ L) x=some s->eZ w m M s (a.eval x):=by intro x s hx;cases x with
 |tmp t=>
  simp only[j3]at hx;obtain⟨v,hv,iN⟩:=hs.2 t s (O6 σ t L s hx);have:a.eval (.tmp t)=v:=by simp[Act.eval,hv]
  rw[this];exact iN
 |const v=>simp only[j3,lu]at hx;subst hx;exact aHQ v
 |func f=>simp only[j3,lu]at hx;subst hx;exact dU.fn f [] #[] rfl (λi k hi=>by simp at hi)
 |global g=>cases hx
theorem aJb{nt:Nat}{σ:List (Nat×SV)}{L:List Nat}(hs:Slots w m M nt σ a){b:Bool}(hg:CR ops (cut σ L) o.guard=some b):
  Region.wanted o (yielded ops a.tmps)=b:=by
 unfold CR at hg;unfold Region.wanted;rcases hgd:o.guard with _|q;rw[hgd]at hg;simp at hg;subst hg;rfl;obtain⟨j,want⟩:=q;rw[hgd]at hg;simp only at hg⊢;cases hd:(ops[j]?).bind (·.dst)with
 |none=>rw[hd]at hg;cases hg
 |some d=>
  rw[hd]at hg;simp only at hg;unfold yielded;split at hg
  .rename_i b' hl;obtain⟨v,hv,iN⟩:=hs.2 d _ (O6 σ d L _ hl);cases iN with|c hc=>cases hc;simp at hg;subst hg;simp[hd,hv];try (cases b'<;>cases want<;>rfl)
  .rename_i t hl;obtain⟨v,hv,iN⟩:=hs.2 d _ (O6 σ d L _ hl);cases iN with|c hc=>cases hc;simp at hg;subst hg;simp[hd,hv]
  .cases hg
theorem aoR{R:List Nat}{k:Nat}(hl:(lD h R k).live):eB h k=lD h R k:=by unfold lD at hl⊢;cases hb:l8 k R with|true=>rfl|false=>rw[hb]at hl;exact hl.elim
theorem aFD{ρ:Operand->Option SV}{R:List Nat}{o:Op}{cB:Option oJ}{e:Eff}(he:p8 P id ρ (lD h R) o cB=some e)(hc:∀q∈e.cs,q):
  ∃e',p8 P id ρ (eB h) o cB=some e'/\e'.r=e.r/\e'.ws=e.ws∧∀q∈e'.cs,q:=by
 have hmono:∀k,(lD h R k).live->eB h k=lD h R k:=λk hk=>aoR hk;cases cB with
 |none=>simp only[p8]at he⊢;rcases hv:evalOp P id ρ (lD h R) o with _|e1;rw[hv]at he;cases he;rw[hv]at he;rw[Zv hmono hv];exact⟨e,he,rfl,rfl,hc⟩
 | some cB=> cases cB with
  |ov r=>simp only[p8]at he⊢;rcases hv:evalOp P id ρ (lD h R) o with _|e1;rw[hv]at he;cases he;rw[hv]at he;rw[Zv hmono hv];exact⟨e,he,rfl,rfl,hc⟩
  |Xi r ws=>simp only[p8]at he⊢;rcases hv:evalOp P id ρ (lD h R) o with _|e1;rw[hv]at he;cases he;rw[hv]at he;rw[Zv hmono hv];exact⟨e,he,rfl,rfl,hc⟩
  |xo=>simp only[p8]at he⊢;rcases hv:lI P id ρ (lD h R) o with _|e1;rw[hv]at he;cases he;rw[hv]at he;rw[aol hmono hv];exact⟨e,he,rfl,rfl,hc⟩
  | call r ks ws=>
   simp only[p8]at he⊢;split at he
   .rename_i c;split at he
    .rename_i fo;split at he
     .rename_i fv as' hfv has;split at he
      .rename_i f caps hfn;cases hb:Js id (mD (lD h R) ks) ws&&Gv (mD (lD h R) ks)with
       |false=>rw[hb]at he;cases he
       |true=>rw[hb]at he;simp only[aY]at he;cases he;have hb':=hb;simp only[dQ]at hb';rw[anH hmono hb'.2,hb];exact⟨_,rfl,rfl,rfl,hc⟩
      .cases he
     .cases he
    .cases he
   .cases he
theorem xL:∀(ws:List (Nat×aU)) (h:List aU) (k:Nat),(∀o,(k,o) ∉ ws)->(eX h ws)[k]? =h[k]?
 | [],h,k,_=>rfl
 |(j,o)::ws,h,k,hk=>by simp only[eX];rw[xL ws _ k (λo' ho=>hk o' (by simp[ho])),su];intro e;exact hk o (by simp[e])
theorem Zr:∀(ws:List (Nat×aU)) (h:List aU),(eX h ws).length=h.length
 | [],h=>rfl
 |(j,o)::ws,h=>by simp only[eX];rw[Zr];simp
theorem anS{id:Nat}{get:Nat->aU}:∀{ws:List (Nat×aU)},tF id get ws=true→∀k o,(k,o)∈ws->(id<=k/\k<id+64)\/(get k).live
 | [],_,k,o,h=>by cases h
 | (j,o')::r,hn,k,o,h=>by simp only[tF,dQ,pO]at hn;obtain⟨h1,h2⟩:=hn;cases h with
  |head=>
   rcases h1 with⟨h1,h3⟩|h1
   .refine .inl ⟨qN h1,?_⟩;simp only[Nat.blt]at h3;exact qN h3
   .exact .inr (agN h1)
  |tail _ h=>exact anS h2 k o h
theorem aoE{nt:Nat}{cB:List (Nat×oJ)}{σ:List (Nat×SV)}(he:oF P nt ops cB base i o σ h=some rc):
  ∀k ob,(k,ob)∈rc.ws->(base+64*i<=k/\k<base+64*i+64)\/(eB h k).live:=by
 unfold oF at he;simp only at he;rcases hd:Es nt o.dst with _|_;rw[hd]at he;cases he;rw[hd]at he;simp only[aY]at he;rcases hg:CR ops (cut σ (o.looksAt ops)) o.guard with _|b;rw[hg]at he;cases he;rw[hg]at he;rcases b with _|_;cases he;intro k ob hk;cases hk;simp only at he;cases hev:p8 P (base+64*i) (j3 (cut σ (o.looksAt ops))) (lD h (readsOf (cut σ (o.looksAt ops)) o.op (oD cB i))) o.op (oD cB i)with
 |none=>rw[hev]at he;cases he
 |some e=>
  rw[hev]at he;simp only at he;rcases hk:tF (base+64*i) (lD h (readsOf (cut σ (o.looksAt ops)) o.op (oD cB i))) e.ws with _|_;rw[hk]at he;cases he;rw[hk]at he;simp only[aY]at he;cases he;intro k ob hkm;rcases anS hk k ob hkm with h1|h1
  .exact .inl h1
  .right;rw[aoR h1];exact h1
theorem aak{w':World}{m':gV}{M':Mu}{nt:Nat}{σ:List (Nat×SV)}{a:Act}{d:Option Nat}{r:SV}{v:Value}(hs:Slots w m M nt σ a)(hd:Es nt d=true)
  (hL:Later w m M w' m' M') (hr:eZ w' m' M' r v):Slots w' m' M' nt (mQ σ d r) (a.put d v):=by
 obtain⟨hz,hσ⟩:=hs;refine⟨by cases d<;>simp[Act.put,hz],λx s hx=> ?_⟩;rw[uW]at hx;split at hx
 .rename_i Dj;subst Dj;cases hx;have hlt:x<a.tmps.size:=by rw[hz];simp only[Es,Nat.blt]at hd;exact qN hd
  exact⟨v,by simp[Act.put,hlt],hr⟩
 .rename_i Dj;obtain⟨u,hu,iN⟩:=hσ x s hx;refine⟨u,?_,iN.later hL⟩;rcases d with _|d;exact hu;have:d≠x:=λe=>Dj (by rw[e]);simp only[Act.put];rw[asj this];exact hu
theorem an9{nt:Nat}{ops:Array Oper}{cB:List (Nat×oJ)}{base i:Nat}{o:Oper}{σ:List (Nat×SV)}{rc:Rec}{a:Act}(H:fJ X w m h)
  (hid:∀k,base+64*i<=k->k<base+64*i+64->h[k]? =some .dead/\m k=none) (hs:Slots w m (MX X m h) nt σ a) (he:oF P nt ops cB base i o σ h=some rc) (hc:∀q∈rc.cs,q)
  {K:Act->World->Prop} {Q:Exit->Act->World->Prop}
  (hK:∀w' m' v,Stp X w m h w' m' (eX h rc.ws)->Slots w' m' (MX X m' (eX h rc.ws)) nt (mQ σ o.dst rc.r) (a.put o.dst v)->K (a.put o.dst v) w'):
  if Region.wanted o (yielded ops a.tmps)then o.wp P a w K Q else K (a.put o.dst undef) w:=by
 unfold oF at he;simp only at he;rcases hd:Es nt o.dst with _|_;rw[hd]at he;cases he;rw[hd]at he;simp only[aY]at he;rcases hg:CR ops (cut σ (o.looksAt ops)) o.guard with _|b;rw[hg]at he;cases he;rw[hg]at he;rw[aJb hs hg];cases b with
 |false=>cases he;simp only[nH,mJ];exact hK w m undef (Stp.refl H) (aak hs hd Later.refl (.c (.val _)))
 |true=>simp only at he;simp only[l5];cases hev:p8 P (base+64*i) (j3 (cut σ (o.looksAt ops))) (lD h (readsOf (cut σ (o.looksAt ops)) o.op (oD cB i))) o.op (oD cB i)with
  |none=>rw[hev]at he;cases he
  |some e=>rw[hev]at he;simp only at he;rcases hk:tF (base+64*i) (lD h (readsOf (cut σ (o.looksAt ops)) o.op (oD cB i))) e.ws with _|_;rw[hk]at he;cases he;rw[hk]at he;simp only[aY]at he;cases he;obtain⟨e',he',hr',hw',hc'⟩:=aFD hev hc;have hok:=aEQ H hid (aqT hs) he' hc';rw[hr',hw']at hok;exact hok K Q (λw' m' v hS iN=>hK w' m' v hS (aak hs hd hS.later iN))
theorem fJ.more(H:fJ X w m h)(n:Nat):fJ X w m (h++List.replicate n .dead)/\MX X m (h++List.replicate n .dead)=MX X m h/\(∀b,iO m (h++List.replicate n .dead) b ↔ iO m h b):=by
 have hget:∀(k:Nat) (o:aU),(h++List.replicate n aU.dead)[k]? =some o->o.live->h[k]? =some o:=by
  intro k o hk ho;rcases mI k h.length with h1|h1
  .rwa [p9 h1]at hk
  .rw[uo h1,Eb]at hk;split at hk
   .cases hk;exact ho.elim
   .cases hk
 have aL2:∀(k:Nat) (o:aU),h[k]? =some o->(h++List.replicate n aU.dead)[k]? =some o:=by intro k o hk;rw[p9 (iF hk)];exact hk
 have ku:∀b,iO m (h++List.replicate n .dead) b ↔ iO m h b:=by
  intro b;constructor
  .rintro⟨k,o,l,hk,hl,r⟩;exact⟨k,o,l,hget k o hk hl,hl,r⟩
  .rintro⟨k,o,l,hk,hl,r⟩;exact⟨k,o,l,aL2 k o hk,hl,r⟩
 have hmx:MX X m (h++List.replicate n .dead)=MX X m h:=by funext b;simp only[MX,ku b]
 refine⟨⟨λk o hk=> ?_,λk k' o o' l l' b h1 h2 h3 h4 h5 h6 h7 h8=>H.inj k k' o o' l l' b (hget k o h1 h3) (hget k' o' h2 h4) h3 h4 h5 h6 h7 h8,λk hk=>H.used k (by simp at hk;omega),λb hb=>H.uL b ((ku b).1 hb),H.xlt⟩,hmx,ku⟩;rw[hmx];by_cases ho:o.live
 .exact H.obj k o (hget k o hk ho)
 .cases o with|dead=>trivial|_=>exact absurd trivial ho
def pz(P:Program)(nt:Nat)(ops:Array Oper)(cB:List (Nat×oJ))(base:Nat):List Oper->Nat->List (Nat×SV)->List aU->Option (List (Nat×SV)×List aU×List Prop)
 | [],_,σ,h=>some (σ,h,[])
 |o::r,i,σ,h=>match oF P nt ops cB base i o σ h with
  |some rc=>match pz P nt ops cB base r (i+1) (mQ σ o.dst rc.r) (eX h rc.ws)with
   |some (σ',h',cs)=>some (σ',h',rc.cs++cs)
   |none=>none
  |none=>none
theorem aoB{nt:Nat}{ops:Array Oper}{cB:List (Nat×oJ)}{base:Nat}{Q:Exit->Act->World->Prop}{σ':List (Nat×SV)}{h':List aU}(N:Nat):
  ∀(l:List Oper) (i:Nat) (σ:List (Nat×SV)) (h:List aU) (cs:List Prop) (w:World) (m:gV) (a:Act),
  i+l.length<=N->pz P nt ops cB base l i σ h=some (σ',h',cs)->(∀q∈cs,q)->fJ X w m h->Slots w m (MX X m h) nt σ a→
  (∀k,base+64*i<=k->k<base+64*N->h[k]? =some .dead/\m k=none)→
  (∀a' w' m',zL X w m h w' m' h'->Slots w' m' (MX X m' h') nt σ' a'->a'.defers=a.defers->Q .normal a' w')->wpList P ops Q l a w
 | [],i,σ,h,cs,w,m,a,_,hr,hc,H,hs,_,hQ=>by simp only[pz,lu,zw]at hr;obtain⟨rfl,rfl,_⟩:=hr;exact wpList_nil (hQ a w m (zL.refl H) hs rfl)
 | o ::l,i,σ,h,cs,w,m,a,hN,hr,hc,H,hs,hid,hQ=>by simp only[pz]at hr;simp only[yQ]at hN;rcases hst:oF P nt ops cB base i o σ h with _|rc;rw[hst]at hr;cases hr;rw[hst]at hr;simp only at hr;cases hrl:pz P nt ops cB base l (i+1) (mQ σ o.dst rc.r) (eX h rc.ws)with
  |none=>rw[hrl]at hr;cases hr
  |some q=>
   obtain⟨σ1,h1,cs1⟩:=q;rw[hrl]at hr;simp only[lu,zw]at hr;obtain⟨rfl,rfl,rfl⟩:=hr;refine wpList_step (λK hK=> ?_);refine an9 H (λk h1 h2=>hid k h1 ah) hs hst (λq hq=>hc q (by simp[hq])) (λw1 m1 v hS hsl=>hK _ _ ?_);refine aoB N l (i+1) _ _ cs1 w1 m1 _ ah hrl (λq hq=>hc q (by simp[hq])) hS.rel hsl (λk hk1 hk2=> ?_) (λa' w' m' hF at5 hd=>hQ a' w' m' (hS.far.trans hF) at5 ?_)
   .obtain⟨yg,hnone⟩:=hid k ah hk2;have hne:∀ob,(k,ob) ∉ rc.ws:=by
     intro ob qF;rcases aoE hst k ob qF with h3|h3
     .omega
     .have:eB h k=.dead:=(by simp[eB,yg]);rw[this]at h3;exact h3.elim
    have hd2:(eX h rc.ws)[k]? =some .dead:=(by rw[xL rc.ws h k hne];exact yg);exact⟨hd2,hS.nw k yg hd2 hnone⟩
   .rw[hd];cases o.dst<;>rfl
theorem aHu{nt:Nat}{cB:List (Nat×oJ)}{Q:Exit->Act->World->Prop}{σ σ':List (Nat×SV)}{h':List aU}{cs:List Prop}
  (hr:pz P nt ops cB h.length ops.toList 0 σ (h++List.replicate (64*ops.size) .dead)=some (σ',h',cs)) (hc:∀q∈cs,q) (H:fJ X w m h) (hs:Slots w m (MX X m h) nt σ a)
  (hQ:∀a' w' m',zL X w m h w' m' h'->Slots w' m' (MX X m' h') nt σ' a'->a'.defers=a.defers->Q .normal a' w'):(Code.region id ops false).wp P Q a w:=by
 obtain⟨H',hmx,ku⟩:=H.more (64*ops.size);refine wp_region_list (aoB (X:=X) ops.size ops.toList 0 σ _ cs w m a aj hr hc H' (by rw[hmx];exact hs) (λk h1 h2=> ?_) (λa' w' m' hF hsl hd=>hQ a' w' m' ?_ hsl hd))
 .refine⟨?_,H.used k ah⟩;rw[uo ah,Eb,bW ah]
 .obtain⟨f1,f2,f3,f4,f5,f6,f7⟩:=hF;exact⟨f1,by rw[<-hmx];exact f2,f3,f4,f5,λb hb hM=>f6 b hb (λh1=>hM ((ku b).1 h1)),λb hb=>(f7 b hb).imp (ku b).1 (λh=>h)⟩
end
end
theorem Zt:∀(ws:List (Nat×aU)) (h h':List aU) (k:Nat),h.length=h'.length->(∃o,(k,o)∈ws)->(eX h ws)[k]? =(eX h' ws)[k]?
  | [],_,_,_,_,⟨o,ho⟩=>by cases ho
  | (j, o)::ws,h,h',k,hl,hk=>by
    simp only[eX];by_cases hk':∃o,(k,o)∈ws
    · exact Zt ws _ _ k (by simp[hl]) hk'
    · have hne:∀o,(k,o) ∉ ws:=λo ho=>hk' ⟨o,ho⟩;rw[xL ws _ k hne,xL ws _ k hne];obtain⟨o',ho'⟩:=hk;cases ho' with
      |head=>
        rcases mI j h.length with h1|h1
        · rw[uq h1,uq ah]
        · rw[xS ay,xS ay]
      |tail _ h=>exact absurd h (hne o')
section
variable (dst:Nat->Option Nat) (rv:Nat->SV) (wv:Nat->List (Nat×aU)) (σ0:List (Nat×SV)) (h0:List aU)
def sg(D:Nat->Bool):Nat->List (Nat×SV)
  |0=>σ0
  |i+1=>if D i then mQ (sg D i) (dst i) (rv i)else sg D i
def hg(D:Nat->Bool):Nat->List aU
  |0=>h0
  |i+1=>if D i then eX (hg D i) (wv i)else hg D i
theorem PS(D:Nat->Bool):∀i,(hg wv h0 D i).length=h0.length
  |0=>rfl
  |i+1=>by simp only[hg];split;rw[Zr,PS D i];exact PS D i
variable {dst rv wv σ0 h0}
variable {looks:Nat->List Nat} {Rv:Nat->List Nat} {ord:Nat->Nat->Prop} {n:Nat}
structure VR(dst:Nat->Option Nat)(wv:Nat->List (Nat×aU))(looks Rv:Nat->List Nat)(ord:Nat->Nat->Prop)(n:Nat):Prop where
  lt:∀i j,ord i j->i<j
  look:∀i j,i<n->j<n->i≠j→¬ord i j→¬ord j i→∀x,dst j=some x->x ∉ looks i
  dst:∀i j,i<n->j<n->i≠j→¬ord i j→¬ord j i→∀x,dst j=some x->dst i≠some x
  reads:∀i j,i<n->j<n->i≠j→¬ord i j→¬ord j i→∀k o,(k,o)∈wv j->k ∉ Rv i
  writes:∀i j,i<n->j<n->i≠j→¬ord i j→¬ord j i→∀k o o',(k,o)∈wv j->(k,o') ∉ wv i
theorem aKD(I:VR dst wv looks Rv ord n){D:Nat->Bool}(hcl:∀i j,j<n->ord i j->D j=true->D i=true){i:Nat}(hi:i<n)(hD:D i=false)(hp:∀j,ord j i->D j=true){x:Nat}(hx:x∈looks i):
    look (sg dst rv σ0 D n) x=look (sg dst rv σ0 (λ_=>true) i) x:=by
  have key:∀j,j<=n->look (sg dst rv σ0 D j) x=look (sg dst rv σ0 (λ_=>true) (min j i)) x:=by intro j;induction j with
    |zero=>intro _;simp[sg]
    | succ j ih=>
      intro hj;have ih:=ih ah;rcases Nat.lt_trichotomy j i with h1|h1|h1
      · rw[Cm ah]at ih⊢;simp only[sg,l5];split
        · rw[uW,uW,ih]
        · rename_i lG;have lG:D j=false:=(aD lG);rw[ih,uW,dn];intro hd;have hno:¬ord j i:=λh=>(by rw[hp j h]at lG;cases lG);have hno':¬ord i j:=λh=>(by have:=I.lt _ _ h;omega);exact I.look i j hi ah ah hno' hno x hd hx
      · subst h1;rw[PE ah];rw[Lm]at ih;simp only[sg,hD,nH,mJ];exact ih
      · rw[PE ah]at ih⊢;simp only[sg];split
        · rename_i lG;rw[uW,dn]
          · exact ih
          · intro hd;have hno:¬ord i j:=λh=>(by rw[hcl i j ah h lG]at hD;cases hD);have hno':¬ord j i:=λh=>(by have:=I.lt _ _ h;omega);exact I.look i j hi ah ah hno hno' x hd hx
        · exact ih
  have:=key n (gy _);rwa [PE ah]at this
theorem aLa(I:VR dst wv looks Rv ord n){D:Nat->Bool}(hcl:∀i j,j<n->ord i j->D j=true->D i=true){i:Nat}(hi:i<n)(hD:D i=false)(hp:∀j,ord j i->D j=true){k:Nat}(hk:k∈Rv i):
    (hg wv h0 D n)[k]? =(hg wv h0 (λ_=>true) i)[k]? :=by
  have key:∀j,j<=n->(hg wv h0 D j)[k]? =(hg wv h0 (λ_=>true) (min j i))[k]? :=by intro j;induction j with
    |zero=>intro _;simp[hg]
    | succ j ih=>
      intro hj;have ih:=ih ah;rcases Nat.lt_trichotomy j i with h1|h1|h1
      · rw[Cm ah]at ih⊢;simp only[hg,l5];split
        · by_cases hm:∃o,(k,o)∈wv j
          · exact Zt _ _ _ k (by rw[PS,PS]) hm
          · have hne:∀o,(k,o) ∉ wv j:=λo ho=>hm ⟨o,ho⟩;rw[xL _ _ k hne,xL _ _ k hne,ih]
        · rename_i lG;have lG:D j=false:=(aD lG);rw[ih,xL];intro o ho;have hno:¬ord j i:=λh=>(by rw[hp j h]at lG;cases lG);have hno':¬ord i j:=λh=>(by have:=I.lt _ _ h;omega);exact I.reads i j hi ah ah hno' hno k o ho hk
      · subst h1;rw[PE ah];rw[Lm]at ih;simp only[hg,hD,nH,mJ];exact ih
      · rw[PE ah]at ih⊢;simp only[hg];split
        · rename_i lG;rw[xL]
          · exact ih
          · intro o ho;have hno:¬ord i j:=λh=>(by rw[hcl i j ah h lG]at hD;cases hD);have hno':¬ord j i:=λh=>(by have:=I.lt _ _ h;omega);exact I.reads i j hi ah ah hno hno' k o ho hk
        · exact ih
  have:=key n (gy _);rwa [PE ah]at this
def wY(D:Nat->Bool)(i:Nat):Nat->Bool:=λj=>D j||Nat.beq j i
theorem Gj{D:Nat->Bool}{i j:Nat}(h:j≠i:=by omega):wY D i j=D j:=by unfold wY;cases hb:Nat.beq j i with|true=>exact absurd (eG hb) h|false=>simp
theorem UK{D:Nat->Bool}{i:Nat}:wY D i i=true:=by simp[wY,oW]
theorem aLz(I:VR dst wv looks Rv ord n){D:Nat->Bool}(hcl:∀i j,j<n->ord i j->D j=true->D i=true){i:Nat}(hi:i<n)(hD:D i=false)(x:Nat):
    look (sg dst rv σ0 (wY D i) n) x=look (mQ (sg dst rv σ0 D n) (dst i) (rv i)) x:=by
  have low:∀j,j<=i->sg dst rv σ0 (wY D i) j=sg dst rv σ0 D j:=by intro j;induction j with|zero=>intro _;rfl|succ j ih=>intro hj;simp only[sg];rw[Gj,ih ah]
  have key:∀j,i+1+j<=n->look (sg dst rv σ0 (wY D i) (i+1+j)) x=look (mQ (sg dst rv σ0 D (i+1+j)) (dst i) (rv i)) x:=by intro j;induction j with
    |zero=>intro _;simp only[vk,sg,UK,l5,hD,nH,mJ];rw[low i (gy _)]
    | succ j ih=>
      intro hj;have ih:=ih ah;rw[<-wN];simp only[sg];rw[Gj];by_cases lG:D (i+1+j)=true
      · simp only[lG,l5];rw[uW,ih,uW,uW,uW];have hno:¬ord i (i+1+j):=λh=>(by rw[hcl i _ ah h lG]at hD;cases hD);have hno':¬ord (i+1+j) i:=λh=>(by have:=I.lt _ _ h;omega);by_cases h1:dst (i+1+j)=some x
        · rw[bW h1,dn (I.dst i _ hi ah ah hno hno' x h1),bW h1]
        · rw[dn h1,dn h1]
      · have lG:D (i+1+j)=false:=(aD lG);simp only[lG,nH,mJ];exact ih
  have:=key (n-(i+1)) ah;rwa [show i+1+(n-(i+1))=n by omega]at this
theorem aK9(I:VR dst wv looks Rv ord n){D:Nat->Bool}(hcl:∀i j,j<n->ord i j->D j=true->D i=true){i:Nat}(hi:i<n)(hD:D i=false):
    hg wv h0 (wY D i) n=eX (hg wv h0 D n) (wv i):=by
  have low:∀j,j<=i->hg wv h0 (wY D i) j=hg wv h0 D j:=by intro j;induction j with|zero=>intro _;rfl|succ j ih=>intro hj;simp only[hg];rw[Gj,ih ah]
  have key:∀(k:Nat) j,i+1+j<=n->(hg wv h0 (wY D i) (i+1+j))[k]? =(eX (hg wv h0 D (i+1+j)) (wv i))[k]? :=by intro k j;induction j with
    |zero=>intro _;simp only[vk,hg,UK,l5,hD,nH,mJ];rw[low i (gy _)]
    | succ j ih=>
      intro hj;have ih:=ih ah;rw[<-wN];simp only[hg];rw[Gj];by_cases lG:D (i+1+j)=true
      · simp only[lG,l5];have hno:¬ord i (i+1+j):=λh=>(by rw[hcl i _ ah h lG]at hD;cases hD);have hno':¬ord (i+1+j) i:=λh=>(by have:=I.lt _ _ h;omega);by_cases hm:∃o,(k,o)∈wv (i+1+j)
        · obtain⟨o,ho⟩:=hm;have hne:∀o',(k,o') ∉ wv i:=λo'=>I.writes i _ hi ah ah hno hno' k o o' ho;rw[xL _ _ k hne];exact Zt _ _ _ k (by rw[PS,PS]) ⟨o,ho⟩
        · have hne:∀o,(k,o) ∉ wv (i+1+j):=λo ho=>hm ⟨o,ho⟩;rw[xL _ _ k hne,ih];by_cases hm':∃o,(k,o)∈wv i
          · exact Zt _ _ _ k (by rw[Zr]) hm'
          · have hne':∀o,(k,o) ∉ wv i:=λo ho=>hm' ⟨o,ho⟩;rw[xL _ _ k hne',xL _ _ k hne',xL _ _ k hne]
      · have lG:D (i+1+j)=false:=(aD lG);simp only[lG,nH,mJ];exact ih
  apply Ea;intro k;have:=key k (n-(i+1)) ah;rwa [show i+1+(n-(i+1))=n by omega]at this
end
instance:Inhabited Rec:=⟨⟨fP undef,[],[],[]⟩⟩
section
variable (P:Program) (nt:Nat) (ops:Array Oper) (cB:List (Nat×oJ)) (base:Nat) (σ0:List (Nat×SV)) (h0:List aU)
def stt:Nat->Option (List (Nat×SV)×List aU)
  |0=>some (σ0,h0)
  | i +1=>match stt i,ops[i]? with
    |some (σ,h),some o=>match oF P nt ops cB base i o σ h with
      |some rc=>some (mQ σ o.dst rc.r,eX h rc.ws)
      |none=>none
    |_,_=>none
def pq(i:Nat):Rec:=
  match stt P nt ops cB base σ0 h0 i,ops[i]? with
  |some (σ,h),some o=>(oF P nt ops cB base i o σ h).getD aG
  |_,_=>aG
def zA(i:Nat):Option Nat:=(ops[i]?).bind (·.dst)
variable {P nt ops cB base σ0 h0}
theorem ap5{σ':List (Nat×SV)}{h':List aU}:∀(l:List Oper) (i:Nat) (σ:List (Nat×SV)) (h:List aU) (cs:List Prop),(∀j,l[j]? =ops[i+j]?)->stt P nt ops cB base σ0 h0 i=some (σ,h)→
    pz P nt ops cB base l i σ h=some (σ',h',cs)->stt P nt ops cB base σ0 h0 (i+l.length)=some (σ',h')∧
      ∀j,i<=j->j<i+l.length→∃o σj hj,ops[j]? =some o/\stt P nt ops cB base σ0 h0 j=some (σj,hj)/\oF P nt ops cB base j o σj hj=some (pq P nt ops cB base σ0 h0 j)∧∀q∈(pq P nt ops cB base σ0 h0 j).cs,q∈cs
  | [],i,σ,h,cs,_,hst,hr=>by simp only[pz,lu,zw]at hr;obtain⟨rfl,rfl,_⟩:=hr;exact⟨hst,λj h1 h2=>by simp at h2;omega⟩
  | o ::l,i,σ,h,cs,hl,hst,hr=>by simp only[pz]at hr;have ho:ops[i]? =some o:=(by simpa using(hl 0).symm);rcases hs:oF P nt ops cB base i o σ h with _|rc;rw[hs]at hr;cases hr;rw[hs]at hr;simp only at hr;cases hrl:pz P nt ops cB base l (i+1) (mQ σ o.dst rc.r) (eX h rc.ws)with
    |none=>rw[hrl]at hr;cases hr
    |some q=>
      obtain⟨σ1,h1,cs1⟩:=q;rw[hrl]at hr;simp only[lu,zw]at hr;obtain⟨rfl,rfl,rfl⟩:=hr;have Wx:stt P nt ops cB base σ0 h0 (i+1)=some (mQ σ o.dst rc.r,eX h rc.ws):=(by simp only[stt,hst,ho,hs]);obtain⟨q1,q2⟩:=ap5 l (i+1) _ _ cs1 (λj=>by have:=hl (j+1);simpa[wN,PD 1 j]using this) Wx hrl;refine⟨by simpa[wN,PD 1 l.length]using q1,λj hj1 hj2=> ?_⟩;by_cases hji:j=i
      · subst hji;have hrc:pq P nt ops cB base σ0 h0 j=rc:=(by simp only[pq,hst,ho,hs];rfl);exact⟨o,σ,h,ho,hst,by rw[hrc,hs],λq hq=>by rw[hrc]at hq;simp[hq]⟩
      · obtain⟨o',σj,hj,e1,e2,e3,e4⟩:=q2 j ah (by simp at hj2;omega);exact⟨o',σj,hj,e1,e2,e3,λq hq=>by simp[e4 q hq]⟩
theorem ar9{i:Nat}{σ:List (Nat×SV)}{h:List aU}(hs:stt P nt ops cB base σ0 h0 i=some (σ,h)):
    σ=sg (zA ops) (λj=>(pq P nt ops cB base σ0 h0 j).r) σ0 (λ_=>true) i/\h=hg (λj=>(pq P nt ops cB base σ0 h0 j).ws) h0 (λ_=>true) i:=by
  induction i generalizing σ h with
  |zero=>simp only[stt,lu,zw]at hs;obtain⟨rfl,rfl⟩:=hs;exact⟨rfl,rfl⟩
  |succ i ih=>simp only[stt]at hs;rcases hst:stt P nt ops cB base σ0 h0 i with _|q;rw[hst]at hs;cases hs;obtain⟨σi,hi⟩:=q;rw[hst]at hs;rcases ho:ops[i]? with _|o;rw[ho]at hs;cases hs;rw[ho]at hs;simp only at hs;rcases hr:oF P nt ops cB base i o σi hi with _|rc;rw[hr]at hs;cases hs;rw[hr]at hs;simp only[lu,zw]at hs;obtain⟨rfl,rfl⟩:=hs;obtain⟨e1,e2⟩:=ih hst;have hrc:pq P nt ops cB base σ0 h0 i=rc:=(by simp only[pq,hst,ho,hr];rfl);have hd:zA ops i=o.dst:=(by simp[zA,ho]);simp only[sg,hg,l5,hrc,hd,<-e1,<-e2];exact⟨trivial,trivial⟩
end
def Ai(o:Oper):List Nat:=o.after.toList.filterMap λe=>bif Region.binds .any e then some e.on else none
def abC(acc:List Nat):List Nat->Nat
  | []=>0
  |k::r=>(2^k)|||(acc.getD k 0)|||abC acc r
def Bq:List Oper->List Nat->List Nat
  | [],acc=>acc
  |o::r,acc=>Bq r (acc++ [abC acc (Ai o)])
def y9(A:List Nat)(i j:Nat):Bool:=(A.getD j 0).testBit i
def aqs(ops:Array Oper)(A:List Nat)(j:Nat):Bool:=
  let ds:=Ai (ops.getD j aG)
  ds.all (λk=>Nat.blt k j)&&(List.range ops.size).all λi=> !(y9 A i j)||(Nat.blt i j&&ds.any λk=>Nat.beq k i||y9 A i k)
def Qb(d:Option Nat)(l:List Nat):Bool:=
  match d with
  |some x=>l8 x l
  |none=>false
def abX:Option Nat->Option Nat->Bool
  |some a,some b=>Nat.beq a b
  |_,_=>false
def keys(ws:List (Nat×aU)):List Nat:=ws.map (·.1)
def meets(a b:List Nat):Bool:=a.any λk=>l8 k b
def acs(ops:Array Oper)(rs:List (List Nat×List Nat))(i j:Nat):Bool:=
  let oi:=ops.getD i aG
  let oj:=ops.getD j aG
  let ri:=rs.getD i ([],[])
  let rj:=rs.getD j ([],[])
  !(Qb oj.dst (oi.looksAt ops))&& !(Qb oi.dst (oj.looksAt ops))&& !(abX oi.dst oj.dst)&& !(meets rj.2 ri.1)&& !(meets ri.2 rj.1)&& !(meets ri.2 rj.2)
def GH(ops:Array Oper)(rs:List (List Nat×List Nat)):Bool:=
  let A:=Bq ops.toList []
  (List.range ops.size).all (λj=>aqs ops A j)&&
  (List.range ops.size).all λj=>(List.range j).all λi=>y9 A i j||acs ops rs i j
def yE(P:Program)(nt:Nat)(ops:Array Oper)(cB:List (Nat×oJ))(base:Nat):List Oper->Nat->List (Nat×SV)->List aU->List (List Nat×List Nat)
  | [],_,_,_=> []
  |o::r,i,σ,h=>match oF P nt ops cB base i o σ h with
    |some rc=>(rc.R,keys rc.ws)::yE P nt ops cB base r (i+1) (mQ σ o.dst rc.r) (eX h rc.ws)
    |none=> []
section
variable {P:Program} {nt:Nat} {ops:Array Oper} {cB:List (Nat×oJ)} {base:Nat} {σ0:List (Nat×SV)} {h0:List aU}
theorem aq4{σ':List (Nat×SV)}{h':List aU}:∀(l:List Oper) (i:Nat) (σ:List (Nat×SV)) (h:List aU) (cs:List Prop),(∀j,l[j]? =ops[i+j]?)->stt P nt ops cB base σ0 h0 i=some (σ,h)→
    pz P nt ops cB base l i σ h=some (σ',h',cs)→∀j,j<l.length->(yE P nt ops cB base l i σ h).getD j ([],[])=((pq P nt ops cB base σ0 h0 (i+j)).R,keys (pq P nt ops cB base σ0 h0 (i+j)).ws)
  | [],i,σ,h,cs,_,hst,hr,j,hj=>by simp at hj
  |o ::l,i,σ,h,cs,hl,hst,hr,j,hj=>by simp only[pz]at hr;have ho:ops[i]? =some o:=(by simpa using(hl 0).symm);rcases hs:oF P nt ops cB base i o σ h with _|rc;rw[hs]at hr;cases hr;rw[hs]at hr;simp only at hr;cases hrl:pz P nt ops cB base l (i+1) (mQ σ o.dst rc.r) (eX h rc.ws)with
    |none=>rw[hrl]at hr;cases hr
    |some q=>obtain⟨σ1,h1,cs1⟩:=q;have Wx:stt P nt ops cB base σ0 h0 (i+1)=some (mQ σ o.dst rc.r,eX h rc.ws):=(by simp only[stt,hst,ho,hs]);have ih:=aq4 l (i+1) _ _ cs1 (λj=>by have:=hl (j+1);simpa[wN,PD 1 j]using this) Wx hrl;simp only[yE,hs];cases j with|zero=>have hrc:pq P nt ops cB base σ0 h0 i=rc:=(by simp only[pq,hst,ho,hs];rfl);simp[hrc]|succ j=>have:=ih j (by simp at hj;omega);simpa[wN,PD 1 j]using this
theorem ZW{a b:List Nat}(h:meets a b=false){k:Nat}(ha:k∈a):k ∉ b:=by intro hb;unfold meets at h;rw[ajr]at h;exact h k ha (uV.2 hb)
theorem aow{d:Option Nat}{l:List Nat}(h:Qb d l=false){x:Nat}(hd:d=some x):x ∉ l:=by subst hd;intro hx;simp only[Qb]at h;rw[uV.2 hx]at h;cases h
theorem aov{a b:Option Nat}(h:abX a b=false){x:Nat}(ha:a=some x):b≠some x:=by subst ha;intro hb;subst hb;simp only[abX,oW]at h;cases h
theorem aJc{σ' : List (Nat×SV)}{h':List aU}{cs:List Prop}(hr:pz P nt ops cB base ops.toList 0 σ0 h0=some (σ',h',cs))(hok:GH ops (yE P nt ops cB base ops.toList 0 σ0 h0)=true):
    VR (zA ops) (λj=>(pq P nt ops cB base σ0 h0 j).ws) (λi=>(ops.getD i aG).looksAt ops) (λj=>(pq P nt ops cB base σ0 h0 j).R)
      (λi j=>j<ops.size/\y9 (Bq ops.toList []) i j=true) ops.size∧
    ∀j,j<ops.size->(∀k∈Ai (ops.getD j aG),k<j)∧∀i,y9 (Bq ops.toList []) i j=true->i<ops.size→∃k∈Ai (ops.getD j aG),k=i\/y9 (Bq ops.toList []) i k=true:=by
  unfold GH at hok;simp only[dQ,j6,zZ]at hok;obtain⟨h1,h2⟩:=hok;generalize hA:Bq ops.toList []=A at h1 h2⊢;have hW:∀j,j<ops.size->(yE P nt ops cB base ops.toList 0 σ0 h0).getD j ([],[])=((pq P nt ops cB base σ0 h0 j).R,keys (pq P nt ops cB base σ0 h0 j).ws):=by intro j hj;have:=aq4 (base:=base) (h0:=h0) (σ0:=σ0) ops.toList 0 σ0 h0 cs aj rfl hr j (aD hj);simpa using this
  have EH:∀j,j<ops.size->(∀k∈Ai (ops.getD j aG),k<j)∧∀i,y9 A i j=true->i<ops.size->i<j∧∃k∈Ai (ops.getD j aG),k=i\/y9 A i k=true:=by
    intro j hj;have:=h1 j hj;unfold aqs at this;simp only[dQ,j6,zZ]at this;obtain⟨q1,q2⟩:=this;refine⟨λk hk=> ?_,λi hi hin=> ?_⟩
    · have:=q1 k hk;simp only[Nat.blt]at this;exact qN this
    · have:=q2 i hin;rw[hi]at this;simp only[gI,kW,dQ,Vl,pO]at this;obtain⟨q3,k,hk,q4⟩:=this;refine⟨?_,k,hk,?_⟩
      · simp only[Nat.blt]at q3;exact qN q3
      · rcases q4 with q4|q4
        · exact .inl (eG q4)
        · exact .inr q4
  have aMF:∀i j,i<j->j<ops.size->y9 A i j=false->acs ops (yE P nt ops cB base ops.toList 0 σ0 h0) i j=true:=by intro i j hij hj ho;have:=h2 j hj i hij;rw[ho]at this;simpa using this
  have hdst:∀i,i<ops.size->zA ops i=(ops.getD i aG).dst:=by intro i hi;simp[zA,Array.getD,hi]
  have Jr:∀i j,i<j->j<ops.size->y9 A i j=false→
      (Qb (ops.getD j aG).dst ((ops.getD i aG).looksAt ops)=false/\Qb (ops.getD i aG).dst ((ops.getD j aG).looksAt ops)=false/\abX (ops.getD i aG).dst (ops.getD j aG).dst=false∧
       meets (keys (pq P nt ops cB base σ0 h0 j).ws) (pq P nt ops cB base σ0 h0 i).R=false/\meets (keys (pq P nt ops cB base σ0 h0 i).ws) (pq P nt ops cB base σ0 h0 j).R=false∧
       meets (keys (pq P nt ops cB base σ0 h0 i).ws) (keys (pq P nt ops cB base σ0 h0 j).ws)=false):=by
    intro i j hij hj ho;have:=aMF i j hij hj ho;unfold acs at this;rw[hW i ah,hW j hj]at this;simp only[dQ,wQ]at this;obtain⟨⟨⟨⟨⟨q1,q2⟩,q3⟩,q4⟩,q5⟩,q6⟩:=this;exact⟨q1,q2,q3,q4,q5,q6⟩
  have hkey:∀{k:Nat} {o:aU} {ws:List (Nat×aU)},(k,o)∈ws->k∈keys ws:=λ{k o ws} h=>by unfold keys;exact qw.2 ⟨(k,o),h,rfl⟩
  refine⟨⟨λi j h=> ?_,λi j hi hj hne h1 h2 x hd=> ?_,λi j hi hj hne h1 h2 x hd=> ?_,λi j hi hj hne h1 h2 k o hk=> ?_,λi j hi hj hne h1 h2 k o o' hk hk'=> ?_⟩,λj hj=>⟨(EH j hj).1,λi hi hin=>((EH j hj).2 i hi hin).2⟩⟩
  · by_cases hi : i<ops.size
    · exact((EH j h.1).2 i h.2 hi).1
    · -- a bit beyond the last operation cannot be there
      exfalso;have hlt:∀j,j<ops.size→∀i,ops.size<=i->y9 A i j=false:=by
        rw[<-hA];have hacc :∀(l:List Oper) (acc:List Nat) (N:Nat),(∀m∈acc,m<2^N)->(∀o∈l,∀k∈Ai o,k<N)→∀m∈Bq l acc,m<2^N:=by intro l;induction l with
          |nil=>intro acc N ha _ m hm;exact ha m hm
          | cons o l ih=>
            intro acc N ha hd;refine ih _ N (λm hm=> ?_) (λo' ho'=>hd o' (by simp[ho']));simp only[oU,oV]at hm;rcases hm with hm|hm
            · exact ha m hm
            · subst hm;have hor:∀ds:List Nat,(∀k∈ds,k<N)->abC acc ds<2^N:=by intro ds;induction ds with
                |nil=>intro _;exact aiU N
                |cons k ds ihd=>intro hk;simp only[abC];refine aiS (aiS (aru ah (hk k aj)) ?_) (ihd (λk' hk'=>hk k' (by simp[hk'])));rw[fD];rcases he:acc[k]? with _|v;exact aiU N;exact ha v (rJ he)
              exact hor _ (hd o aj)
        have hall:=hacc ops.toList [] ops.size (λm hm=>by cases hm) (λo ho k hk=>by
          obtain⟨j,hj,hjo⟩:=xV ho;have hj':j<ops.size:=aD hj
          have:=(EH j hj').1 k (by
            have e:ops.getD j aG=o:=by rw[<-hjo];simp[Array.getD,hj']
            rw[e];exact hk)
          omega)
        intro j hj i hi;unfold y9;have hm:(Bq ops.toList []).getD j 0<2^ops.size:=(by rw[fD];rcases he:(Bq ops.toList [])[j]? with _|v;exact aiU _;exact hall v (rJ he));exact Nat.testBit_lt_two_pow (xX hm (aiT ah hi))
      rw[hlt j h.1 i ah]at h;cases h.2
  · rw[hdst j hj]at hd;rcases Vs hne with h|h
    · exact aow (Jr i j h hj (by simpa[hj]using h1)).1 hd
    · exact aow (Jr j i h hi (by simpa[hi]using h2)).2.1 hd
  · rw[hdst j hj]at hd;rw[hdst i hi];rcases Vs hne with h|h
    · intro hd';exact aov (Jr i j h hj (by simpa[hj]using h1)).2.2.1 hd' hd
    · exact aov (Jr j i h hi (by simpa[hi]using h2)).2.2.1 hd
  · rcases Vs hne with h|h
    · exact ZW (Jr i j h hj (by simpa[hj]using h1)).2.2.2.1 (hkey hk)
    · exact ZW (Jr j i h hi (by simpa[hi]using h2)).2.2.2.2.1 (hkey hk)
  · rcases Vs hne with h|h
    · exact ZW (Jr i j h hj (by simpa[hj]using h1)).2.2.2.2.2 (hkey hk') (hkey hk)
    · exact ZW (Jr j i h hi (by simpa[hi]using h2)).2.2.2.2.2 (hkey hk) (hkey hk')
end
def cnt(D:Nat->Bool):Nat->Nat
 |0=>0
 |n+1=>cnt D n+(if D n then 0 else 1)
theorem aoi{D:Nat->Bool}{i:Nat}:∀n,n<=i->cnt (wY D i) n=cnt D n
 |0,_=>rfl
 |n+1,h=>by simp only[cnt];rw[aoi n ah,Gj]
theorem aqA{D:Nat->Bool}{i:Nat}(hD:D i=false):∀n,i<n->cnt (wY D i) n+1=cnt D n
 |0,h=>ah
 |n+1,h=>by
  simp only[cnt];by_cases hn:n=i
  .subst hn;rw[aoi n (gy _),UK,hD];simp
  .rw[Gj hn,<-aqA hD n ah];omega
theorem apE{D:Nat->Bool}:∀n,cnt D n=0→∀i,i<n->D i=true
 |0,_,i,h=>ah
 |n+1,h,i,hi=>by
  simp only[cnt]at h;have h1:cnt D n=0:=ah
  by_cases hn:i=n
  .subst hn;cases hD:D i with|true=>rfl|false=>rw[hD]at h;simp at h
  .exact apE n h1 i ah
theorem anF{D:Nat->Bool}:∀n,(∃i,i<n/\D i=false)→∃i,i<n/\D i=false∧∀j,j<i->D j=true
 |0,⟨i,h,_⟩=>ah
 |n+1,⟨i,hi,hD⟩=>by
  by_cases hex:∃i,i<n/\D i=false
  .obtain⟨j,h1,h2,h3⟩:=anF n hex;exact⟨j,ah,h2,h3⟩
  .refine⟨i,hi,hD,λj hj=> ?_⟩;cases lG:D j with|true=>rfl|false=>exact absurd ⟨j,ah,lG⟩ hex
theorem aJh{o:Oper}{e:Edge}(he:e∈o.after)(hb:Region.binds .any e=true):e.on∈Ai o:=by unfold Ai;rw[aa9];exact⟨e,aD he,by rw[hb];rfl⟩
theorem aI1{o:Oper}{k:Nat}(h:k∈Ai o):∃e∈o.after,Region.binds .any e=true/\e.on=k:=by unfold Ai at h;rw[aa9]at h;obtain⟨e,he,hk⟩:=h;rcases hb:Region.binds .any e with _|_;rw[hb]at hk;cases hk;rw[hb]at hk;simp at hk;exact⟨e,aD he,hb,hk⟩
section
variable {P:Program} {X:Mu} {w:World} {m:gV} {h:List aU}
theorem Later.same{w w':World}{m:gV}{M:Mu}(hw:w'.heap=w.heap):Later w m M w' m M:=⟨λ_ _ h=>h,λ_ _ h=>h,λ_ _ _=>by rw[hw],by rw[hw];exact gy _⟩
theorem fJ.same{w':World}(H:fJ X w m h)(hw:w'.heap=w.heap):fJ X w' m h:=by refine⟨λk o hk=> ?_,H.inj,H.used,H.uL,λb hb=>by rw[hw];exact H.xlt b hb⟩;have ho:=H.obj k o hk;cases o with
 |dead=>trivial
 |ms es=>obtain⟨l,b,rows,clock,e1,e2,e3,e4⟩:=ho;exact⟨l,b,rows,clock,e1,e2,by rw[hw];exact e3,e4⟩
 |ra z n cs=>obtain⟨l,b,T,vs,e1,e2,e3,e4,e5,e6,e7,e8,e9,e10⟩:=ho;exact⟨l,b,T,vs,e1,e2,e3,e4,e5,by rw[hw];exact e6,e7,e8,e9,λi x hx=>(e10 i x hx).later (m:=m) (m':=m) (Later.same hw)⟩
 |box cs=>obtain⟨l,b,T,vs,e1,e2,e3,e4,e5⟩:=ho;exact⟨l,b,T,vs,e1,e2,by rw[hw];exact e3,e4.later (Later.same hw),e5⟩
 |arr z n f=>obtain⟨l,e1,e2,e3,e4,e5⟩:=ho;refine⟨l,e1,e2,e3,e4,λb hb=> ?_⟩;obtain⟨e6,T,vs,e7,e8,e9,e10⟩:=e5 b hb;exact⟨e6,T,vs,by rw[hw];exact e7,e8,e9,λi hi=>⟨(e10 i hi).1,λj x hx=>((e10 i hi).2 j x hx).later (m:=m) (m':=m) (Later.same hw)⟩⟩
theorem aHt{nt:Nat}{ops:Array Oper}{cB:List (Nat×oJ)}{id:Nat}{Q:Exit->Act->World->Prop}{σ σ':List (Nat×SV)}{h':List aU}{cs:List Prop}{a:Act}
  (akg:P.follows .mixedOrders=true)
  (hr:pz P nt ops cB h.length ops.toList 0 σ (h++List.replicate (64*ops.size) .dead)=some (σ',h',cs)) (hc:∀q∈cs,q)
  (hok:GH ops (yE P nt ops cB h.length ops.toList 0 σ (h++List.replicate (64*ops.size) .dead))=true)
  (H:fJ X w m h) (hs:Slots w m (MX X m h) nt σ a)
  (hQ:∀a' w' m',zL X w m h w' m' h'->Slots w' m' (MX X m' h') nt σ' a'->a'.defers=a.defers->Q .normal a' w'):(Code.region id ops true).wp P Q a w:=by
 obtain⟨H',hmx,ku⟩:=H.more (64*ops.size);generalize hh0:h++List.replicate (64*ops.size) aU.dead=h0 at hr hok H' hmx ku;generalize hbase:h.length=base at hr hok;obtain⟨I,EH⟩:=aJc hr hok;obtain⟨hend,hall⟩:=ap5 (σ0:=σ) (h0:=h0) ops.toList 0 σ h0 cs aj rfl hr;simp only[nM,ajk]at hend hall;obtain⟨eσ,eh⟩:=ar9 hend
 -- what the steps come to
 let rv:Nat->SV:=λj=>(pq P nt ops cB base σ h0 j).r
 let wv:Nat->List (Nat×aU):=λj=>(pq P nt ops cB base σ h0 j).ws
 have hgo:∀(fuel:Nat) (listed:Array Bool) (a':Act) (w':World) (D:Nat->Bool),listed.size=ops.size->(∀i,listed.getD i false=D i)->cnt D ops.size=fuel→
   (∀j,j<ops.size->D j=true→∀k∈Ai (ops.getD j aG),D k=true)→
   (∃m',zL X w m h0 w' m' (hg wv h0 D ops.size)/\Slots w' m' (MX X m' (hg wv h0 D ops.size)) nt (sg (zA ops) rv σ D ops.size) a'/\a'.defers=a.defers∧
    ∀i,i<ops.size->D i=false→∀k,base+64*i<=k->k<base+64*i+64->(hg wv h0 D ops.size)[k]? =some .dead/\m' k=none)→
   wpAny P .any ops Q fuel listed a' w':=by
  intro fuel;induction fuel with
  |zero=>
   intro listed a' w' D hsz hD hcnt _ hJ;have atS:=apE ops.size hcnt;have hDn:∀j,j<=ops.size->sg (zA ops) rv σ D j=sg (zA ops) rv σ (λ_=>true) j/\hg wv h0 D j=hg wv h0 (λ_=>true) j:=(by intro j;induction j with|zero=>intro _;exact⟨rfl,rfl⟩|succ j ih=>intro hj;obtain⟨e1,e2⟩:=ih ah;simp only[sg,hg,atS j ah,l5,e1,e2];exact⟨trivial,trivial⟩);obtain⟨e1,e2⟩:=hDn ops.size (gy _);refine⟨?_,?_⟩
   .unfold Region.ready;rw[Px];intro i hi;have hi:=zZ.1 hi;have:listed.getD i true=true:=(by have h1:=hD i;rw[atS i hi]at h1;simpa[Array.getD,hsz,hi]using h1);simp[this]
   .obtain⟨m',hF,hS,hd,_⟩:=hJ;rw[e2]at hF;rw[e1,e2]at hS;have hF':zL X w m h w' m' h':=(by obtain⟨f1,f2,f3,f4,f5,f6,f7⟩:=hF;rw[eh];exact⟨f1,by rw[<-hmx];exact f2,f3,f4,f5,λb hb hM=>f6 b hb (λh1=>hM ((ku b).1 h1)),λb hb=>(f7 b hb).imp (ku b).1 (λh=>h)⟩);exact hQ a' w' m' hF' (by rw[eσ,eh];exact hS) hd
  | succ fuel ih=>
   intro listed a' w' D hsz hD hcnt atX hJ;have arM:∀i,i∈Region.ready .any ops listed ↔ i<ops.size/\D i=false∧∀k∈Ai (ops.getD i aG),D k=true:=by
    intro i;unfold Region.ready;rw[Gq,zZ];constructor
    .rintro⟨hi,hb⟩;simp only[dQ,wQ]at hb;obtain⟨b1,b2⟩:=hb;have ho:ops[i]? =some (ops.getD i aG):=(by simp[Array.getD,hi]);rw[ho]at b2;simp only[Vu,Lp,asV]at b2;refine⟨hi,?_,λk hk=> ?_⟩
     .rw[<-hD i];simpa[Array.getD,hsz,hi]using b1
     .obtain⟨e,he,hb,rfl⟩:=aI1 hk;have:=b2 e he;rw[hb]at this;rw[<-hD];simpa using this
    .rintro⟨hi,h1,h2⟩;refine⟨hi,?_⟩;have ho:ops[i]? =some (ops.getD i aG):=(by simp[Array.getD,hi]);simp only[dQ,wQ];refine⟨?_,?_⟩
     .have:=hD i;rw[h1]at this;simpa[Array.getD,hsz,hi]using this
     .rw[ho];simp only[Vu,Lp,asV];intro e he;rcases hb:Region.binds .any e with _|_;simp;have:=h2 e.on (aJh he hb);rw[<-hD]at this;simpa using this
   -- closed under what comes before
   have hcl:∀j,j<ops.size→∀i,y9 (Bq ops.toList []) i j=true->D j=true->D i=true:=by intro j;induction j using Nat.strongRecOn with
    |_ j ihj=>
     intro hj i hi lG;have hlt:=I.lt i j ⟨hj,hi⟩;obtain⟨k,hk,hki⟩:=(EH j hj).2 i hi ah;have hkj:=(EH j hj).1 k hk;have Xa:=atX j hj lG k hk;rcases hki with rfl|hki
     .exact Xa
     .exact ihj k hkj ah i hki Xa
   refine⟨λhemp=> ?_,λi hi=> ?_⟩
   .exfalso;have hex:∃i,i<ops.size/\D i=false:=(by apply ajn;intro hno;have:∀n,n<=ops.size->cnt D n=0:=(by intro n;induction n with|zero=>intro _;rfl|succ n ihn=>intro hn;have hDn:D n=true:=(by cases hx:D n with|true=>rfl|false=>exact absurd ⟨n,ah,hx⟩ hno);simp[cnt,ihn ah,hDn]);rw[this ops.size (gy _)]at hcnt;omega);obtain⟨i,h1,h2,h3⟩:=anF ops.size hex;have:i∈Region.ready .any ops listed:=(arM i).2 ⟨h1,h2,λk hk=>h3 k ((EH i h1).1 k hk)⟩;rw[hemp]at this;cases this
   .obtain⟨hin,QU,hpre⟩:=(arM i).1 hi;obtain⟨o,σi,hi',ho,hst,hstep,aMB⟩:=hall i ah hin;obtain⟨e1,e2⟩:=ar9 hst;obtain⟨m',hF,hS,hd,hfresh⟩:=hJ;have hod:ops.getD i aG=o:=(by simp[Array.getD,hin]at ho⊢;exact ho);have hp:∀j,(i<ops.size/\y9 (Bq ops.toList []) j i=true)->D j=true:=by
     intro j hj;have hlt:=I.lt j i hj;obtain⟨k,hk,hki⟩:=(EH i hin).2 j hj.2 ah;have Xa:=hpre k hk;have hkj:=(EH i hin).1 k hk;rcases hki with rfl|hki
     .exact Xa
     .exact hcl k ah j hki Xa
    have hcl':∀i j,j<ops.size->(j<ops.size/\y9 (Bq ops.toList []) i j=true)->D j=true->D i=true:=λi j hj h lG=>hcl j hj i h.2 lG;have arN:oF P nt ops cB base i o (sg (zA ops) rv σ D ops.size) (hg wv h0 D ops.size)=some (pq P nt ops cB base σ h0 i):=by
     refine aG7 hstep (λx hx=> ?_) (λk hk=> ?_)
     .rw[e1];exact(aKD I hcl' hin QU hp (by rw[hod];exact hx)).symm
     .rw[e2];unfold eB;rw[aLa (h0:=h0) I hcl' hin QU hp hk]
    have hdst:zA ops i=o.dst:=(by simp[zA,ho]);unfold wpOp;rw[ho];simp only
    have hmain:=an9 (P:=P) (Q:=Q) hF.rel (λk h1 h2=>hfresh i hin QU k h1 h2) hS arN (λq hq=>hc q (aMB q hq))
     (K :=wpAny P .any ops Q fuel (listed.setIfInBounds i true)) (λw1 m1 v hSt hSl=>by
      have eh':=aK9 (h0:=h0) I hcl' hin QU;have aMx:Slots w1 m1 (MX X m1 (hg wv h0 (wY D i) ops.size)) nt (sg (zA ops) rv σ (wY D i) ops.size) (a'.put o.dst v):=(by refine⟨hSl.1,λx s hx=> ?_⟩;rw[aLz I hcl' hin QU x]at hx;rw[hdst]at hx;rw[eh'];exact hSl.2 x s hx);refine ih (listed.setIfInBounds i true) _ w1 (wY D i) (by simp[hsz]) (λj=> ?_) (by have:=aqA QU ops.size hin;omega) (λj hj lG k hk=> ?_) ⟨m1,?_,aMx,?_,λj hj lG k hk1 hk2=> ?_⟩
      .by_cases hji:j=i
       .subst hji;rw[UK];simp[Array.getD,hsz,hin]
       .rw[Gj hji,<-hD j];simp only[Array.getD_eq_getD_getElem?];rw[asj (λe=>hji e.symm)]
      .by_cases hji:j=i
       .subst hji;have:=hpre k hk;unfold wY;rw[this];rfl
       .rw[Gj hji]at lG;have:=atX j hj lG k hk;unfold wY;rw[this];rfl
      .rw[eh'];exact hF.trans hSt.far
      .rw[<-hd];cases o.dst<;>rfl
      .have hji:j≠i:=(by intro e;subst e;rw[UK]at lG;cases lG);rw[Gj hji]at lG;obtain⟨yg,hnone⟩:=hfresh j hj lG k hk1 hk2;have hne:∀ob,(k,ob) ∉ (pq P nt ops cB base σ h0 i).ws:=by
        intro ob qF;rcases aoE arN k ob qF with h3|h3
        .omega
        .have:eB (hg wv h0 D ops.size) k=.dead:=(by simp[eB,yg]);rw[this]at h3;exact h3.elim
       have hd2:(eX (hg wv h0 D ops.size) (pq P nt ops cB base σ h0 i).ws)[k]? =some .dead:=by rw[xL _ _ k hne];exact yg
       exact⟨by rw[eh'];exact hd2,hSt.nw k yg hd2 hnone⟩)
    split
    .rename_i hw;rw[bW hw]at hmain;exact .inl hmain
    .rename_i hw;rw[dn hw]at hmain;exact hmain
 refine wp_region_any akg (hgo ops.size _ a _ (λ_=>false) aj (λi=>by simp[Array.getD]) ?_ (λj _ h=>by cases h) ⟨m,?_,?_,rfl,λi hi _ k h1 h2=> ?_⟩)
 .have:∀n,cnt (λ_=>false) n=n:=by intro n;induction n with|zero=>rfl|succ n ih=>simp[cnt,ih]
  exact this _
 .have hz:∀n,hg wv h0 (λ_=>false) n=h0:=by intro n;induction n with|zero=>rfl|succ n ih=>simp[hg,ih]
  rw[hz];exact⟨H'.same rfl,⟨λ_ _ h=>h,λ_ _ h=>h,λ_ _ _=>rfl,gy _⟩,rfl,rfl,⟨rfl,λ_=>abg _⟩,λ_ _ _=>rfl,λ_ h=> .inl h⟩
 .have hz:∀n,hg wv h0 (λ_=>false) n=h0/\sg (zA ops) rv σ (λ_=>false) n=σ:=by intro n;induction n with|zero=>exact⟨rfl,rfl⟩|succ n ih=>simp[hg,sg,ih.1,ih.2]
  rw[(hz _).1,(hz _).2,hmx];refine⟨hs.1,λx s hx=> ?_⟩;obtain⟨v,hv,iN⟩:=hs.2 x s hx;have hL:Later w m (MX X m h) {w with drawn:=w.drawn+1} m (MX X m h):=⟨λ_ _ h=>h,λ_ _ h=>h,λ_ _ _=>rfl,gy _⟩;exact⟨v,hv,eZ.later hL iN⟩
 .have hz:∀n,hg wv h0 (λ_=>false) n=h0:=by intro n;induction n with|zero=>rfl|succ n ih=>simp[hg,ih]
  rw[hz,<-hh0];refine⟨?_,H.used k ah⟩;rw[uo ah,Eb,bW ah]
end
section
variable {c x y:Code}{ops:Array Oper}{h':List aU}
structure abl(w0:World)(M0:Mu)(w:World):Prop where
 os:w.os=w0.os
 tape:w.tape=w0.tape
 output:oG w0 w
 size:w0.heap.size<=w.heap.size
 keep:∀b,b<w0.heap.size→¬M0 b->w.heap[b]? =w0.heap[b]?
structure Rel(Df:List Deferred)(X:Mu)(w0:World)(M0:Mu)(m0:gV)(p nt:Nat)(st:St)(a:Act)(w:World):Prop where
 defers:a.defers=Df
 frame:abl w0 M0 w
 ex:∃m,fJ X w m st.h/\Slots w m (MX X m st.h) nt st.σ a/\(∀b,iO m st.h b->M0 b\/w0.heap.size<=b)∧∀j l,j<p->m0 j=some l->m j=some l
def nL(P:Program)(nt p:Nat)(c:Code)(Q:Exit->St->Prop)(st:St):Prop:=
 ∀Df X w0 M0 m0 a w,Rel Df X w0 M0 m0 p nt st a w->c.wp P (λe a' w'=>∃st',Q e st'/\Rel Df X w0 M0 m0 p nt st' a' w') a w
section
variable {P:Program} {nt p:Nat} {Q Q':Exit->St->Prop} {st:St}
theorem D5(h:nL P nt p c Q st)(hq:∀e s,Q e s->Q' e s):nL P nt p c Q' st:=
 λDf X w0 M0 m0 a w R=>wp_mono (h Df X w0 M0 m0 a w R) (λe a w ⟨s,q,r⟩=>⟨s,hq e s q,r⟩)
def ajP(N:St->Prop)(Q:Exit->St->Prop):Exit->St->Prop
 | .normal,s=>N s
 |e,s=>Q e s
theorem aa0(h:nL P nt p x (ajP (nL P nt p y Q) Q) st):nL P nt p (.seq x y) Q st:=by intro Df X w0 M0 m0 a w R;refine wp_seq (wp_mono (h Df X w0 M0 m0 a w R) (λe a' w' hq=> ?_));obtain⟨s,q,r⟩:=hq;cases e with|normal=>exact q Df X w0 M0 m0 a' w' r|_=>exact⟨s,q,r⟩
theorem aJK(h:Q .normal st):nL P nt p .skip Q st:=λDf X w0 M0 m0 a w R=>wp_skip ⟨st,h,R⟩
theorem arh(h:Q .ret st):nL P nt p .ret Q st:=λDf X w0 M0 m0 a w R=>wp_ret ⟨st,h,R⟩
theorem aJI{id:Nat}(h:Q (.exit id) st):nL P nt p (.exit id) Q st:=λDf X w0 M0 m0 a w R=>wp_exit ⟨st,h,R⟩
def aiV(id:Nat)(Q:Exit->St->Prop):Exit->St->Prop
 | .exit j,s=>if j=id then Q .normal s else Q (.exit j) s
 |e,s=>Q e s
theorem aIM{id:Nat}(h:nL P nt p c (aiV id Q) st):nL P nt p (.block id c) Q st:=by intro Df X w0 M0 m0 a w R;refine wp_block (wp_mono (h Df X w0 M0 m0 a w R) (λe a' w' hq=> ?_));obtain⟨s,q,r⟩:=hq;cases e with
 |exit j=>
  simp only[Exit.inBlock,aiV]at q⊢;split
  .rename_i hj;rw[bW hj]at q;exact⟨s,q,r⟩
  .rename_i hj;rw[dn hj]at q;exact⟨s,q,r⟩
 |_=>exact⟨s,q,r⟩
def abp(st:St)(c:Operand):Option Bool:=
 match j3 st.σ c with
 |some (.one (.s (.c (.val (.bool b)))))=>some b
 |_=>none
theorem aJU(σ:List (Nat×SV))(x:Operand):∃L,j3 (cut σ L) x=j3 σ x:=by cases x with|tmp t=>exact⟨[t],by simp only[j3];exact IV σ t [t] aj⟩|_=>exact⟨[],rfl⟩
theorem ahW{c:Operand}{b:Bool}(hb:abp st c=some b)(ht:b=true->nL P nt p x Q st)(hf:b=false->nL P nt p y Q st):nL P nt p (.cond c x y) Q st:=by
 intro Df X w0 M0 m0 a w R;obtain⟨m,H,hs,hm,hj⟩:=R.ex;unfold abp at hb;have hev:a.eval c=.bool b:=by
  split at hb
  .rename_i b' hc;cases hb;obtain⟨L,hL⟩:=aJU st.σ c;have:=aqT hs (L:=L) c _ (by rw[hL];exact hc);generalize a.eval c=v at this;cases this with|c hv=>cases hv;rfl
  .cases hb
 cases b with|true=>exact wp_cond_true hev (ht rfl Df X w0 M0 m0 a w R)|false=>exact wp_cond_false hev (hf rfl Df X w0 M0 m0 a w R)
theorem exists_least(p:Nat->Prop):(∃n,p n)→∃n,p n∧∀k,p k->n<=k:=by rintro⟨n,hn⟩;induction n using Nat.strongRecOn with
 |_ n ih=>
  by_cases h:∃k,k<n/\p k
  .obtain⟨k,hk,hp⟩:=h;exact ih k hk hp
  .exact⟨n,hn,λk hk=>Nat.le_of_not_lt (λhlt=>h ⟨k,hlt,hk⟩)⟩
theorem aJJ(I:Nat->St->Prop){n:Nat}(h0:I n st)(hr:∀n s,I n s->nL P nt p c (ajP (λs'=>∃n',n'<n/\I n' s') Q) s):nL P nt p (.loop c) Q st:=by
 intro Df X w0 M0 m0 a w R;let J:Act->World->Prop:=λa w=>∃n s,I n s/\Rel Df X w0 M0 m0 p nt s a w
 have hex:∀a w,J a w→∃n,∃s,I n s/\Rel Df X w0 M0 m0 p nt s a w:=λa w h=>h
 open Classical in
 let μ:Act->World->Nat:=λa w=>if h:∃n,∃s,I n s/\Rel Df X w0 M0 m0 p nt s a w then Classical.choose (exists_least _ h)else 0
 refine wp_loop J μ ⟨n,st,h0,R⟩ (λa w hJ=> ?_);have hJ':∃n,∃s,I n s/\Rel Df X w0 M0 m0 p nt s a w:=hJ;have hμ:μ a w=Classical.choose (exists_least _ hJ'):=by simp only[μ];rw[dif_pos hJ']
 obtain⟨s,hI,hR⟩:=(asr (exists_least _ hJ')).1;refine wp_mono (hr _ s hI Df X w0 M0 m0 a w hR) (λe a' w' hq=> ?_);obtain⟨s',q,r⟩:=hq;cases e with
 |normal=>
  obtain⟨n',hlt,hI'⟩:=q;have hJ2:∃n,∃s,I n s/\Rel Df X w0 M0 m0 p nt s a' w':=⟨n',s',hI',r⟩;refine⟨⟨n',s',hI',r⟩,?_⟩;have hμ':μ a' w'=Classical.choose (exists_least _ hJ2):=by simp only[μ];rw[dif_pos hJ2]
  rw[hμ,hμ'];exact Nat.lt_of_le_of_lt ((asr (exists_least _ hJ2)).2 n' ⟨s',hI',r⟩) hlt
 |_=>exact⟨s',q,r⟩
theorem Rel.far{Df:List Deferred}{X:Mu}{w0:World}{M0:Mu}{m0:gV}{a a':Act}{w w':World}{m m':gV}{st':St}(R:Rel Df X w0 M0 m0 p nt st a w)(hm:∀b,iO m st.h b->M0 b\/w0.heap.size<=b)(hj:∀j l,j<p->m0 j=some l->m j=some l)
  (hF:zL X w m st.h w' m' st'.h) (hs:Slots w' m' (MX X m' st'.h) nt st'.σ a') (hd:a'.defers=a.defers):Rel Df X w0 M0 m0 p nt st' a' w':=by
 refine⟨by rw[hd];exact R.defers,⟨by rw[hF.os,R.frame.os],by rw[hF.tape,R.frame.tape],R.frame.output.trans hF.output,vv R.frame.size hF.later.size,λb hb hM=> ?_⟩,m',hF.rel,hs,λb hb=> ?_,λj l hp h0=>hF.later.ext j l (hj j l hp h0)⟩
 .rw[hF.keep b (xX hb R.frame.size) (λh1=>by rcases hm b h1 with h2|h2;exact hM h2;omega),R.frame.keep b hb hM]
 .rcases hF.mt b hb with h1|h1
  .exact hm b h1
  .exact .inr (vv R.frame.size h1)
def acL(P:Program)(nt:Nat)(ops:Array Oper)(cB:List (Nat×oJ))(st:St):Option (List (Nat×SV)×List aU×List Prop):=
 pz P nt ops cB st.h.length ops.toList 0 st.σ (st.h++List.replicate (64*ops.size) .dead)
def okR(P:Program)(nt:Nat)(ops:Array Oper)(cB:List (Nat×oJ))(st:St):Bool:=
 GH ops (yE P nt ops cB st.h.length ops.toList 0 st.σ (st.h++List.replicate (64*ops.size) .dead))
def CG:List Prop->Prop
 | []=>True
 |p::r=>p/\CG r
theorem CG.mem:∀{l:List Prop},CG l→∀q∈l,q
 | [],_,q,h=>by cases h
 |p::r,⟨h1,h2⟩,q,h=>by cases h with|head=>exact h1|tail _ h=>exact CG.mem h2 q h
theorem aHY{id:Nat}(cB:List (Nat×oJ)){σ':List (Nat×SV)}{cs:List Prop}(hr:acL P nt ops cB st=some (σ',h',cs))(hc:CG cs)(hQ:Q .normal ⟨σ',h'⟩):
  nL P nt p (.region id ops false) Q st:=by
 intro Df X w0 M0 m0 a w R;obtain⟨m,H,hs,hm,hj⟩:=R.ex;exact aHu hr hc.mem H hs (λa' w' m' hF hS hd=>⟨⟨σ',h'⟩,hQ,R.far (st':=⟨σ',h'⟩) hm hj hF hS hd⟩)
theorem aEL{id:Nat}(cB:List (Nat×oJ)){σ':List (Nat×SV)}{cs:List Prop}(akg:P.follows .mixedOrders=true)(hr:acL P nt ops cB st=some (σ',h',cs))(hc:CG cs)(hok:okR P nt ops cB st=true)
  (hQ:Q .normal ⟨σ',h'⟩):nL P nt p (.region id ops true) Q st:=by
 intro Df X w0 M0 m0 a w R;obtain⟨m,H,hs,hm,hj⟩:=R.ex;exact aHt akg hr hc.mem hok H hs (λa' w' m' hF hS hd=>⟨⟨σ',h'⟩,hQ,R.far (st':=⟨σ',h'⟩) hm hj hF hS hd⟩)
end
def Le(p:Nat)(st st':St):Prop:=∀X w m nt a,fJ X w m st.h->Slots w m (MX X m st.h) nt st.σ a→∃m',fJ X w m' st'.h/\Slots w m' (MX X m' st'.h) nt st'.σ a/\(∀b,iO m' st'.h b->iO m st.h b)∧∀j l,j<p->m j=some l->m' j=some l
theorem Rel.le{Df:List Deferred}{X:Mu}{w0:World}{M0:Mu}{m0:gV}{p nt:Nat}{st st':St}{a:Act}{w:World}(R:Rel Df X w0 M0 m0 p nt st a w)(h:Le p st st'):Rel Df X w0 M0 m0 p nt st' a w:=by obtain⟨m,H,hs,hm,hj⟩:=R.ex;obtain⟨m',H',hs',hm',hj'⟩:=h X w m nt a H hs;exact⟨R.defers,R.frame,m',H',hs',λb hb=>hm b (hm' b hb),λj l hp h0=>hj' j l hp (hj j l hp h0)⟩
theorem Bc{P:Program}{nt p:Nat}{Q:Exit->St->Prop}{st st':St}(h:Le p st st')(hw:nL P nt p c Q st'):nL P nt p c Q st:=
 λDf X w0 M0 m0 a w R=>hw Df X w0 M0 m0 a w (R.le h)
def idxOf(k:Nat):List Nat->Nat->Option Nat
 | [],_=>none
 |j::r,i=>bif Nat.beq j k then some i else idxOf k r (i+1)
def SC.ren.QJ(ρ:Nat->Option Nat):List Nat->Option (List Nat)
 | []=>some []
 |k::r=>match ρ k,SC.ren.QJ ρ r with
  |some j,some l=>some (j::l)
  |_,_=>none
def SC.ren(ρ:Nat->Option Nat):SC->SC
 | .own k=>match ρ k with
  |some j=> .own j
  |none=> .bot
 | .sl k lo len=>match ρ k with
  |some j=> .sl j lo len
  |none=> .bot
 | .pb k off=>match ρ k with
  |some j=> .pb j off
  |none=> .bot
 | .pe k i off=>match ρ k with
  |some j=> .pe j i off
  |none=> .bot
 | .fn f ks=>match SC.ren.QJ ρ ks with
  |some js=> .fn f js
  |none=> .bot
 | .mp k=>match ρ k with
  |some j=> .mp j
  |none=> .bot
 | .fb f k off=>match ρ k with
  |some j=> .fb f j off
  |none=> .bot
 |x=>x
def AV.ren(ρ:Nat->Option Nat):AV->AV
 | .s x=> .s (x.ren ρ)
 | .agg cs=> .agg (cs.map (SC.ren ρ))
def SV.ren(ρ:Nat->Option Nat):SV->SV
 | .one a=> .one (a.ren ρ)
 | .mY as'=> .mY (as'.map (AV.ren ρ))
def aU.ren(ρ:Nat->Option Nat):aU->aU
 | .box cs=> .box (cs.map (SC.ren ρ))
 | .ra z n cs=> .ra z n (cs.map (SC.ren ρ))
 |o=>o
section
variable {w:World} {m m':gV} {M M':Mu} {ρ:Nat->Option Nat}
theorem dU.ren(hρ:∀k j l,ρ k=some j->m k=some l->m' j=some l)(hM:∀b,b<w.heap.size→¬M b→¬M' b){x:SC}{v:Value}(h:dU w m M x v):dU w m' M' (x.ren ρ) v:=by have hL:Later w m M w (λk=>m k) M':=⟨λ_ _ h=>h,hM,λ_ _ _=>rfl,gy _⟩;cases h with
 |c h=>exact .c (h.later hL)
 |rp cs b off c hb hs hc h=>exact .rp cs b off c (hM b hs hb) hs hc (λj x hx=>(h j x hx).later hL)
 |sl k lo len l a c hk h0 h1 h2 h3=>simp only[SC.ren];rcases hr:ρ k with _|j;exact .bot _;exact .sl j lo len l a c (hρ k j l hr hk) h0 h1 h2 h3
 |own k l hk=>simp only[SC.ren];rcases hr:ρ k with _|j;exact .bot _;exact .own j l (hρ k j l hr hk)
 |pb k off b l hk hb=>simp only[SC.ren];rcases hr:ρ k with _|j;exact .bot _;exact .pb j off b l (hρ k j l hr hk) hb
 |pe k i off b l hk hb hi=>simp only[SC.ren];rcases hr:ρ k with _|j;exact .bot _;exact .pe j i off b l (hρ k j l hr hk) hb hi
 |fn f caps vs hs h=>
  simp only[SC.ren];rcases hr:SC.ren.QJ ρ caps with _|js;exact .bot _;have:∀(ks js:List Nat),SC.ren.QJ ρ ks=some js->ks.length=js.length∧∀(i:Nat) j,js[i]? =some j→∃k,ks[i]? =some k/\ρ k=some j:=by intro ks;induction ks with
   |nil=>intro js hj;simp[SC.ren.QJ]at hj;subst hj;exact⟨rfl,λi j h=>by simp at h⟩
   |cons k ks ih=>
    intro js hj;simp only[SC.ren.QJ]at hj;split at hj
    .rename_i j l h1 h2;cases hj;obtain⟨q1,q2⟩:=ih l h2;refine⟨by simp[q1],λi j' hi=> ?_⟩;cases i with|zero=>simp at hi;subst hi;exact⟨k,rfl,h1⟩|succ i=>simpa using q2 i j' (aD hi)
    .cases hj
  obtain⟨q1,q2⟩:=this caps js hr;refine .fn f js vs (by rw[hs,q1]) (λi j hi=> ?_);obtain⟨k,hk,hkj⟩:=q2 i j hi;obtain⟨l,b,e1,e2,e3⟩:=h i k hk;exact⟨l,b,hρ k j l hkj e1,e2,e3⟩
 |mp k b l hk hb=>simp only[SC.ren];rcases hr:ρ k with _|j;exact .bot _;exact .mp j b l (hρ k j l hr hk) hb
 |fb f k off b l hk hb=>simp only[SC.ren];rcases hr:ρ k with _|j;exact .bot _;exact .fb f j off b l (hρ k j l hr hk) hb
 |bot v=>exact .bot v
theorem nY.ren(hρ:∀k j l,ρ k=some j->m k=some l->m' j=some l)(hM:∀b,b<w.heap.size→¬M b→¬M' b){cs:List SC}{vs:Array Value}(h:nY w m M cs vs):nY w m' M' (cs.map (SC.ren ρ)) vs:=by refine⟨by simp[h.1],λi x hx=> ?_⟩;rw[mW]at hx;rcases hy:cs[i]? with _|y;rw[hy]at hx;cases hx;rw[hy]at hx;cases hx;exact dU.ren hρ hM (h.2 i y hy)
theorem jo.ren(hρ:∀k j l,ρ k=some j->m k=some l->m' j=some l)(hM:∀b,b<w.heap.size→¬M b→¬M' b){x:AV}{v:Value}(h:jo w m M x v):jo w m' M' (x.ren ρ) v:=by cases x with|s x=>exact dU.ren hρ hM h|agg cs=>obtain⟨vs,rfl,hL⟩:=h;exact⟨vs,rfl,hL.ren hρ hM⟩
theorem eZ.ren(hρ:∀k j l,ρ k=some j->m k=some l->m' j=some l)(hM:∀b,b<w.heap.size→¬M b→¬M' b){x:SV}{v:Value}(h:eZ w m M x v):eZ w m' M' (x.ren ρ) v:=by cases x with|one x=>exact jo.ren hρ hM h|mY as'=>obtain⟨vs,rfl,hz,hs⟩:=h;refine⟨vs,rfl,by simp[hz],λi a ha=> ?_⟩;rw[mW]at ha;rcases hy:as'[i]? with _|y;rw[hy]at ha;cases ha;rw[hy]at ha;cases ha;exact jo.ren hρ hM (hs i y hy)
end
end
end Go.AM
namespace Go.AM
open Go Go.RowKit Go.CP
variable [Fuel]
def aMq(g:Nat->aU)(h':List aU)(src:List (Option Nat))(Z:Nat->Prop)(x:SC)(y:CV):Prop:=
 (∃x',x=.c x'/\x'.eqv y)∨∃(k:Nat) (t:Ty) (xs:List (den t)),x=.own k/\Z k/\g k=.arr (wd t) xs.length (fE t xs)/\(∀j:Nat,src[j]? =some (some k)->h'[j]? =some aU.dead)/\(y=.ls t xs\/(y=.lW t xs/\xs≠ []))
inductive qh(g:Nat->aU)(h':List aU)(src:List (Option Nat))(Z:Nat->Prop):SC->SC->Prop
 |bot (x:SC):qh g h' src Z x .bot
 |c {x y:CV} (e:x.eqv y):qh g h' src Z (.c x) (.c y)
 |rp (cs:List CV):qh g h' src Z (.rp cs) (.rp cs)
 |own {k j:Nat} (hj:src[j]? =some (some k)):qh g h' src Z (.own k) (.own j)
 |gh {j z:Nat} {f:Nat->List CV} (hj:src[j]? =some none) (ho:h'[j]? =some (.arr z 0 f)):qh g h' src Z (.c (.val (.slice none 0 0))) (.own j)
 |yF {k:Nat} {t:Ty} {xs:List (den t)} (hz:Z k) (hk:g k=.arr (wd t) xs.length (fE t xs)) (hn:∀j:Nat,src[j]? =some (some k)->h'[j]? =some aU.dead):qh g h' src Z (.own k) (.c (.ls t xs))
 |frn {k:Nat} {t:Ty} {xs:List (den t)} (hz:Z k) (hk:g k=.arr (wd t) xs.length (fE t xs)) (hn:∀j:Nat,src[j]? =some (some k)->h'[j]? =some aU.dead) (hx:xs≠ []):qh g h' src Z (.own k) (.c (.lW t xs))
 |frp {k:Nat} {cs:List SC} {ys:List CV} (hz:Z k) (hk:g k=.box cs) (he:∀(i:Nat) y,ys[i]? =some y→∃x,cs[i]? =some x/\aMq g h' src Z x y) (hn:∀j:Nat,src[j]? =some (some k)->h'[j]? =some aU.dead):qh g h' src Z (.pb k 0) (.rp ys)
 |pb {k j off:Nat} (hj:src[j]? =some (some k)):qh g h' src Z (.pb k off) (.pb j off)
 |mp {k j:Nat} (hj:src[j]? =some (some k)):qh g h' src Z (.mp k) (.mp j)
 |fb {f:FuncId} {k j off:Nat} (hj:src[j]? =some (some k)):qh g h' src Z (.fb f k off) (.fb f j off)
 |pe {k j i off:Nat} (hj:src[j]? =some (some k)):qh g h' src Z (.pe k i off) (.pe j i off)
 |fn {f:FuncId} {ks js:List Nat} (hl:ks.length=js.length) (hj:∀(i j:Nat),js[i]? =some j→∃k,ks[i]? =some k/\src[j]? =some (some k)):qh g h' src Z (.fn f ks) (.fn f js)
def zF(g:Nat->aU)(h':List aU)(src:List (Option Nat))(Z:Nat->Prop)(cs cs':List SC):Prop:=
 cs.length=cs'.length∧∀(i:Nat) x',cs'[i]? =some x'→∃x,cs[i]? =some x/\qh g h' src Z x x'
def Qe(g:Nat->aU)(h':List aU)(src:List (Option Nat))(Z:Nat->Prop):AV->AV->Prop
 | .s x,.s y=>qh g h' src Z x y
 | .agg xs,.agg ys=>zF g h' src Z xs ys
 |_,_=>False
def CJ(g:Nat->aU)(h':List aU)(src:List (Option Nat))(Z:Nat->Prop):SV->SV->Prop
 | .one x,.one y=>Qe g h' src Z x y
 | .mY xs,.mY ys=>xs.length=ys.length∧∀(i:Nat) y,ys[i]? =some y→∃x,xs[i]? =some x/\Qe g h' src Z x y
 |_,_=>False
def ab6(g:Nat->aU)(h':List aU)(src:List (Option Nat))(Z:Nat->Prop):aU->aU->Prop
 | .box xs,.box ys=>zF g h' src Z xs ys
 | .arr z n f,.arr z' n' f'=>z=z'/\n=n'/\f=f'
 | .ms a,.ms b=>a=b
 | .ra z n xs,.ra z' n' ys=>z=z'/\n=n'/\zF g h' src Z xs ys
 |_,_=>False
structure vQ(p:Nat)(g:Nat->aU)(h':List aU)(src:List (Option Nat))(Z:Nat->Prop):Prop where
 len:src.length=h'.length
 obj:∀(j:Nat) o',h'[j]? =some o'->o'=.dead\/(∃k,src[j]? =some (some k)/\ab6 g h' src Z (g k) o')\/(src[j]? =some none∧∃z f,o'=.arr z 0 f)
 nod:∀(i j k:Nat),src[i]? =some (some k)->src[j]? =some (some k)->h'[i]? ≠some aU.dead->h'[j]? ≠some aU.dead->i=j
 pre:∀(j:Nat),j<p->src[j]? =some (some j)
def mO(m:gV)(h':List aU)(src:List (Option Nat)):gV:=λj=>
 match src[j]? with
 |some (some k)=>m k
 |some none=>match h'[j]? with
  |some (.arr z _ _)=>some ⟨none,0,z,none,0⟩
  |_=>none
 |none=>none
theorem ab6.live{g:Nat->aU}{h':List aU}{src:List (Option Nat)}{Z:Nat->Prop}{o o':aU}(e:ab6 g h' src Z o o'):o.live:=by cases o<;>cases o'<;>first|(cases e;done)|trivial
theorem ajb{X:Mu}{w:World}{m:gV}{h:List aU}(H:fJ X w m h){k z n:Nat}{f:Nat->List CV}(hk:eB h k=.arr z n f){M':Mu}(hM:∀b,b<w.heap.size→¬MX X m h b→¬M' b)(hMk:∀l b,m k=some l->l.blk=some b→¬M' b)
  {v:Value} (hs:dU w m (MX X m h) (.own k) v):lC w M' (.rd z n f) v:=by
 have hL:Later w m (MX X m h) w m M':=⟨λ_ _ h=>h,hM,λ_ _ _=>rfl,gy _⟩;cases hs with
 |own _ l hmk=>
  have hn:=VW H hk hmk;subst hn;by_cases hl0:l.n=0
  .rw[hl0];exact .qm z f _ _
  .obtain⟨l',e1,e2,e3,e4,e5⟩:=H.obj k _ (oP hk trivial);rw[hmk]at e1;cases e1;rcases hb:l.blk with _|b;have:=e4 hb;omega;obtain⟨e6,T,vs,e7,e8,e9,e10⟩:=e5 b hb;rw[e6];have hz:l.n*z<=vs.size:=(by rw[e8];exact jS _ e3.2);refine .rd z l.n f b 0 l.cap (λq=>vs.getD q undef) (hMk l b hmk hb) (lt_of_block e7) e3.2 (λi hi=>(e10 i hi).1) (λq hq=> ?_) (λq hq=>e9 _ ah) (λi q y hi hy=>((e10 i hi).2 q y hy).later hL);rw[cell_of_row w b _ vs T _ e7];have:q<vs.size:=ah;simp[Array.getD,this]
section
variable {X X':Mu} {w:World} {m:gV} {g:Nat->aU} {h h':List aU} {src:List (Option Nat)} {Z:Nat->Prop} {p:Nat}
def CO(g:Nat->aU)(h:List aU):Prop:=∀k,(g k).live->h[k]? =some (g k)
theorem vQ.mut(F:vQ p g h' src Z)(hg:CO g h){b:Nat}(hb:iO (mO m h' src) h' b):∃(j k:Nat) (l:Loc),src[j]? =some (some k)/\h[k]? =some (g k)/\(g k).live/\m k=some l/\l.blk=some b/\h'[j]? ≠some aU.dead:=by
 obtain⟨j,o',l,hj,hl,hm,hbk⟩:=hb;rcases F.obj j o' hj with rfl|⟨k,h1,h3⟩|⟨h1,z,f,rfl⟩
 .exact hl.elim
 .unfold mO at hm;rw[h1]at hm;exact⟨j,k,l,h1,hg k h3.live,h3.live,hm,hbk,by rw[hj];intro e;cases e;exact hl⟩
 .unfold mO at hm;rw[h1,hj]at hm;cases hm;cases hbk
theorem vQ.acz(F:vQ p g h' src Z)(hg:CO g h){b:Nat}(hb:iO (mO m h' src) h' b):iO m h b:=
 let⟨_,k,l,_,h2,h3,h4,h5,_⟩:=F.mut hg hb;⟨k,g k,l,h2,h3,h4,h5⟩
structure Bp(X X':Mu)(w:World)(m:gV)(g:Nat->aU)(h h':List aU)(src:List (Option Nat))(Z:Nat->Prop):Prop where
 sub:∀b,X' b->X b\/iO m h b
 dis:∀b,iO (mO m h' src) h' b→¬X' b
 lt:∀b,X' b->b<w.heap.size
 yF:∀k,Z k->(g k).live→∀l b,m k=some l->l.blk=some b→¬X' b
theorem Bp.refl(F:vQ p g h' src Z)(hg:CO g h)(H:fJ X w m h):Bp X X w m g h h' src Z:=
 ⟨λ_ h=> .inl h,λb hb=>H.uL b (F.acz hg hb),H.xlt,λk _ hk l b h1 h2=>H.uL b ⟨k,g k,l,hg k hk,hk,h1,h2⟩⟩
theorem Bp.hM(F:vQ p g h' src Z)(hg:CO g h)(E:Bp X X' w m g h h' src Z):∀b,b<w.heap.size→¬MX X m h b→¬MX X' (mO m h' src) h' b:=by
 intro b _ h1 h2;rcases h2 with h2|h2
 .exact h1 (E.sub b h2)
 .exact h1 (.inr (F.acz hg h2))
theorem qh.zP(F:vQ p g h' src Z)(hg:CO g h)(E:Bp X X' w m g h h' src Z)(H:fJ X w m h){x x':SC}{v:Value}(e:qh g h' src Z x x')(hs:dU w m (MX X m h) x v):dU w (mO m h' src) (MX X' (mO m h' src) h') x' v:=by
 have hM:=E.hM F hg;have hL:Later w m (MX X m h) w m (MX X' (mO m h' src) h'):=⟨λ_ _ h=>h,hM,λ_ _ _=>rfl,gy _⟩;have hm:∀{j k:Nat} {l:Loc},src[j]? =some (some k)->m k=some l->mO m h' src j=some l:=λh1 h2=>by unfold mO;rw[h1];exact h2
 cases e with
 |bot=>exact .bot v
 |c e=>cases hs with|c hs=>exact .c ((hs.later hL).eqv e)
 |rp cs=>cases hs with|rp _ b off c hb hs hc h=>exact .rp cs b off c (hM b hs hb) hs hc (λj x hx=>(h j x hx).later hL)
 |own hj=>cases hs with|own _ l hk=>exact .own _ l (hm hj hk)
 | @gh j z f hj ho=>cases hs with|c hs=>cases hs;exact .own j ⟨none,0,z,none,0⟩ (by unfold mO;rw[hj,ho])
 | @yF k t xs hz hk hn=>
  have hlv:(g k).live:=by rw[hk];trivial
  have hget:eB h k=.arr (wd t) xs.length (fE t xs):=by unfold eB;rw[hg k hlv,hk];rfl
  refine .c (.ls t xs v (ajb H hget hM (λl b hmk hbk h2=> ?_) hs));rcases h2 with h2|h2
  .exact E.yF k hz hlv l b hmk hbk h2
  .obtain⟨j,k',l',h3,h4,h5,h6,h7,h8⟩:=F.mut hg h2;have:=H.inj k' k _ _ l' l b h4 (hg k hlv) h5 hlv h6 hmk h7 hbk;subst this;exact h8 (hn j h3)
 | @frn k t xs hz hk hn hx=>
  have hlv:(g k).live:=by rw[hk];trivial
  have hget:eB h k=.arr (wd t) xs.length (fE t xs):=by unfold eB;rw[hg k hlv,hk];rfl
  refine .c (.lW t xs v (ajb H hget hM (λl b hmk hbk h2=> ?_) hs) (λh=>absurd h hx));rcases h2 with h2|h2
  .exact E.yF k hz hlv l b hmk hbk h2
  .obtain⟨j,k',l',h3,h4,h5,h6,h7,h8⟩:=F.mut hg h2;have:=H.inj k' k _ _ l' l b h4 (hg k hlv) h5 hlv h6 hmk h7 hbk;subst this;exact h8 (hn j h3)
 | @frp k cs ys hz hk he hn=> cases hs with
  |pb _ _ b l hmk hbk=>
   have hlv:(g k).live:=(by rw[hk];trivial);have hget:h[k]? =some (.box cs):=(by rw[hg k hlv,hk]);obtain⟨l',b',T,vs,e1,e2,e3,e4,e5⟩:=H.obj k _ hget;rw[hmk]at e1;cases e1;rw[hbk]at e2;cases e2;have hnM:∀(k:Nat),(g k).live->Z k->(∀j:Nat,src[j]? =some (some k)->h'[j]? =some aU.dead)→∀l b,m k=some l->l.blk=some b→¬MX X' (mO m h' src) h' b:=by
    intro k hlv hz hn l b hmk hbk h2;rcases h2 with h2|h2
    .exact E.yF k hz hlv l b hmk hbk h2
    .obtain⟨j,k',l',h3,h4,h5,h6,h7,h8⟩:=F.mut hg h2;have:=H.inj k' k _ _ l' l b h4 (hg k hlv) h5 hlv h6 hmk h7 hbk;subst this;exact h8 (hn j h3)
   refine .rp ys b 0 (λj=>vs.getD j undef) (hnM k hlv hz hn l b hmk hbk) (lt_of_block e3) (λj hj=> ?_) (λj y hy=> ?_)
   .obtain⟨y,hy⟩:∃y,ys[j]? =some y:=⟨ys[j],jR hj⟩;obtain⟨x,hx,_⟩:=he j y hy;have hj2:j<vs.size:=(by rw[e4.1];exact iF hx);rw[cell_of_row w b _ vs T _ e3];simp[Array.getD,hj2]
   .obtain⟨x,hx,hc⟩:=he j y hy;have hsx:=e4.2 j x hx;rcases hc with⟨x',rfl,e⟩|⟨k2,t,xs,rfl,z2,g2,n2,hy2⟩
    .cases hsx with|c hsx=>exact(hsx.later hL).eqv e
    .have hlv2:(g k2).live:=(by rw[g2];trivial);have P8:eB h k2=.arr (wd t) xs.length (fE t xs):=(by unfold eB;rw[hg k2 hlv2,g2];rfl);have hrd:=ajb H P8 hM (λl b hmk hbk=>hnM k2 hlv2 z2 n2 l b hmk hbk) hsx;rcases hy2 with rfl|⟨rfl,hne⟩
     .exact .ls t xs _ hrd
     .exact .lW t xs _ hrd (λh=>absurd h hne)
 |pb hj=>cases hs with|pb _ _ b l hk hb=>exact .pb _ _ b l (hm hj hk) hb
 |mp hj=>cases hs with|mp _ b l hk hb=>exact .mp _ b l (hm hj hk) hb
 |fb hj=>cases hs with|fb _ _ _ b l hk hb=>exact .fb _ _ _ b l (hm hj hk) hb
 |pe hj=>cases hs with|pe _ _ _ b l hk hb hi=>exact .pe _ _ _ b l (hm hj hk) hb hi
 |fn hl hj=>cases hs with|fn _ _ vs hsz hk=>refine .fn _ _ vs (by rw[hsz,hl]) (λi j hi=> ?_);obtain⟨k,h1,h2⟩:=hj i j hi;obtain⟨l,b,e1,e2,e3⟩:=hk i k h1;exact⟨l,b,hm h2 e1,e2,e3⟩
theorem zF.zP(F:vQ p g h' src Z)(hg:CO g h)(E:Bp X X' w m g h h' src Z)(H:fJ X w m h){cs cs':List SC}{vs:Array Value}(e:zF g h' src Z cs cs')(hs:nY w m (MX X m h) cs vs):nY w (mO m h' src) (MX X' (mO m h' src) h') cs' vs:=
 ⟨by rw[hs.1,e.1],λi x' hx=>let⟨x,h1,h2⟩:=e.2 i x' hx;h2.zP F hg E H (hs.2 i x h1)⟩
theorem Qe.zP(F:vQ p g h' src Z)(hg:CO g h)(E:Bp X X' w m g h h' src Z)(H:fJ X w m h){a a':AV}{v:Value}(e:Qe g h' src Z a a')(hs:jo w m (MX X m h) a v):jo w (mO m h' src) (MX X' (mO m h' src) h') a' v:=by
 cases a<;>cases a'<;>first|(cases e;done)|skip
 .exact qh.zP F hg E H e hs
 .obtain⟨vs,rfl,hL⟩:=hs;exact⟨vs,rfl,zF.zP F hg E H e hL⟩
theorem CJ.zP(F:vQ p g h' src Z)(hg:CO g h)(E:Bp X X' w m g h h' src Z)(H:fJ X w m h){a a':SV}{v:Value}(e:CJ g h' src Z a a')(hs:eZ w m (MX X m h) a v):eZ w (mO m h' src) (MX X' (mO m h' src) h') a' v:=by
 cases a<;>cases a'<;>first|(cases e;done)|skip
 .exact Qe.zP F hg E H e hs
 .obtain⟨vs,rfl,hz,hL⟩:=hs;exact⟨vs,rfl,by rw[hz,e.1],λi y hy=>let⟨x,h1,h2⟩:=e.2 i y hy;h2.zP F hg E H (hL i x h1)⟩
theorem vQ.rel(F:vQ p g h' src Z)(hg:CO g h)(E:Bp X X' w m g h h' src Z)(H:fJ X w m h):fJ X' w (mO m h' src) h':=by
 have hL:Later w m (MX X m h) w m (MX X' (mO m h' src) h'):=⟨λ_ _ h=>h,E.hM F hg,λ_ _ _=>rfl,gy _⟩;refine⟨λj o' hj=> ?_,λj j' o o' l l' b h1 h2 h3 h4 h5 h6 h7 h8=> ?_,λj hj=> ?_,E.dis,E.lt⟩
 .rcases F.obj j o' hj with rfl|⟨k,h1,h3⟩|⟨h1,z,f,rfl⟩
  .trivial
  .have qF:=H.obj k _ (hg k h3.live);have hm:∀l,m k=some l->mO m h' src j=some l:=λl hl=>(by unfold mO;rw[h1];exact hl);generalize g k=o at h3 qF;cases o<;>cases o'<;>first|(cases h3;done)|skip
   .obtain⟨l,b,T,vs,e1,e2,e3,e4,e5⟩:=qF;exact⟨l,b,T,vs,hm l e1,e2,e3,zF.zP F hg E H h3 e4,e5⟩
   .obtain⟨rfl,rfl,rfl⟩:=h3;obtain⟨l,e1,e2,e3,e4,e5⟩:=qF;refine⟨l,hm l e1,e2,e3,e4,λb hb=> ?_⟩;obtain⟨e6,T,vs,e7,e8,e9,e10⟩:=e5 b hb;exact⟨e6,T,vs,e7,e8,e9,λi hi=>⟨(e10 i hi).1,λq x hx=>((e10 i hi).2 q x hx).later hL⟩⟩
   .obtain⟨rfl,rfl,hx⟩:=h3;obtain⟨l,b,T,vs,e1,e2,e3,e4,e5,e6,e7,e8,e9,e10⟩:=qF;refine⟨l,b,T,vs,hm l e1,e2,e3,e4,e5,e6,e7,e8,by rw[<-hx.1];exact e9,λi y hy=> ?_⟩;obtain⟨x,h1,h2⟩:=hx.2 i y hy;exact qh.zP F hg E H h2 (e10 i x h1)
   .have h3:_=_:=h3;subst h3;obtain⟨l,b,rows,clock,e1,e2,e3,e4⟩:=qF;exact⟨l,b,rows,clock,hm l e1,e2,e3,e4⟩
  .exact⟨⟨none,0,z,none,0⟩,by unfold mO;rw[h1,hj],rfl,⟨rfl,gy _⟩,λ_=>rfl,λb hb=>by cases hb⟩
 .have key:∀(q:Nat) (oq:aU) (lq:Loc),h'[q]? =some oq->oq.live->mO m h' src q=some lq->lq.blk=some b→∃k,src[q]? =some (some k)/\(g k).live/\m k=some lq:=by
   intro q oq lq hq hl hm hb;rcases F.obj q oq hq with rfl|⟨k,e1,e3⟩|⟨e1,z,f,rfl⟩
   .exact hl.elim
   .unfold mO at hm;rw[e1]at hm;exact⟨k,e1,e3.live,hm⟩
   .unfold mO at hm;rw[e1,hq]at hm;cases hm;cases hb
  obtain⟨k,a1,a3,a4⟩:=key j o l h1 h3 h5 h7;obtain⟨k',b1,b3,b4⟩:=key j' o' l' h2 h4 h6 h8;have:=H.inj k k' _ _ l l' b (hg k a3) (hg k' b3) a3 b3 a4 b4 h7 h8;subst this;exact F.nod j j' k a1 b1 (by rw[h1];intro e;cases e;exact h3) (by rw[h2];intro e;cases e;exact h4)
 .have:src[j]? =none:=xS (by rw[F.len];exact hj);unfold mO;rw[this]
theorem vQ.keep(F:vQ p g h' src Z){j:Nat}{l:Loc}(hj:j<p)(hm:m j=some l):mO m h' src j=some l:=by unfold mO;rw[F.pre j hj];exact hm
theorem apn(h:List aU):CO (eB h) h:=λk hk=>oP rfl hk
theorem aK2{st st':St}(F:vQ p (eB st.h) st'.h src Z)(hσ:∀x s',look st'.σ x=some s'→∃s,look st.σ x=some s/\CJ (eB st.h) st'.h src Z s s'):Le p st st':=by intro X w m nt a H hs;have hg:=apn st.h;have E:=Bp.refl F hg H;refine⟨mO m st'.h src,F.rel hg E H,⟨hs.1,λx s' hx=> ?_⟩,λb hb=>F.acz hg hb,λj l hj hm=>F.keep hj hm⟩;obtain⟨s,h1,h2⟩:=hσ x s' hx;obtain⟨v,hv,iN⟩:=hs.2 x s h1;exact⟨v,hv,h2.zP F hg E H iN⟩
end
end Go.AM
namespace Go.AM
open Go Go.CP Go.RowKit
variable [Fuel]
def qx(P:Program)(f:FuncId)(args:List SV)(h:List aU)(R:SV->List aU->Prop):Prop:=
 ∀ (X:Mu) (w:World) (m:gV) (vs:List Value),fJ X w m h->jY (eZ w m (MX X m h)) args vs→
  Calls P f vs.toArray w λe w'=>∃v r h' m',e=.returned v/\R r h'/\fJ X w' m' h'/\eZ w' m' (MX X m' h') r v/\abl w (iO m h) w'∧
   (∀b,iO m' h' b->iO m h b\/w.heap.size<=b)∧∀j l,j<h.length->m j=some l->m' j=some l
theorem qx.mono{P:Program}{f:FuncId}{args:List SV}{h:List aU}{R R':SV->List aU->Prop}(hc:qx P f args h R)(hr:∀r h',R r h'->R' r h'):qx P f args h R':=
 λX w m vs H ha=>(hc X w m vs H ha).mono λe w' ⟨v,r,h',m',e1,e2,e3⟩=>⟨v,r,h',m',e1,hr _ _ e2,e3⟩
def PW(P:Program)(st:St):ResultVar->Option AV
 | .tmp t=>match look st.σ t with
  |some (.one v)=>some v
  |_=>none
 | .cell a T=>match look st.σ a with
  |some (.one (.s (.pb k off)))=>match eB st.h k with
   | .box cs=>yu P T cs off
   |_=>none
  |_=>none
def G5(P:Program)(st:St):List ResultVar->Option (List AV)
 | []=>some []
 |x::r=>match PW P st x,G5 P st r with
  |some v,some l=>some (v::l)
  |_,_=>none
def QK(P:Program)(st:St)(rs:List ResultVar):Option SV:=
 match G5 P st rs with
 |some [v]=>some (.one v)
 |some vs=>some (.mY vs)
 |none=>none
def qQ:Nat->List SV->List (Nat×SV)
 |_,[]=> []
 |i,s::r=>(i,s)::qQ (i+1) r
def Mj(tmps:Array Value):ResultVar->Sem Value
 | .tmp t=>pure (tmps.getD t undef)
 | .cell a t=>do loadVar t (<-asAddr (tmps.getD a undef))
theorem aHv(fn:Func)(tmps:Array Value):results fn tmps=(do
  let vs←fn.results.mapM (Mj tmps)
  pure (if h:vs.size=1 then vs[0]else .tuple vs)):=by
 unfold results;congr 1
section
variable {P:Program} {X:Mu} {w:World} {m:gV}
theorem aqe{st:St}{nt:Nat}{a:Act}(H:fJ X w m st.h)(hs:Slots w m (MX X m st.h) nt st.σ a):∀{rs:List ResultVar} {l:List AV},G5 P st rs=some l→
  ∃vs:List Value,(rs.mapM (Mj a.tmps)).run P w=.ok vs w/\jY (jo w m (MX X m st.h)) l vs
 | [],l,h=>by simp[G5]at h;subst h;exact⟨[],aj,.nil⟩
 |x :: rs,l,h=>by simp only[G5]at h;rcases h1:PW P st x with _|v;rw[h1]at h;cases h;rcases h2:G5 P st rs with _|l';rw[h1,h2]at h;cases h;rw[h1,h2]at h;cases h;obtain⟨vs,hr,hall⟩:=aqe H hs h2;cases x with
  |tmp t=>
   simp only[PW]at h1;split at h1
   .rename_i v' hl;cases h1;obtain⟨u,hu,iN⟩:=hs.2 t _ hl;refine⟨u::vs,?_,.cons iN hall⟩;have:a.tmps.getD t undef=u:=(by simp[hu]);have e:(Mj a.tmps (.tmp t)).run P w=.ok u w:=(by simp[Mj,this]);simp only[aa6,Sem.run_bind,Sem.run_pure,Result.andThen_ok,e,hr]
   .cases h1
  |cell a' T=>
   simp only[PW]at h1;split at h1
   .rename_i k off hl;cases hk:eB st.h k with
    |box cs=>rw[hk]at h1;obtain⟨u,hu,iN⟩:=hs.2 a' _ hl;cases iN with|pb _ _ b lo hm hb=>obtain⟨u',hr',hs'⟩:=UR (P:=P) (aoL H hk hm hb) h1;rw[nM]at hr';refine⟨u'::vs,?_,.cons hs' hall⟩;have:a.tmps.getD a' undef=.pointer (some ⟨b,off,none⟩):=(by simp[hu]);have e:(Mj a.tmps (.cell a' T)).run P w=.ok u' w:=(by simp only[Mj,this,Sem.run_bind,asAddr,Sem.run_pure,Result.andThen_ok,hr']);simp only[aa6,Sem.run_bind,Sem.run_pure,Result.andThen_ok,e,hr]
    |arr=>rw[hk]at h1;cases h1
    |ra z1 n1 cs1=>rw[hk]at h1;cases h1
    |ms es1=>rw[hk]at h1;cases h1
    |dead=>rw[hk]at h1;cases h1
   .cases h1
theorem aGN{st:St}{nt:Nat}{a:Act}{fn:Func}{r:SV}(H:fJ X w m st.h)(hs:Slots w m (MX X m st.h) nt st.σ a)(hr:QK P st fn.results.toList=some r):
  ∃v,(results fn a.tmps).run P w=.ok v w/\eZ w m (MX X m st.h) r v:=by
 unfold QK at hr;rcases hl:G5 P st fn.results.toList with _|l;rw[hl]at hr;cases hr;rw[hl]at hr;obtain⟨vs,hrun,hall⟩:=aqe (P:=P) H hs hl;have hm:(fn.results.mapM (Mj a.tmps)).run P w=.ok vs.toArray w:=by rw[asq,Sem.run_map,hrun];rfl
 refine⟨if h:vs.toArray.size=1 then vs.toArray[0]else .tuple vs.toArray,?_,?_⟩
 .rw[aHv,Sem.run_bind,hm];rfl
 .cases hall with
  |nil=>simp only at hr;cases hr;exact⟨#[],rfl,rfl,λi a ha=>by simp at ha⟩
  |cons h1 t1=>
   rcases t1 with _|⟨h2,t2⟩;simp only at hr;cases hr;exact h1;rename_i a1 b1 a2 b2 l2 r2;simp only at hr;cases hr;rw[dif_neg aj];refine⟨_,rfl,?_,?_⟩
   .have:∀(l:List AV) (r:List Value),jY (jo w m (MX X m st.h)) l r->r.length=l.length:=(by intro l r h;induction h with|nil=>rfl|cons _ _ ih=>simp[ih]);simp[this _ _ t2]
   .have:∀(l:List AV) (r:List Value),jY (jo w m (MX X m st.h)) l r→∀(i:Nat) a,l[i]? =some a->jo w m (MX X m st.h) a ((r[i]?).getD undef):=by intro l r h;induction h with
     |nil=>intro i a ha;simp at ha
     |cons h0 _ ih=>intro i a ha;cases i with|zero=>simp at ha;subst ha;simpa using h0|succ i=>simpa using ih i a (aD ha)
    intro i a ha;have:=this _ _ (.cons h1 (.cons h2 t2)) i a ha;rw[wG];exact this
end
theorem aha:∀{args:List SV} {i x:Nat} {s:SV},look (qQ i args) x=some s->i<=x/\args[x-i]? =some s
 | [],i,x,s,h=>by simp[qQ,look]at h
 |a::args,i,x,s,h=>by simp only[qQ,look]at h;cases hb:Nat.beq i x with|true=>rw[hb]at h;simp at h;subst h;have:=eG hb;subst this;simp|false=>rw[hb]at h;obtain⟨h1,h2⟩:=aha h;refine⟨ah,?_⟩;have:x-i=(x-(i+1))+1:=ah;rw[this,Lj];exact h2
theorem jY.len{α β:Type}{R:α->β->Prop}:∀{l:List α} {r:List β},jY R l r->l.length=r.length
 |_,_,.nil=>rfl
 |_,_,.cons _ t=>by simp[jY.len t]
theorem jY.at{α β:Type}{R:α->β->Prop}:∀{l:List α} {r:List β},jY R l r→∀(i:Nat) a,l[i]? =some a→∃b,r[i]? =some b/\R a b
 |_,_,.nil,i,a,h=>by simp at h
 |_,_,.cons h0 t,i,a,h=>by cases i with|zero=>simp at h;subst h;exact⟨_,rfl,h0⟩|succ i=>simpa using jY.at t i a (aD h)
def aue(P:Program)(p:Nat)(fn:Func)(R:SV->List aU->Prop)(e:Exit)(st:St):Prop:=
 (e=.normal\/e=.ret)∧∃st',Le p st st'∧∃r0 r h' src Z,QK P st' fn.results.toList=some r0/\vQ p (eB st'.h) h' src Z/\CJ (eB st'.h) h' src Z r0 r/\R r h'
theorem aFA{P:Program}{f:FuncId}{fn:Func}{c:Code}{args:List SV}{h:List aU}{R:SV->List aU->Prop}(hf:P.funcs[f]? =some fn)(hb:fn.body=some c)(hn:Nat.ble args.length fn.ntmps=true)
  (hw:nL P fn.ntmps h.length c (aue P h.length fn R) ⟨qQ 0 args,h⟩):qx P f args h R:=by
 intro X w m vs H ha;have hn:=qN hn;have hlen:=ha.len;refine calls_of_wp hf hb ?_;have hs:Slots w m (MX X m h) fn.ntmps (qQ 0 args) {tmps:=vs.toArray++Array.replicate (fn.ntmps-vs.toArray.size) undef,defers:=[]}:=by refine⟨ay,λx s hx=> ?_⟩;obtain⟨_,hx⟩:=aha hx;simp only[Ed]at hx;obtain⟨v,hv,iN⟩:=ha.at x s hx;refine⟨v,?_,iN⟩;have hxl:x<vs.length:=iF hv;show(vs.toArray++Array.replicate (fn.ntmps-vs.toArray.size) undef)[x]? =some v;rw[Qd (aD hxl)];simpa using hv
 have R0:Rel [] X w (iO m h) m h.length fn.ntmps ⟨qQ 0 args,h⟩ {tmps:=vs.toArray++Array.replicate (fn.ntmps-vs.toArray.size) undef,defers:=[]} w:=
  ⟨rfl,⟨rfl,rfl,oG.same _,gy _,λ_ _ _=>rfl⟩,m,H,hs,λb hb=> .inl hb,λ_ _ _ h=>h⟩
 refine wp_mono (hw [] X w (iO m h) m _ w R0) (λe a' w' hq=> ?_);obtain⟨st0,⟨he,st,hle,r0,r,h2,src,Z,hr,F,hF,hR⟩,L6⟩:=hq;have L6:=L6.le hle;obtain⟨m',H',hs',hm',hj'⟩:=L6.ex;obtain⟨v,hrun,iN⟩:=aGN (fn:=fn) H' hs' hr;have hg:=apn st.h;have E:=Bp.refl F hg H'
 have hbody:a'.defers=[]∧∃v,(results fn a'.tmps).run P w'=.ok v w'∧∃v' r h' m',Ending.returned v=.returned v'/\R r h'/\fJ X w' m' h'/\eZ w' m' (MX X m' h') r v'/\abl w (iO m h) w'∧
   (∀b,iO m' h' b->iO m h b\/w.heap.size<=b)∧∀j l,j<h.length->m j=some l->m' j=some l:=
  ⟨L6.defers,v,hrun,v,r,h2,mO m' h2 src,rfl,hR,F.rel hg E H',hF.zP F hg E H' iN,L6.frame,λb hb=>hm' b (F.acz hg hb),λj l hj hm=>F.keep hj (hj' j l hj hm)⟩
 rcases he with rfl|rfl
 .exact hbody
 .exact hbody
section
variable {K:List Nat}{j k:Nat}
def nodupB:List Nat->Bool
 | []=>true
 |k::r=> !(l8 k r)&&nodupB r
theorem KY{k:Nat}:∀{l:List Nat} {i j:Nat},idxOf k l i=some j->i<=j/\l[j-i]? =some k
 | [],_,_,h=>by cases h
 |a::l,i,j,h=>by simp only[idxOf]at h;cases hb:Nat.beq a k with|true=>rw[hb]at h;simp at h;subst h;have:=eG hb;subst this;simp|false=>rw[hb]at h;obtain⟨h1,h2⟩:=KY h;refine⟨ah,?_⟩;have:j-i=(j-(i+1))+1:=ah;rw[this,Lj];exact h2
theorem apg:∀{l:List Nat} {i j k:Nat},nodupB l=true->l[i]? =some k->l[j]? =some k->i=j
 | [],_,_,_,_,h,_=>by simp at h
 |a::l,i,j,k,hn,hi,hj=>by
  simp only[nodupB,dQ,wQ]at hn;have hno:a ∉ l:=λh=>by have:=uV.2 h;rw[this]at hn;cases hn.1
  cases i with
  |zero=>simp at hi;subst hi;cases j with|zero=>rfl|succ j=>simp at hj;exact absurd (rJ hj) hno
  |succ i=>cases j with|zero=>simp at hj;subst hj;simp at hi;exact absurd (rJ hi) hno|succ j=>simp at hi hj;rw[apg hn.2 hi hj]
theorem aU.ahL{o:aU}{ρ:Nat->Option Nat}:(o.ren ρ).live ↔ o.live:=by cases o<;>exact Iff.rfl
theorem yc.ren{w:World}{m m':gV}{M M':Mu}{ρ:Nat->Option Nat}(hρ:∀k j l,ρ k=some j->m k=some l->m' j=some l)(hM:∀b,b<w.heap.size→¬M b→¬M' b){k j:Nat}{o:aU}
  (hkj:∀l,m k=some l->m' j=some l) (h:yc w m M k o):yc w m' M' j (o.ren ρ):=by
 have hL:Later w m M w (λk=>m k) M':=⟨λ_ _ h=>h,hM,λ_ _ _=>rfl,gy _⟩;cases o with
 |dead=>trivial
 |ms es=>obtain⟨l,b,rows,clock,e1,e2,e3,e4⟩:=h;exact⟨l,b,rows,clock,hkj l e1,e2,e3,e4⟩
 |ra z n cs=>obtain⟨l,b,T,vs,e1,e2,e3,e4,e5,e6,e7,e8,e9,e10⟩:=h;refine⟨l,b,T,vs,hkj l e1,e2,e3,e4,e5,e6,e7,e8,by rw[kQ];exact e9,λi x hx=> ?_⟩;rw[mW]at hx;rcases hy:cs[i]? with _|y;rw[hy]at hx;cases hx;rw[hy]at hx;cases hx;exact dU.ren hρ hM (e10 i y hy)
 |box cs=>obtain⟨l,b,T,vs,e1,e2,e3,e4,e5⟩:=h;exact⟨l,b,T,vs,hkj l e1,e2,e3,e4.ren hρ hM,e5⟩
 |arr z n f=>obtain⟨l,e1,e2,e3,e4,e5⟩:=h;refine⟨l,hkj l e1,e2,e3,e4,λb hb=> ?_⟩;obtain⟨e6,T,vs,e7,e8,e9,e10⟩:=e5 b hb;exact⟨e6,T,vs,e7,e8,e9,λi hi=>⟨(e10 i hi).1,λj x hx=>((e10 i hi).2 j x hx).later hL⟩⟩
def at_(K:List Nat):Nat->Option Nat:=λj=>K[j]?
def xu:List Nat->List aU->List (Nat×aU)
 |k::K,o::h=>(k,o)::xu K h
 |_,_=> []
theorem Va:∀{K:List Nat} {h:List aU} {k:Nat} {o:aU},(k,o)∈xu K h ↔∃j:Nat,K[j]? =some k/\h[j]? =some o
 | [],h,k,o=>by simp[xu]
 |k0::K,[],k,o=>by simp[xu]
 |k0::K,o0::h,k,o=>by
  simp only[xu,Ck,zw,Va (K:=K)];constructor
  .rintro(⟨rfl,rfl⟩|⟨j,h1,h2⟩)
   .exact⟨0,rfl,rfl⟩
   .exact⟨j+1,aD h1,aD h2⟩
  .rintro⟨j,h1,h2⟩;cases j with|zero=>simp at h1 h2;exact .inl ⟨h1.symm,h2.symm⟩|succ j=>exact .inr ⟨j,aD h1,aD h2⟩
theorem anO:∀{K:List Nat} {hs:List aU} {h:List aU},nodupB K=true->(∀k∈K,k<h.length)→∀(j k:Nat) (o:aU),K[j]? =some k->hs[j]? =some o->(eX h (xu K hs))[k]? =some o
 | [],hs,h,_,_,j,k,o,hk,_=>by simp at hk
 |k0::K,[],h,_,_,j,k,o,_,ho=>by simp at ho
 |k0::K,o0::hs,h,hn,hl,j,k,o,hk,ho=>by
  simp only[nodupB,dQ,wQ]at hn;have hno:k0 ∉ K:=λh=>by have:=uV.2 h;rw[this]at hn;cases hn.1
  simp only[xu,eX];cases j with
  |zero=>simp at hk ho;subst hk;subst ho;rw[xL _ _ _ (λo' ho'=> ?_),uq (hl k0 aj)];obtain⟨i,hi,_⟩:=Va.1 ho';exact hno (rJ hi)
  |succ j=>simp at hk ho;exact anO hn.2 (λk hk=>by simp;exact hl k (by simp[hk])) j k o hk ho
theorem aGs(hn:nodupB K=true)(hj:K[j]? =some k):idxOf k K 0=some j:=by
 have hex:∀(l:List Nat) (i:Nat),k∈l→∃r,idxOf k l i=some r:=by intro l;induction l with
  |nil=>intro i h;cases h
  |cons a l ih=>intro i h;simp only[idxOf];cases hb:Nat.beq a k with
   |true=>exact⟨i,rfl⟩
   |false=>cases h with
    |head=>rw[oW]at hb;cases hb
    |tail _ h=>exact ih (i+1) h
 obtain⟨r,hr⟩:=hex K 0 (rJ hj);have:=(KY hr).2;simp only[Ed]at this;rw[hr,apg hn hj this]
theorem aoo:idxOf k K 0=none→∀j:Nat,K[j]? ≠some k:=by
 have:∀(l:List Nat) (i:Nat),idxOf k l i=none→∀j:Nat,l[j]? ≠some k:=by intro l;induction l with
  |nil=>intro i _ j h;simp at h
  |cons a l ih=>intro i h j hj;simp only[idxOf]at h;cases hb:Nat.beq a k with
   |true=>rw[hb]at h;cases h
   |false=>rw[hb]at h;cases j with
    |zero=>simp at hj;subst hj;rw[oW]at hb;cases hb
    |succ j=>exact ih (i+1) h j (aD hj)
 exact this K 0
def Er:List Nat->List (Nat×aU)
 | []=> []
 |k::r=>(k,.dead)::Er r
theorem ag4{k:Nat}{o:aU}:∀{ks:List Nat},(k,o)∈Er ks->k∈ks/\o=.dead
 | [],h=>by cases h
 |j::r,h=>by cases h with|head=>exact⟨qb ..,rfl⟩|tail _ h=>exact⟨ou _ (ag4 h).1,(ag4 h).2⟩
theorem anu:∀(ks:List Nat) (h:List aU) (k:Nat) (o:aU),(eX h (Er ks))[k]? =some o->(k ∉ ks/\h[k]? =some o)\/(k∈ks/\o=.dead)
 | [],h,k,o,e=> .inl ⟨aj,e⟩
 |j::r,h,k,o,e=>by
  have e':(eX (h.set j .dead) (Er r))[k]? =some o:=e;rcases anu r (h.set j .dead) k o e' with⟨h1,h2⟩|⟨h1,h2⟩
  .by_cases hj:j=k
   .subst hj;have hlt:=iF h2;simp at hlt;rw[uq hlt]at h2;exact .inr ⟨aj,(rM h2).symm⟩
   .rw[su hj]at h2;exact .inl ⟨by simp[h1,Ne.symm hj],h2⟩
  .exact .inr ⟨by simp[h1],h2⟩
def yT:List (Nat×aU)->Nat->aU
 | [],_=> .dead
 |(j,o)::r,k=>bif Nat.beq j k then o else yT r k
theorem aou{k:Nat}:∀{l:List (Nat×aU)},(yT l k).live->(k,yT l k)∈l
 | [],h=>h.elim
 |(j,o)::r,h=>by simp only[yT]at h⊢;cases hb:Nat.beq j k with|true=>have:=eG hb;subst this;simp|false=>rw[hb]at h;simp only[aX]at h⊢;exact ou _ (aou h)
def CV.isVal:CV->Bool
 | .val _=>true
 | .e0=>true
 |_=>false
def SC.plain:SC->Bool
 | .c x=>x.isVal
 | .rp _=>false
 |_=>true
def AV.plain:AV->Bool
 | .s x=>x.plain
 | .agg cs=>cs.all SC.plain
def SV.plain:SV->Bool
 | .one v=>v.plain
 | .mY vs=>vs.all AV.plain
def aU.plain:aU->Prop
 | .dead=>True
 | .box cs=>cs.all SC.plain=true
 | .arr _ n f=>∀i,i<n→∀x∈f i,x.isVal=true
 | .ms _=>True
 | .ra _ _ cs=>cs.all SC.plain=true
section
variable {w:World} {m:gV} {M M':Mu}
theorem lC.anyM{x:CV}{v:Value}(hx:x.isVal=true)(h:lC w M x v):lC w M' x v:=by cases h with
 |val v=>exact .val v
 |e0 a=>exact .e0 a
 |qm=>cases hx
 |rd=>cases hx
 |ls=>cases hx
 |lW=>cases hx
theorem dU.anyM{x:SC}{v:Value}(hx:x.plain=true)(h:dU w m M x v):dU w m M' x v:=by cases h with
 |c h=>exact .c (h.anyM hx)
 |rp=>cases hx
 |own k l hk=>exact .own k l hk
 |sl k lo len l a c hk h0 h1 h2 h3=>exact .sl k lo len l a c hk h0 h1 h2 h3
 |pb k off b l hk hb=>exact .pb k off b l hk hb
 |pe k i off b l hk hb hi=>exact .pe k i off b l hk hb hi
 |fn f caps vs hs h=>exact .fn f caps vs hs h
 |mp k b l hk hb=>exact .mp k b l hk hb
 |fb f k off b l hk hb=>exact .fb f k off b l hk hb
 |bot v=>exact .bot v
theorem nY.anyM{cs:List SC}{vs:Array Value}(hx:cs.all SC.plain=true)(h:nY w m M cs vs):nY w m M' cs vs:=
 ⟨h.1,λi x hi=>(h.2 i x hi).anyM ((j6.1 hx) x (rJ hi))⟩
theorem jo.anyM{x:AV}{v:Value}(hx:x.plain=true)(h:jo w m M x v):jo w m M' x v:=by cases x with|s x=>exact dU.anyM hx h|agg cs=>obtain⟨vs,rfl,hL⟩:=h;exact⟨vs,rfl,hL.anyM hx⟩
theorem eZ.anyM{x:SV}{v:Value}(hx:x.plain=true)(h:eZ w m M x v):eZ w m M' x v:=by cases x with|one x=>exact jo.anyM hx h|mY as'=>obtain⟨vs,rfl,hz,hs⟩:=h;exact⟨vs,rfl,hz,λi a ha=>(hs i a ha).anyM ((j6.1 hx) a (rJ ha))⟩
theorem yc.anyM{k:Nat}{o:aU}(hx:o.plain)(h:yc w m M k o):yc w m M' k o:=by cases o with
 |dead=>trivial
 |ms es=>exact h
 |ra z n cs=>obtain⟨l,b,T,vs,e1,e2,e3,e4,e5,e6,e7,e8,e9,e10⟩:=h;exact⟨l,b,T,vs,e1,e2,e3,e4,e5,e6,e7,e8,e9,λi x hy=>(e10 i x hy).anyM (j6.1 hx x (rJ hy))⟩
 |box cs=>obtain⟨l,b,T,vs,e1,e2,e3,e4,e5⟩:=h;exact⟨l,b,T,vs,e1,e2,e3,e4.anyM hx,e5⟩
 |arr z n f=>obtain⟨l,e1,e2,e3,e4,e5⟩:=h;refine⟨l,e1,e2,e3,e4,λb hb=> ?_⟩;obtain⟨e6,T,vs,e7,e8,e9,e10⟩:=e5 b hb;exact⟨e6,T,vs,e7,e8,e9,λi hi=>⟨(e10 i hi).1,λq x hq=>((e10 i hi).2 q x hq).anyM (hx i hi x (rJ hq))⟩⟩
end
theorem ao7{k:Nat}{o:aU}:∀{l:List (Nat×aU)},(k,o)∈l->Ev k l=true
 |(j,o')::r,h=>by simp only[Ev,pO];cases h with|head=>exact .inl (oW k)|tail _ h=>exact .inr (ao7 h)
theorem Zq:∀(a b:List (Nat×aU)) (h:List aU),eX h (a++b)=eX (eX h a) b
 | [],b,h=>rfl
 |(k,o)::a,b,h=>by show eX (h.set k o) (a++b)=_;rw[Zq a b];rfl
theorem aD7{L:List Nat}(h:K[j]? =some k):(K++L)[j]? =some k:=by rw[p9 (iF h)];exact h
theorem aID{objs:List (Nat×aU)}{h:List aU}(CW:∀k o,(k,o)∈objs->h[k]? =some o):CO (yT objs) h:=λk hk=>CW k _ (aou hk)
theorem aH6{P:Program}{f:FuncId}{args args':List SV}{objs:List (Nat×aU)}{h0 h1:List aU}{r:SV}(K L ks:List Nat)(kill:Bool)
  (hgo:∀(vs:Array Value) (w:World),(callFunc f vs).run P w=.ok (.enter f vs) w)
  (hA:qx P f args' h0 (λr' h'=>r'=r/\h'=h1))
  (F:vQ 0 (yT objs) h0 (K.map some) (· ∈ks)) (hF:jY (CJ (yT objs) h0 (K.map some) (· ∈ks)) args args')
  (k2:(K++L).length=h1.length) (k3:nodupB (K++L)=true) (k4:∀k∈ks,k ∉ K++L/\(yT objs k).live) (k5:∀k∈K,(yT objs k).live)
  (k6:(h1.drop K.length).all abU=true) (k8:∀k∈L,Ev k objs=false) (hp:kill=true\/(r.plain=true∧∀o∈h1,o.plain)):
  Gz P f args objs (r.ren (at_ (K++L))) (xu (K++L) (h1.map (aU.ren (at_ (K++L))))++Er (bif kill then ks else [])):=by
 refine⟨hgo,λX w m h vs H CW hnew ha=> ?_⟩;have hg:=aID CW;let ks':List Nat:=bif kill then ks else []
 have aMH:∀k,k∈ks'->k∈ks:=by intro k (hk:k∈bif kill then ks else []);cases kill with|true=>exact hk|false=>exact absurd hk (nU)
 have hsrc:∀(j k:Nat),K[j]? =some k ↔ (K.map some)[j]? =some (some k):=by intro j k;rw[mW];cases K[j]? <;>simp
 have k1:K.length=h0.length:=by rw[<-F.len];simp
 let mc:gV:=mO m h0 (K.map some)
 have hmc:∀(j k:Nat),K[j]? =some k->mc j=m k:=λj k hj=>by simp only[mc,mO,(hsrc j k).1 hj]
 let Xc:Mu:=λb=>X b∨∃(k:Nat) (o:aU) (l:Loc),h[k]? =some o/\o.live/\m k=some l/\l.blk=some b/\k ∉ K/\k ∉ ks
 have LC:∀b,iO mc h0 b->iO m h b∧∃(j k:Nat) (o:aU) (l:Loc),K[j]? =some k/\h[k]? =some o/\o.live/\m k=some l/\l.blk=some b:=by intro b hb;obtain⟨j,k,l,e1,e2,e3,e4,e5,_⟩:=F.mut hg hb;exact⟨⟨k,_,l,e2,e3,e4,e5⟩,j,k,_,l,(hsrc j k).2 e1,e2,e3,e4,e5⟩
 have E:Bp X Xc w m (yT objs) h h0 (K.map some) (· ∈ks):=by
  refine⟨λb hb=> ?_,λb hb hX=> ?_,λb hb=> ?_,λk hz hlv l b hm hbk hX=> ?_⟩
  .rcases hb with hb|⟨k,o,l,e1,e2,e3,e4,_⟩
   .exact .inl hb
   .exact .inr ⟨k,o,l,e1,e2,e3,e4⟩
  .obtain⟨q,j,k,o,l,e1,e2,e3,e4,e5⟩:=LC b hb;rcases hX with hX|⟨k',o',l',q1,q2,q3,q4,q5,_⟩
   .exact H.uL b q hX
   .have:=H.inj k k' o o' l l' b e2 q1 e3 q2 e4 q3 e5 q4;subst this;exact q5 (rJ e1)
  .rcases hb with hb|⟨k,o,l,e1,e2,e3,e4,_⟩
   .exact H.xlt b hb
   .exact abo H e1 e2 e3 e4
  .rcases hX with hX|⟨k',o',l',q1,q2,q3,q4,_,q6⟩
   .exact H.uL b ⟨k,_,l,hg k hlv,hlv,hm,hbk⟩ hX
   .have:=H.inj k k' _ o' l l' b (hg k hlv) q1 hlv q2 hm q3 hbk q4;subst this;exact q6 hz
 have Hc:fJ Xc w mc h0:=F.rel hg E H;have hargs:jY (eZ w mc (MX Xc mc h0)) args' vs:=by clear hA hnew;induction hF generalizing vs with
  |nil=>cases ha;exact .nil
  |cons e _ ih=>cases ha with|cons h1 t=>exact .cons (e.zP F hg E H h1) (ih _ t)
 refine(hA Xc w mc vs Hc hargs).mono (λe w' he=> ?_);obtain⟨v,r',h',m',rfl,⟨rfl,rfl⟩,H',iN,hfr,hmt,hid⟩:=he
 -- the caller's view afterwards
 let KL:=K++L
 have aMN:∀(j k:Nat),KL[j]? =some k→∃o,(k,o)∈xu KL (h'.map (aU.ren (at_ KL))):=by
  intro j k hj;have hjl:j<h'.length:=by rw[<-k2];exact iF hj
  exact⟨(h'[j]).ren (at_ KL),Va.2 ⟨j,hj,by rw[mW,jR hjl];rfl⟩⟩
 have arK:∀(j k:Nat),K.length<=j->KL[j]? =some k->m k=none/\h[k]? =some .dead:=by
  intro j k hj hk;obtain⟨o,ho⟩:=aMN j k hk;rcases hnew k o (Cj _ ho)with⟨o',ho'⟩|⟨h1,h2⟩
  .have hkL:k∈L:=(by have hk':(K++L)[j]? =some k:=hk;rw[uo hj]at hk';exact rJ hk');have:=k8 k hkL;rw[ao7 ho']at this;cases this
  .exact⟨h2,h1⟩
 have aj7:∀(j k:Nat),KL[j]? =some k->j<K.length->K[j]? =some k:=λj k hj hlt=>by have hj:(K++L)[j]? =some k:=hj;rw[p9 hlt]at hj;exact hj
 have hin:∀(j k:Nat),KL[j]? =some k->k<h.length:=by
  intro j k hj;rcases mI j K.length with h1|h1
  .exact iF (hg k (k5 k (rJ (aj7 j k hj h1))))
  .exact iF (arK j k h1 hj).2
 let m2:gV:=λk=>match idxOf k KL 0 with
  |some j=>match m' j with
   |some l=>some l
   |none=>m k
  |none=>m k
 have hext:∀k l,m k=some l->m2 k=some l:=by
  intro k l hk;simp only[m2];rcases hi:idxOf k KL 0 with _|j;exact hk;have hj:=(KY hi).2;simp only[Ed]at hj;have hjK:j<K.length:=by
   rcases mI j K.length with h1|h1
   .exact h1
   .rw[(arK j k h1 hj).1]at hk;cases hk
  have:=hid j l ah (by rw[hmc j k (aj7 j k hj hjK)];exact hk);simp only[this]
 have hm2:∀(j k:Nat) (l:Loc),KL[j]? =some k->m' j=some l->m2 k=some l:=by intro j k l hj hl;simp only[m2,show idxOf k KL 0=some j from aGs k3 hj,hl]
 have acr:∀k,idxOf k KL 0=none->m2 k=m k:=λk hk=>by simp only[m2,hk]
 have akh:∀k,idxOf k KL 0=none->k ∉ K:=λk hi hk=>by obtain⟨j,hj⟩:=arl hk;exact aoo hi j (aD7 hj)
 let h2:=eX h (xu KL (h'.map (aU.ren (at_ KL)))++Er ks')
 have P8:∀(k:Nat) (o:aU),h2[k]? =some o->(∃(j:Nat) (o':aU),KL[j]? =some k/\h'[j]? =some o'/\o=o'.ren (at_ KL))\/(idxOf k KL 0=none/\k ∉ ks'/\h[k]? =some o)\/(idxOf k KL 0=none/\o=.dead):=by
  intro k o hk;have hk:(eX (eX h (xu KL (h'.map (aU.ren (at_ KL))))) (Er ks'))[k]? =some o:=by rw[<-Zq];exact hk
  rcases anu ks' _ k o hk with⟨hd,hk⟩|⟨hd,rfl⟩
  .cases hi:idxOf k KL 0 with
   |some j=>have hj:=(KY hi).2;simp only[Ed]at hj;have hjl:j<h'.length:=(by rw[<-k2];exact iF hj);have:=anO (h:=h) (hs:=h'.map (aU.ren (at_ KL))) k3 (λk hk=>by obtain⟨j,hj⟩:=arl hk;exact hin j k hj) j k _ hj (by rw[mW,jR hjl];rfl);rw[this]at hk;cases hk;exact .inl ⟨j,h'[j],hj,jR hjl,rfl⟩
   |none=>have hne:∀o,(k,o) ∉ xu KL (h'.map (aU.ren (at_ KL))):=(by intro o ho;obtain⟨j,hj,_⟩:=Va.1 ho;exact aoo hi j hj);rw[xL _ h k hne]at hk;exact .inr (.inl ⟨rfl,hd,hk⟩)
  .refine .inr (.inr ⟨?_,rfl⟩);rcases hi:idxOf k KL 0 with _|j;rfl;have hj:=(KY hi).2;simp only[Ed]at hj;exact absurd (rJ hj) (k4 k (aMH k hd)).1
 have LB:∀b,iO m2 h2 b->iO m' h' b∨∃(k:Nat) (o:aU) (l:Loc),h[k]? =some o/\o.live/\m k=some l/\l.blk=some b/\k ∉ K/\k ∉ ks':=by
  rintro b ⟨k,o,l,hk,hl,hm,hb⟩;rcases P8 k o hk with⟨j,o',hj,ho',rfl⟩|⟨hi,hd,ho⟩|⟨_,rfl⟩
  .rw[aU.ahL]at hl;left;have qF:=H'.obj j o' ho';obtain⟨l',hl'⟩:∃l',m' j=some l':=by cases o' with
    |dead=>exact hl.elim
    |ra z1 n1 cs1=>obtain⟨l',_,_,_,e1,_⟩:=qF;exact⟨l',e1⟩
    |ms es1=>obtain⟨l',_,_,_,e1,_⟩:=qF;exact⟨l',e1⟩
    |box cs=>obtain⟨l',_,_,_,e1,_⟩:=qF;exact⟨l',e1⟩
    |arr z n f=>obtain⟨l',e1,_⟩:=qF;exact⟨l',e1⟩
   rw[hm2 j k l' hj hl']at hm;cases hm;exact⟨j,o',l,ho',hl,hl',hb⟩
  .right;rw[acr k hi]at hm;exact⟨k,o,l,ho,hl,hm,hb,akh k hi,hd⟩
  .exact hl.elim
 have hkeep:∀b,b<w.heap.size→¬iO mc h0 b->w'.heap[b]? =w.heap[b]? :=λb hb hM=>hfr.keep b hb hM;have kG:Later w m (MX X m h) w' m2 (MX X m2 h2):=by
  refine⟨hext,λb hb h1 h2'=> ?_,λb hb h1=>hkeep b hb (λh2'=>h1 (.inr (LC b h2').1)),hfr.size⟩;rcases h2' with h2'|h2'
  .exact h1 (.inl h2')
  .rcases LB b h2' with h3|⟨k,o,l,e1,e2,e3,e4,_⟩
   .rcases hmt b h3 with h4|h4
    .exact h1 (.inr (LC b h4).1)
    .omega
   .exact h1 (.inr ⟨k,o,l,e1,e2,e3,e4⟩)
 have hρ:∀j k l,at_ KL j=some k->m' j=some l->m2 k=some l:=λj k l hj hl=>hm2 j k l hj hl;have hMM:kill=true→∀b,b<w'.heap.size→¬MX Xc m' h' b→¬MX X m2 h2 b:=by
  intro hkl b _ h1 hb;refine h1 ?_;rcases hb with hb|hb
  .exact .inl (.inl hb)
  .rcases LB b hb with h1|⟨k,o,l,e1,e2,e3,e4,e5,e6⟩
   .exact .inr h1
   .exact .inl (.inr ⟨k,o,l,e1,e2,e3,e4,e5,by subst hkl;exact e6⟩)
 have hres:eZ w' m2 (MX X m2 h2) (r'.ren (at_ KL)) v:=by
  rcases hp with hp|⟨hp,_⟩
  .exact eZ.ren hρ (hMM hp) iN
  .exact eZ.ren hρ (λ_ _ h=>h) (iN.anyM hp)
 refine⟨v,m2,rfl,⟨⟨λk o hk=> ?_,λk k' o o' l l' b e1 e2 e3 e4 e5 e6 e7 e8=> ?_,λk hk=> ?_,λb hb hX=> ?_,λb hb=>xX (H.xlt b hb) hfr.size⟩,kG,hfr.os,hfr.tape,hfr.output,λb hb hM=>hkeep b hb (λh1=>hM (LC b h1).1),λb hb=> ?_,λk e1 e2 e3=> ?_⟩,hres⟩
 .rcases P8 k o hk with⟨j,o',hj,ho',rfl⟩|⟨hi,_,ho⟩|⟨_,rfl⟩
  .rcases hp with hp|⟨_,hp⟩
   .exact yc.ren hρ (hMM hp) (λl hl=>hm2 j k l hj hl) (H'.obj j o' ho')
   .exact yc.ren hρ (λ_ _ h=>h) (λl hl=>hm2 j k l hj hl) ((H'.obj j o' ho').anyM (hp o' (rJ ho')))
  .have qF:=H.obj k o ho;have hblk:∀l b,o.live->m k=some l->l.blk=some b->w'.heap[b]? =w.heap[b]? :=(by intro l b hl hm hb;refine hkeep b (abo H ho hl hm hb) (λh1=> ?_);obtain⟨_,j,k',o',l',e1,e2,e3,e4,e5⟩:=LC b h1;have:=H.inj k k' o o' l l' b ho e2 hl e3 hm e4 hb e5;subst this;exact akh k hi (rJ e1));cases o with
   |dead=>trivial
   |ms es=>obtain⟨l,b,rows,clock,e1,e2,e3,e4⟩:=qF;exact⟨l,b,rows,clock,hext k l e1,e2,by rw[hblk l b trivial e1 e2];exact e3,e4⟩
   |ra z n cs=>obtain⟨l,b,T,us,e1,e2,e3,e4,e5,e6,e7,e8,e9,e10⟩:=qF;exact⟨l,b,T,us,hext k l e1,e2,e3,e4,e5,by rw[hblk l b trivial e1 e4];exact e6,e7,e8,e9,λi x hx=>(e10 i x hx).later kG⟩
   |box cs=>obtain⟨l,b,T,us,e1,e2,e3,e4,e5⟩:=qF;exact⟨l,b,T,us,hext k l e1,e2,by rw[hblk l b trivial e1 e2];exact e3,e4.later kG,e5⟩
   |arr z n f=>obtain⟨l,e1,e2,e3,e4,e5⟩:=qF;refine⟨l,hext k l e1,e2,e3,e4,λb hb=> ?_⟩;obtain⟨e6,T,us,e7,e8,e9,e10⟩:=e5 b hb;exact⟨e6,T,us,by rw[hblk l b trivial e1 hb];exact e7,e8,e9,λi hi=>⟨(e10 i hi).1,λq x hx=>((e10 i hi).2 q x hx).later kG⟩⟩
  .trivial
 ·-- two objects in one block
  have own:∀(q:Nat) (oq:aU) (lq:Loc),h2[q]? =some oq->oq.live->m2 q=some lq->lq.blk=some b->(∃(j:Nat) (o':aU),KL[j]? =some q/\h'[j]? =some o'/\o'.live/\m' j=some lq)\/(idxOf q KL 0=none/\h[q]? =some oq/\m q=some lq):=by
   intro q oq lq hq hl hm hb;rcases P8 q oq hq with⟨j,o',hj,ho',rfl⟩|⟨hi,_,ho⟩|⟨_,rfl⟩
   .rw[aU.ahL]at hl;left;have qF:=H'.obj j o' ho';obtain⟨l',hl'⟩:∃l',m' j=some l':=by cases o' with
     |dead=>exact hl.elim
     |ra z1 n1 cs1=>obtain⟨l',_,_,_,e1,_⟩:=qF;exact⟨l',e1⟩
     |ms es1=>obtain⟨l',_,_,_,e1,_⟩:=qF;exact⟨l',e1⟩
     |box cs=>obtain⟨l',_,_,_,e1,_⟩:=qF;exact⟨l',e1⟩
     |arr z n f=>obtain⟨l',e1,_⟩:=qF;exact⟨l',e1⟩
    rw[hm2 j q l' hj hl']at hm;cases hm;exact⟨j,o',hj,ho',hl,hl'⟩
   .right;rw[acr q hi]at hm;exact⟨hi,ho,hm⟩
   .exact hl.elim
  have mixed:∀(q:Nat) (oq:aU) (lq:Loc) (j:Nat) (o':aU) (q':Nat) (lq':Loc),(idxOf q KL 0=none/\h[q]? =some oq/\m q=some lq)->oq.live->lq.blk=some b->KL[j]? =some q'->h'[j]? =some o'->o'.live->m' j=some lq'->lq'.blk=some b->False:=by
   rintro q oq lq j o' q' lq' ⟨hi,ho,hm⟩ hl hb hj ho' hl' hm' hb';have hM':iO m' h' b:=⟨j,o',lq',ho',hl',hm',hb'⟩;rcases hmt b hM' with h4|h4
   .obtain⟨_,j2,k2',o2,l2,q1,q2,q3,q4,q5⟩:=LC b h4;have:=H.inj q k2' oq o2 lq l2 b ho q2 hl q3 hm q4 hb q5;subst this;exact akh q hi (rJ q1)
   .have:=abo H ho hl hm hb;omega
  rcases own k o l e1 e3 e5 e7 with⟨j,o1,a1,a2,a3,a4⟩|a
  .rcases own k' o' l' e2 e4 e6 e8 with⟨j',o2,b1,b2,b3,b4⟩|b'
   .have:=H'.inj j j' o1 o2 l l' b a2 b2 a3 b3 a4 b4 e7 e8;subst this;rw[a1]at b1;exact rM b1
   .exact(mixed k' o' l' j o1 k l b' e4 e8 a1 a2 a3 a4 e7).elim
  .rcases own k' o' l' e2 e4 e6 e8 with⟨j',o2,b1,b2,b3,b4⟩|b'
   .exact(mixed k o l j' o2 k' l' a e3 e7 b1 b2 b3 b4 e8).elim
   .exact H.inj k k' o o' l l' b a.2.1 b'.2.1 e3 e4 a.2.2 b'.2.2 e7 e8
 .have hlen:h2.length=h.length:=Zr _ _;have hk':h.length<=k:=by rw[<-hlen];exact hk
  have:idxOf k KL 0=none:=by rcases hi:idxOf k KL 0 with _|j;rfl;have hj:=(KY hi).2;simp only[Ed]at hj;have:=hin j k hj;omega
  rw[acr k this];exact H.used k hk'
 .rcases LB b hb with h3|⟨k,o,l,e1,e2,e3,e4,_⟩
  .exact H'.uL b h3 (.inl hX)
  .exact H.uL b ⟨k,o,l,e1,e2,e3,e4⟩ hX
 .rcases LB b hb with h3|⟨k,o,l,e1,e2,e3,e4,_⟩
  .rcases hmt b h3 with h4|h4
   .exact .inl (LC b h4).1
   .exact .inr h4
  .exact .inl ⟨k,o,l,e1,e2,e3,e4⟩
 ·-- a number that is not used
  rcases hi:idxOf k KL 0 with _|j;rw[acr k hi];exact e3;exfalso;have hj:=(KY hi).2;simp only[Ed]at hj;rcases P8 k _ e2 with⟨j',o',hj',ho',he⟩|⟨hi',_⟩|⟨hi',_⟩
  .rcases mI j' K.length with hlt|hge
   .have hlv:=k5 k (rJ (aj7 j' k hj' hlt));have:=hg k hlv;rw[e1]at this;rw[<-rM this]at hlv;exact hlv
   .have hmem:o'∈h'.drop K.length:=rJ (i:=j'-K.length) (by rw[yP,Nat.add_sub_cancel' hge];exact ho');have:=agN ((j6.1 k6) o' hmem);have h3:=aU.ahL (ρ:=at_ KL).2 this;rw[<-he]at h3;exact h3
  .rw[hi]at hi';cases hi'
  .rw[hi]at hi';cases hi'
end
end Go.AM
namespace Go.AM
open Go Go.RowKit Go.CP
variable [Fuel]
inductive TO where
 |box (cs:List SC)
 |arr (t:Ty) (xs:List (den t))
 |ra (cs:List SC)
 |ms (es:List (Value×Value))
 |dead
def TO.er:TO->aU
 | .box cs=> .box cs
 | .arr t xs=> .arr (wd t) xs.length (fE t xs)
 | .ra cs=> .ra 1 cs.length cs
 | .ms es=> .ms es
 | .dead=> .dead
def lookO:List (Nat×TO)->Nat->TO
 | [],_=> .dead
 |(j,o)::r,k=>bif Nat.beq j k then o else lookO r k
structure TS where
 σ:List (Nat×SV)
 h:List (Nat×TO)
 n:Nat
def uS(h:List (Nat×TO))(n:Nat):List aU:=(List.range n).map (λk=>(lookO h k).er)
def TS.er(ts:TS):St:=⟨ts.σ,uS ts.h ts.n⟩
theorem Gn(h:List (Nat×TO))(n k:Nat):(uS h n)[k]? =if k<n then some (lookO h k).er else none:=by
 unfold uS;rw[mW];by_cases hk:k<n
 .rw[List.getElem?_range hk,bW hk];rfl
 .rw[xS ay,dn hk];rfl
theorem AU(h:List (Nat×TO))(n:Nat):(uS h n).length=n:=by simp[uS]
inductive CK where
 |ty (t:Ty)
 |MB (t:Ty)
 |own (j:Nat)
 |pb (j off:Nat)
 |pe (j off:Nat)
 |rp (t:Ty)
 |fn (f:FuncId) (js:List Nat)
 |nl
 |mc (j:Nat)
 |fb (f:FuncId) (j off:Nat)
 |bot
inductive SK where
 |c (k:CK)
 |st (n:N)
 |sw (n:N) (ov:List (Nat×CK))
 |ag (ks:List CK)
inductive OK where
 |bs (n:N)
 |bw (n:N) (ov:List (Nat×CK))
 |bx (ks:List CK)
 |ar (t:Ty)
 |ra (ks:List CK)
 |ms
 |dd
structure Shape where
 slots:List (Nat×SK)
 objs:List OK
def VC:CK->Type
 | .ty t=>den t
 | .MB t=>List (den t)
 | .pe _ _=>Nat
 | .rp t=>den t
 |_=>Unit
def VCs:List CK->Type
 | []=>Unit
 |k::r=>VC k×VCs r
def Dc:List (Nat×CK)->Type
 | []=>Unit
 |(_,k)::r=>VC k×Dc r
def VS:SK->Type
 | .c k=>VC k
 | .st n=>T n
 | .sw n ov=>T n×Dc ov
 | .ag ks=>VCs ks
def Hg:List (Nat×SK)->Type
 | []=>Unit
 |(_,k)::r=>VS k×Hg r
def VO:OK->Type
 | .bs n=>T n
 | .bw n ov=>T n×Dc ov
 | .bx ks=>VCs ks
 | .ar t=>List (den t)
 | .ra ks=>VCs ks
 | .ms=>List (Value×Value)
 | .dd=>Unit
def Al:List OK->Type
 | []=>Unit
 |k::r=>VO k×Al r
abbrev Shape.V(sh:Shape):Type:=Hg sh.slots×Al sh.objs
def eC:(k:CK)->VC k->SC
 | .ty t,x=> .c (Ew t x)
 | .MB t,x=> .c (.lW t x)
 | .own j,_=> .own j
 | .pb j off,_=> .pb j off
 | .pe j off,i=> .pe j i off
 | .rp t,x=> .rp (w9 t x)
 | .fn f js,_=> .fn f js
 | .nl,_=> .c (.val (.slice none 0 0))
 | .mc j,_=> .mp j
 | .fb f j off,_=> .fb f j off
 | .bot,_=> .bot
def za:(ks:List CK)->VCs ks->List SC
 | [],_=> []
 |k::r,v=>eC k v.1::za r v.2
def BH:(ov:List (Nat×CK))->Dc ov->List SC->List SC
 | [],_,cs=>cs
 |(i,k)::r,v,cs=>BH r v.2 (cs.set i (eC k v.1))
def eS:(k:SK)->VS k->SV
 | .c k,x=> .one (.s (eC k x))
 | .st n,x=> .one (.agg ((jI n x).map .c))
 | .sw n ov,x=> .one (.agg (BH ov x.2 ((jI n x.1).map .c)))
 | .ag ks,x=> .one (.agg (za ks x))
def kN:(ks:List (Nat×SK))->Hg ks->List (Nat×SV)
 | [],_=> []
 |(x,k)::r,v=>(x,eS k v.1)::kN r v.2
def eO:(k:OK)->VO k->TO
 | .bs n,x=> .box ((jI n x).map .c)
 | .bw n ov,x=> .box (BH ov x.2 ((jI n x.1).map .c))
 | .bx ks,x=> .box (za ks x)
 | .ar t,xs=> .arr t xs
 | .ra ks,x=> .ra (za ks x)
 | .ms,es=> .ms es
 | .dd,_=> .dead
def gY:(ks:List OK)->Al ks->List TO
 | [],_=> []
 |k::r,v=>eO k v.1::gY r v.2
def JA:Nat->List TO->List (Nat×TO)
 |_,[]=> []
 |i,o::r=>(i,o)::JA (i+1) r
def enc(sh:Shape)(v:sh.V):TS:=⟨kN sh.slots v.1,JA 0 (gY sh.objs v.2),sh.objs.length⟩
def Ep(t' t:Ty)(xs:List (den t')):Option (List (den t)):=if e:t'=t then some (e▸xs)else none
def dI(k:IntKind):SC->Option Int
 | .c (.val (.int k' x))=>if k'=k then some x else none
 |_=>none
def dB:SC->Option Bool
 | .c (.val (.bool x))=>some x
 |_=>none
def ab9:SC->Option ByteArray
 | .c (.val (.string x))=>some x
 |_=>none
def dA(t:Ty):TO->Option (List (den t))
 | .arr t' xs=>Ep t' t xs
 |_=>none
def WV(h:List (Nat×TO))(fz:List Nat)(t:Ty):SC->Option (List (den t))
 | .c (.ls t' xs)=>Ep t' t xs
 | .c (.lW t' xs)=>Ep t' t xs
 | .c (.val (.slice none 0 0))=>some []
 | .c .e0=>some []
 | .own k=>bif l8 k fz then dA t (lookO h k)else none
 |_=>none
def neL(t:Ty):TO->Option (List (den t))
 | .arr t' (x::xs)=>Ep t' t (x::xs)
 |_=>none
def dLn(h:List (Nat×TO))(fz:List Nat)(t:Ty):SC->Option (List (den t))
 | .c (.lW t' xs)=>Ep t' t xs
 | .c (.ls t' (x::xs))=>Ep t' t (x::xs)
 | .c (.val (.slice none 0 0))=>some []
 | .own k=>bif l8 k fz then neL t (lookO h k)else none
 |_=>none
def dT(h:List (Nat×TO))(fz:List Nat):(t:Ty)->SC->Option (den t)
 | .i k,c=>dI k c
 | .b,c=>dB c
 | .s,c=>ab9 c
 | .l t,c=>WV h fz t c
 | .n _,_=>none
def JH(h:List (Nat×TO))(fz:List Nat):(ts:List Ty)->List SC->Option (Ag ts)
 | [],[]=>some ()
 |t::r,c::cs=>match dT h fz t c,JH h fz r cs with
  |some x,some v=>some (x,v)
  |_,_=>none
 |_,_=>none
def Aq(h:List (Nat×TO))(fz:List Nat)(n:N)(cs:List SC):Option (T n):=
 match JH h fz (E8 n) cs with
 |some v=>some (QZ n v)
 |none=>none
def Q8(t:Ty)(cs:List CV):Option (den t):=
 match t with
 | .n k=>Aq [] [] k (cs.map .c)
 |t=>match cs with
  | [c]=>dT [] [] t (.c c)
  |_=>none
def dLX(t:Ty):CV->Option (List (den t))
 | .ls t' xs=>Ep t' t xs
 |_=>none
def dX:(t:Ty)->CV->Option (den t)
 | .i k,c=>dI k (.c c)
 | .b,c=>dB (.c c)
 | .s,c=>ab9 (.c c)
 | .l t,c=>dLX t c
 | .n _,_=>none
def acN:(ts:List Ty)->List CV->Option (Ag ts)
 | [],[]=>some ()
 |t::r,c::cs=>match dX t c,acN r cs with
  |some x,some v=>some (x,v)
  |_,_=>none
 |_,_=>none
def unX(t:Ty)(cs:List CV):Option (den t):=
 match t with
 | .n k=>match acN (E8 k) cs with
  |some v=>some (QZ k v)
  |none=>none
 |t=>match cs with
  | [c]=>dX t c
  |_=>none
def sJ:Option (Option Nat)->Nat->Bool
 |some (some k'),k=>Nat.beq k' k
 |_,_=>false
def akj:Option (Option Nat)->Bool
 |some none=>true
 |_=>false
def VU(src:List (Option Nat)):List Nat->List Nat->Bool
 | [],[]=>true
 |j::js,k::ks=>sJ src[j]? k&&VU src js ks
 |_,_=>false
def aki:Option OK->Bool
 |some (.ar _)=>true
 |_=>false
def Wj(src:List (Option Nat))(ko:List OK)(j:Nat):SC->Option Unit
 | .own k=>bif sJ src[j]? k then some ()else none
 | .c (.val (.slice none 0 0))=>bif akj src[j]? &&aki ko[j]? then some ()else none
 |_=>none
def WX(src:List (Option Nat))(j off:Nat):SC->Option Unit
 | .pb k off'=>bif Nat.beq off off'&&sJ src[j]? k then some ()else none
 |_=>none
def WW(src:List (Option Nat))(j:Nat):SC->Option Unit
 | .mp k=>bif sJ src[j]? k then some ()else none
 |_=>none
def dPe(src:List (Option Nat))(j off:Nat):SC->Option Nat
 | .pe k i off'=>bif Nat.beq off off'&&sJ src[j]? k then some i else none
 |_=>none
def dBx(h:List (Nat×TO))(fz:List Nat)(k:Nat):(t:Ty)->Option (den t)
 | .n n=>match lookO h k with
  | .box cs=>Aq h fz n cs
  |_=>none
 |_=>none
def dRp(h:List (Nat×TO))(fz:List Nat)(t:Ty):SC->Option (den t)
 | .rp cs=>unX t cs
 | .pb k off=>bif Nat.beq off 0&&l8 k fz then dBx h fz k t else none
 |_=>none
def dFn(src:List (Option Nat))(f:FuncId)(js:List Nat):SC->Option Unit
 | .fn f' ks=>bif Nat.beq f f'&&VU src js ks then some ()else none
 |_=>none
def dFb(src:List (Option Nat))(f:FuncId)(j off:Nat):SC->Option Unit
 | .fb f' k off'=>bif Nat.beq f f'&&Nat.beq off off'&&sJ src[j]? k then some ()else none
 |_=>none
def dNl:SC->Option Unit
 | .c (.val (.slice none 0 0))=>some ()
 |_=>none
def dC(h:List (Nat×TO))(fz:List Nat)(src:List (Option Nat))(ko:List OK):(k:CK)->SC->Option (VC k)
 | .ty t,c=>dT h fz t c
 | .MB t,c=>dLn h fz t c
 | .own j,c=>Wj src ko j c
 | .pb j off,c=>WX src j off c
 | .pe j off,c=>dPe src j off c
 | .rp t,c=>dRp h fz t c
 | .fn f js,c=>dFn src f js c
 | .nl,c=>dNl c
 | .mc j,c=>WW src j c
 | .fb f j off,c=>dFb src f j off c
 | .bot,_=>some ()
section
variable (h:List (Nat×TO)) (fz:List Nat) (src:List (Option Nat)) (ko:List OK)
def E5:(ks:List CK)->List SC->Option (VCs ks)
 | [],[]=>some ()
 |k::r,c::cs=>match dC h fz src ko k c,E5 r cs with
  |some x,some v=>some (x,v)
  |_,_=>none
 |_,_=>none
def QO:(ov:List (Nat×CK))->List SC->Option (Dc ov)
 | [],_=>some ()
 | (i,k)::r,cs=>match cs[i]? with
  |some c=>match dC h fz src ko k c,QO r cs with
   |some x,some v=>some (x,v)
   |_,_=>none
  |none=>none
def Bn:List (Nat×CK)->List SC->List SC
 | [],cs=>cs
 |(i,_)::r,cs=>Bn r (cs.set i (.c (.val (.slice none 0 0))))
def yx(i:Nat):List (Nat×CK)->Bool
 | []=>false
 |(j,_)::r=>Nat.beq j i||yx i r
def abB:List (Nat×CK)->Bool
 | []=>true
 |(i,_)::r=> !(yx i r)&&abB r
def dW(n:N)(ov:List (Nat×CK))(cs:List SC):Option (T n×Dc ov):=
 match Aq h fz n (Bn ov cs),QO h fz src ko ov cs with
 |some x,some v=>bif abB ov then some (x,v)else none
 |_,_=>none
def cellOf:SV->Option SC
 | .one (.s c)=>some c
 |_=>none
def U0:SV->Option (List SC)
 | .one (.agg cs)=>some cs
 |_=>none
def dS:(k:SK)->SV->Option (VS k)
 | .c k,s=>match cellOf s with
  |some c=>dC h fz src ko k c
  |none=>none
 | .st n,s=>match U0 s with
  |some cs=>Aq h fz n cs
  |none=>none
 | .sw n ov,s=>match U0 s with
  |some cs=>dW h fz src ko n ov cs
  |none=>none
 | .ag ks,s=>match U0 s with
  |some cs=>E5 h fz src ko ks cs
  |none=>none
def WY(σ:List (Nat×SV)):(ks:List (Nat×SK))->Option (Hg ks)
 | []=>some ()
 | (x,k)::r=>match look σ x with
  |some s=>match dS h fz src ko k s,WY σ r with
   |some a,some v=>some (a,v)
   |_,_=>none
  |none=>none
def Jp:Option Nat->Option (List SC)
 |some k=>match lookO h k with
  | .box cs=>some cs
  |_=>none
 |none=>none
def acy:Option Nat->Option (List (Value×Value))
 |some k=>match lookO h k with
  | .ms es=>some es
  |_=>none
 |none=>none
def akz:Option Nat->Option (List SC)
 |some k=>match lookO h k with
  | .ra cs=>some cs
  |_=>none
 |none=>none
def dO(s:Option Nat):(k:OK)->Option (VO k)
 | .bs n=>match Jp h s with
  |some cs=>Aq h fz n cs
  |none=>none
 | .bw n ov=>match Jp h s with
  |some cs=>dW h fz src ko n ov cs
  |none=>none
 | .bx ks=>match Jp h s with
  |some cs=>E5 h fz src ko ks cs
  |none=>none
 | .ar t=>match s with
  |some k=>dA t (lookO h k)
  |none=>some ([]:List (den t))
 | .ms=>acy h s
 | .ra ks=>match akz h s with
  |some cs=>E5 h fz src ko ks cs
  |none=>none
 | .dd=>some ()
def QN:List (Option Nat)->(ks:List OK)->Option (Al ks)
 | [],[]=>some ()
 |s::ss,k::r=>match dO h fz src ko s k,QN ss r with
  |some a,some v=>some (a,v)
  |_,_=>none
 |_,_=>none
end
structure Om where
 om:List (Nat×Option Nat)
 fz:List Nat
def acJ:List (Nat×Option Nat)->Nat->Option (Option Nat)
 | [],_=>none
 |(j,s)::r,i=>bif Nat.beq j i then some s else acJ r i
def Om.add(o:Om)(j:Nat)(s:Option Nat):Om:=
 match acJ o.om j with
 |some _=>o
 |none=>⟨(j,s)::o.om,o.fz⟩
def Om.yF(o:Om)(k:Nat):Om:=bif l8 k o.fz then o else⟨o.om,k::o.fz⟩
def Om.asY(o:Om):List Nat->List Nat->Om
 |j::js,k::ks=>Om.asY (o.add j (some k)) js ks
 |_,_=>o
def oC(o:Om):CK->SC->Om
 | .ty _,.own k=>o.yF k
 | .MB _,.own k=>o.yF k
 | .own j,.own k=>o.add j (some k)
 | .own j,.c _=>o.add j none
 | .pb j _,.pb k _=>o.add j (some k)
 | .rp _,.pb k _=>o.yF k
 | .pe j _,.pe k _ _=>o.add j (some k)
 | .fn _ js,.fn _ ks=>o.asY js ks
 | .mc j,.mp k=>o.add j (some k)
 | .fb _ j _,.fb _ k _=>o.add j (some k)
 |_,_=>o
def oCs(o:Om):List CK->List SC->Om
 |k::r,c::cs=>oCs (oC o k c) r cs
 |_,_=>o
def oOv(o:Om):List (Nat×CK)->List SC->Om
 |(i,k)::r,cs=>match cs[i]? with
  |some c=>oOv (oC o k c) r cs
  |none=>o
 | [],_=>o
def oN(o:Om):List SC->Om
 | .own k::cs=>oN (o.yF k) cs
 |_::cs=>oN o cs
 | []=>o
def oS(o:Om):SK->SV->Om
 | .c k,.one (.s c)=>oC o k c
 | .st _,.one (.agg cs)=>oN o cs
 | .sw _ ov,.one (.agg cs)=>oOv (oN o (Bn ov cs)) ov cs
 | .ag ks,.one (.agg cs)=>oCs o ks cs
 |_,_=>o
def oSs(σ:List (Nat×SV))(o:Om):List (Nat×SK)->Om
 | []=>o
 |(x,k)::r=>match look σ x with
  |some s=>oSs σ (oS o k s) r
  |none=>o
def oO(h:List (Nat×TO))(o:Om)(j:Nat)(k:OK):Om:=
 match acJ o.om j with
 |some (some i)=>match lookO h i,k with
  | .box cs,.bs _=>oN o cs
  | .box cs,.bw _ ov=>oOv (oN o (Bn ov cs)) ov cs
  | .box cs,.bx ks=>oCs o ks cs
  | .ra cs,.ra ks=>oCs o ks cs
  |_,_=>o
 |_=>o
def oOs(h:List (Nat×TO))(o:Om):Nat->List OK->Om
 |_,[]=>o
 |j,k::r=>oOs h (oO h o j k) (j+1) r
def at7:Nat->List (Nat×Option Nat)
 |0=> []
 |p+1=>(p,some p)::at7 p
def Ak(om:List (Nat×Option Nat)):Nat->Nat->List (Option Nat)
 |_,0=> []
 |j,n+1=>(match acJ om j with|some s=>s|none=>none)::Ak om (j+1) n
def zG(k:Nat):List (Option Nat)->List OK->Bool
 |some _::r,.dd::ks=>zG k r ks
 |some k'::r,_::ks=>Nat.beq k' k||zG k r ks
 |none::r,_::ks=>zG k r ks
 |_,_=>false
def Ba:List (Option Nat)->List OK->Bool
 |some _::r,.dd::ks=>Ba r ks
 |some k::r,_::ks=> !(zG k r ks)&&Ba r ks
 |none::r,_::ks=>Ba r ks
 |_,_=>true
def preO:Nat->Nat->List (Option Nat)->Bool
 |0,_,_=>true
 |p+1,i,some k::r=>Nat.beq k i&&preO p (i+1) r
 |_,_,_=>false
def zB(k:Nat):List (Option Nat)->List OK->Bool
 |some k'::r,.dd::ks=>zB k r ks
 |some k'::r,_::ks=> !(Nat.beq k' k)&&zB k r ks
 |none::r,_::ks=>zB k r ks
 | [],[]=>true
 |_,_=>false
def ajv(h:List (Nat×TO)):List Nat->Om->Om
 | [],o=>o
 |k::r,o=>match lookO h k with
  | .box cs=>ajv h r (oN o cs)
  |_=>ajv h r o
def qV(sh:Shape)(p:Nat)(ts:TS):Om:=
 let o:=oOs ts.h (oSs ts.σ ⟨at7 p,[]⟩ sh.slots) 0 sh.objs
 ajv ts.h o.fz o
def dec(sh:Shape)(p:Nat)(ts:TS):Option sh.V:=
 let o:=qV sh p ts
 let src:=Ak o.om 0 sh.objs.length
 bif Ba src sh.objs&&preO p 0 src&&o.fz.all (λk=>zB k src sh.objs)then
  match WY ts.h o.fz src sh.objs ts.σ sh.slots,QN ts.h o.fz src sh.objs src sh.objs with
  |some a,some b=>some (a,b)
  |_,_=>none
 else none
section
variable {t:Ty}{s:SV}{c:SC}{x:den t}{n:N}{ts:TS}
theorem Lc{k:Nat}{l:List Nat}(h:l8 k l=true):k∈l:=uV.1 h
theorem Ga{t':Ty}{xs:List (den t')}{ys:List (den t)}(h:Ep t' t xs=some ys):(⟨t',xs⟩:(t:Ty)×List (den t))=⟨t,ys⟩:=by
  unfold Ep at h;split at h
  · rename_i e;subst e;cases h;rfl
  · cases h
theorem OD{s:Option (Option Nat)}{k:Nat}(h:sJ s k=true):s=some (some k):=by
  unfold sJ at h;split at h
  · rw[eG h]
  · cases h
section
variable {h:List (Nat×TO)} {fz:List Nat} {src:List (Option Nat)} {ko:List OK} {g:Nat->aU} {h':List aU}
structure Fits(h:List (Nat×TO))(fz:List Nat)(src:List (Option Nat))(ko:List OK)(g:Nat->aU)(h':List aU):Prop where
  see:∀k,(k∈fz\/some k∈src)->lookO h k≠.dead->g k=(lookO h k).er
  yF:∀k∈fz,∀j:Nat,src[j]? =some (some k)->h'[j]? =some aU.dead
  gh:∀j:Nat,src[j]? =some none->aki ko[j]? =true→∃z f,h'[j]? =some (.arr z 0 f)
theorem ah0{k:IntKind}{x:Int}(e:dI k c=some x):c= .c (.val (.int k x)):=by
  unfold dI at e;split at e
  · split at e
    · rename_i hk;subst hk;cases e;rfl
    · cases e
  · cases e
theorem ahZ{x:Bool}(e:dB c=some x):c=.c (.val (.bool x)):=by
  unfold dB at e;split at e
  · cases e;rfl
  · cases e
theorem ag3{x:ByteArray}(e:ab9 c=some x):c=.c (.val (.string x)):=by
  unfold ab9 at e;split at e
  · cases e;rfl
  · cases e
theorem D6{o:TO}{xs:List (den t)}(e:dA t o=some xs):o=.arr t xs:=by
  unfold dA at e;split at e
  · cases Ga e;rfl
  · cases e
theorem aiY(H:Fits h fz src ko g h')(e:dT h fz t c=some x):qh g h' src (· ∈fz) c (.c (Ew t x)):=by cases t with
  |i k=>rw[ah0 e];exact .c (CV.wJ _)
  |b=>rw[ahZ e];exact .c (CV.wJ _)
  |s=>rw[ag3 e];exact .c (CV.wJ _)
  |n k=>cases e
  |l t =>
    replace e:WV h fz t c=some x:=e;unfold WV at e;split at e
    · cases Ga e;exact .c (CV.wJ _)
    · cases Ga e;exact .c rfl
    · cases e;exact .c rfl
    · cases e;exact .c rfl
    · rename_i k;rcases hb:l8 k fz with _|_;rw[hb]at e;cases e;rw[hb]at e;have hl:=D6 e;exact .yF (Lc hb) (by rw[H.see k (.inl (Lc hb)) (by rw[hl];intro h;cases h),hl];rfl) (H.yF k (Lc hb))
    · cases e
theorem aJi{o:TO}{xs:List (den t)}(e:neL t o=some xs):o=.arr t xs/\xs≠ []:=by
  unfold neL at e;split at e
  · cases Ga e;exact⟨rfl,λh=>by cases h⟩
  · cases e
theorem aJV(H:Fits h fz src ko g h'){x:List (den t)}(e:dLn h fz t c=some x):qh g h' src (· ∈fz) c (.c (.lW t x)):=by
  unfold dLn at e;split at e
  · cases Ga e;exact .c (CV.wJ _)
  · cases Ga e;exact .c rfl
  · cases e;exact .c rfl
  · rename_i k;rcases hb:l8 k fz with _|_;rw[hb]at e;cases e;rw[hb]at e;obtain⟨hl,hne⟩:=aJi e;exact .frn (Lc hb) (by rw[H.see k (.inl (Lc hb)) (by rw[hl];intro h;cases h),hl];rfl) (H.yF k (Lc hb)) hne
  · cases e
theorem aqn(H:Fits h fz src ko g h'):∀{ts:List Ty} {cs:List SC} {v:Ag ts},JH h fz ts cs=some v->zF g h' src (· ∈fz) cs ((tL ts v).map .c)
  | [],[],v,e=>⟨rfl,λi x' hx=>by simp[tL]at hx⟩
  | [],_::_,v,e=>by cases e
  |_::_,[],v,e=>by cases e
  |t ::r,c::cs,v,e=>by
    unfold JH at e;split at e
    · rename_i x u h1 h2;cases e;obtain⟨q1,q2⟩:=aqn H h2;refine⟨by simpa[tL]using q1,λi x' hx=> ?_⟩;cases i with|zero=>simp[tL]at hx;subst hx;exact⟨c,rfl,aiY H h1⟩|succ i=>simpa using q2 i x' (by simpa[tL]using hx)
    · cases e
theorem Vj(H:Fits h fz src ko g h'){cs:List SC}{x:T n}(e:Aq h fz n cs=some x):zF g h' src (· ∈fz) cs ((jI n x).map .c):=by
  unfold Aq at e;split at e
  · rename_i v hv;cases e;rw[Ph];exact aqn H hv
  · cases e
theorem asy{c:CV}(e:dX t c=some x):c=Ew t x:=by cases t with
  |i k=>cases ah0 e;rfl
  |b=>cases ahZ e;rfl
  |s=>cases ag3 e;rfl
  |n k=>cases e
  |l t=>
    replace e:dLX t c=some x:=e;unfold dLX at e;split at e
    · cases Ga e;rfl
    · cases e
theorem arf:∀{ts:List Ty} {cs:List CV} {v:Ag ts},acN ts cs=some v->cs=tL ts v
  | [],[],v,e=>rfl
  | [],_::_,v,e=>by cases e
  |_::_,[],v,e=>by cases e
  |t ::r,c::cs,v,e=>by
    unfold acN at e;split at e
    · rename_i x u h1 h2;cases e;rw[asy h1,arf h2];rfl
    · cases e
theorem aLF{cs:List CV}(e:unX t cs=some x):cs=w9 t x:=by cases t with
  |n k=>
    simp only[unX]at e;split at e
    · rename_i v hv;cases e;rw[arf hv];exact(Ph _ _).symm
    · cases e
  |_=>
    simp only[unX]at e;split at e
    · rw[asy e];rfl
    · cases e
theorem aoc:∀{js ks:List Nat},VU src js ks=true->ks.length=js.length∧∀(i j:Nat),js[i]? =some j→∃k,ks[i]? =some k/\src[j]? =some (some k)
  | [],[],_=>⟨rfl,λi j h=>by simp at h⟩
  | [],_::_,e=>by cases e
  |_::_,[],e=>by cases e
  |j0::js,k0::ks,e=>by simp only[VU,dQ]at e;obtain⟨q1,q2⟩:=aoc e.2;refine⟨by simp[q1],λi j hj=> ?_⟩;cases i with|zero=>simp at hj;subst hj;exact⟨k0,rfl,OD e.1⟩|succ i=>simpa using q2 i j (aD hj)
theorem aiX(H:Fits h fz src ko g h'){k:CK}{x:VC k}(e:dC h fz src ko k c=some x):qh g h' src (· ∈fz) c (eC k x):=by cases k with
  |ty t=>exact aiY H e
  |MB t=>exact aJV H e
  | own j =>
    replace e:Wj src ko j c=some x:=e;unfold Wj at e;split at e
    · rename_i k;rcases hb:sJ src[j]? k with _|_;rw[hb]at e;cases e;exact .own (OD hb)
    · rcases hb:akj src[j]? &&aki ko[j]? with _|_;rw[hb]at e;cases e;simp only[dQ]at hb;have hs:src[j]? =some none:=by
        have:=hb.1;unfold akj at this;split at this
        · assumption
        · cases this
      obtain⟨z,f,ho⟩:=H.gh j hs hb.2;exact .gh hs ho
    · cases e
  |pb j off=>
    replace e:WX src j off c=some x:=e;unfold WX at e;split at e
    · rename_i k off';rcases hb:Nat.beq off off'&&sJ src[j]? k with _|_;rw[hb]at e;cases e;simp only[dQ]at hb;have:=eG hb.1;subst this;exact .pb (OD hb.2)
    · cases e
  |pe j off=>
    replace e:dPe src j off c=some x:=e;unfold dPe at e;split at e
    · rename_i k i off';rcases hb:Nat.beq off off'&&sJ src[j]? k with _|_;rw[hb]at e;cases e;rw[hb]at e;cases e;simp only[dQ]at hb;have:=eG hb.1;subst this;exact .pe (OD hb.2)
    · cases e
  | rp t=>
    replace e:dRp h fz t c=some x:=e;unfold dRp at e;split at e
    · rw[aLF e];exact .rp _
    · rename_i k off;cases hb:(Nat.beq off 0&&l8 k fz)with
      |false=>rw[hb]at e;cases e
      | true=> rw[hb]at e;simp only[aY]at e;rw[dQ]at hb;have:=eG hb.1;subst this;have hz:=Lc hb.2;cases t with
        |n n=>replace e:(match lookO h k with| .box cs=>Aq h fz n cs|_=>none)=some x:=e;cases hl:lookO h k with
          |arr t xs=>rw[hl]at e;cases e
          |ra cs=>rw[hl]at e;cases e
          |ms es=>rw[hl]at e;cases e
          |dead=>rw[hl]at e;cases e
          |box cs=>rw[hl]at e;replace e:Aq h fz n cs=some x:=e;have hf:=Vj H e;refine .frp hz (by rw[H.see k (.inl hz) (by rw[hl];intro h;cases h),hl];rfl) (λi y hy=> ?_) (H.yF k hz);obtain⟨x',h1,h2⟩:=hf.2 i (.c y) (by rw[mW];show((jI n x)[i]?).map SC.c=_;rw[show(jI n x)[i]? =some y from hy];rfl);refine⟨x',h1,?_⟩;cases h2 with|c e=>exact .inl ⟨_,rfl,e⟩|yF a1 a2 a3=>exact .inr ⟨_,_,_,rfl,a1,a2,a3,.inl rfl⟩|frn a1 a2 a3 a4=>exact .inr ⟨_,_,_,rfl,a1,a2,a3,.inr ⟨rfl,a4⟩⟩
        |_=>cases e
    · cases e
  |fn f js=>
    replace e:dFn src f js c=some x:=e;unfold dFn at e;split at e
    · rename_i f' ks;rcases hb:Nat.beq f f'&&VU src js ks with _|_;rw[hb]at e;cases e;simp only[dQ]at hb;have:=eG hb.1;subst this;obtain⟨q1,q2⟩:=aoc hb.2;exact .fn q1 q2
    · cases e
  |mc j=>
    replace e:WW src j c=some x:=e;unfold WW at e;split at e
    · rename_i k;rcases hb:sJ src[j]? k with _|_;rw[hb]at e;cases e;exact .mp (OD hb)
    · cases e
  |fb f j off=>
    replace e:dFb src f j off c=some x:=e;unfold dFb at e;split at e
    · rename_i f' k off';rcases hb:Nat.beq f f'&&Nat.beq off off'&&sJ src[j]? k with _|_;rw[hb]at e;cases e;simp only[dQ]at hb;have h1:=eG hb.1.1;have h2:=eG hb.1.2;subst h1;subst h2;exact .fb (OD hb.2)
    · cases e
  |nl=>
    replace e:dNl c=some x:=e;unfold dNl at e;split at e
    · exact .c rfl
    · cases e
  |bot=>exact .bot _
theorem aaM(H:Fits h fz src ko g h'):∀{ks:List CK} {cs:List SC} {v:VCs ks},E5 h fz src ko ks cs=some v->zF g h' src (· ∈fz) cs (za ks v)
  | [],[],v,e=>⟨rfl,λi x' hx=>by simp[za]at hx⟩
  | [],_::_,v,e=>by cases e
  |_::_,[],v,e=>by cases e
  |k ::r,c::cs,v,e=>by
    unfold E5 at e;split at e
    · rename_i x u h1 h2;cases e;obtain⟨q1,q2⟩:=aaM H h2;refine⟨by simpa[za]using q1,λi x' hx=> ?_⟩;cases i with|zero=>simp[za]at hx;subst hx;exact⟨c,rfl,aiX H h1⟩|succ i=>simpa using q2 i x' (by simpa[za]using hx)
    · cases e
theorem aqC(H:Fits h fz src ko g h'):∀{ov:List (Nat×CK)} {cs base:List SC} {v:Dc ov},QO h fz src ko ov cs=some v->cs.length=base.length→
    (∀(i:Nat) x',base[i]? =some x'->yx i ov=false→∃x,cs[i]? =some x/\qh g h' src (· ∈fz) x x')->zF g h' src (· ∈fz) cs (BH ov v base)
  | [],cs,base,v,e,hl,hb=>⟨hl,λi x' hx=>hb i x' hx rfl⟩
  | (i0,k)::r,cs,base,v,e,hl,hb=>by
    unfold QO at e;split at e
    · rename_i c hc;split at e
      · rename_i x u h1 h2;cases e;show zF g h' src (· ∈fz) cs (BH r u (base.set i0 (eC k x)));refine aqC H h2 (aD hl) (λi x' hx hk=> ?_);by_cases hi:i0=i
        · subst hi;have hlt:=iF hx;simp at hlt;rw[uq hlt]at hx;cases hx;exact⟨c,hc,aiX H h1⟩
        · rw[su hi]at hx;refine hb i x' hx ?_;simp only[yx,nW];refine⟨?_,hk⟩;rcases hq:Nat.beq i0 i with _|_;rfl;exact absurd (eG hq) hi
      · cases e
    · cases e
theorem aot:∀(ov:List (Nat×CK)) (cs:List SC),(Bn ov cs).length=cs.length∧∀i,yx i ov=false->(Bn ov cs)[i]? =cs[i]?
  | [],cs=>⟨rfl,λi _=>rfl⟩
  | (j,k)::r,cs=>by obtain⟨q1,q2⟩:=aot r (cs.set j (.c (.val (.slice none 0 0))));refine⟨by simpa[Bn]using q1,λi hi=> ?_⟩;simp only[yx,nW]at hi;show(Bn r _)[i]? =_;rw[q2 i hi.2,su];intro e;subst e;rw[oW]at hi;cases hi.1
theorem arA(H:Fits h fz src ko g h'){ov:List (Nat×CK)}{cs:List SC}{x:T n×Dc ov}(e:dW h fz src ko n ov cs=some x):zF g h' src (· ∈fz) cs (BH ov x.2 ((jI n x.1).map .c)):=by
  unfold dW at e;split at e
  · rename_i y v h1 h2;rcases hn:abB ov with _|_;rw[hn]at e;cases e;rw[hn]at e;cases e;obtain⟨q1,q2⟩:=Vj H h1;obtain⟨r1,r2⟩:=aot ov cs;refine aqC H h2 (by rw[<-q1,r1]) (λi x' hx hk=> ?_);obtain⟨x,e1,e2⟩:=q2 i x' hx;rw[r2 i hk]at e1;exact⟨x,e1,e2⟩
  · cases e
theorem aGp(e:cellOf s=some c):s=.one (.s c):=by
  unfold cellOf at e;split at e
  · cases e;rfl
  · cases e
theorem agh{c:List SC}(e:U0 s=some c):s=.one (.agg c):=by
  unfold U0 at e;split at e
  · cases e;rfl
  · cases e
theorem aKR(H:Fits h fz src ko g h'){k:SK}{x:VS k}(e:dS h fz src ko k s=some x):CJ g h' src (· ∈fz) s (eS k x):=by cases k with
  |c k=>
    simp only[dS]at e;split at e
    · rename_i c hc;rw[aGp hc];exact aiX H e
    · cases e
  |st n=>
    simp only[dS]at e;split at e
    · rename_i c hc;rw[agh hc];exact Vj H e
    · cases e
  |sw n ov=>
    simp only[dS]at e;split at e
    · rename_i c hc;rw[agh hc];exact arA H e
    · cases e
  |ag ks=>
    simp only[dS]at e;split at e
    · rename_i c hc;rw[agh hc];exact aaM H e
    · cases e
theorem aaN(H:Fits h fz src ko g h'){σ:List (Nat×SV)}:∀{ks:List (Nat×SK)} {v:Hg ks},WY h fz src ko σ ks=some v→∀x s',look (kN ks v) x=some s'→∃s,look σ x=some s/\CJ g h' src (· ∈fz) s s'
  | [],v,e,x,s',hx=>by cases hx
  | (y, k)::r,v,e,x,s',hx=>by
    unfold WY at e;split at e
    · rename_i s hs;split at e
      · rename_i a u h1 h2;cases e;simp only[kN,look]at hx;cases hb:Nat.beq y x with
        |true=>rw[hb]at hx;cases hx;have:=eG hb;subst this;exact⟨s,hs,aKR H h1⟩
        |false=>rw[hb]at hx;exact aaN H h2 x s' hx
      · cases e
    · cases e
theorem agG{s:Option Nat}{cs:List SC}(H:Fits h fz src ko g h')(hs:s∈src)(e:Jp h s=some cs):∃i,s=some i/\g i= .box cs:=by
  unfold Jp at e;split at e
  · rename_i i;split at e
    · rename_i hl;cases e;exact⟨i,rfl,by rw[H.see i (.inr hs) (by rw[hl];intro h;cases h),hl];rfl⟩
    · cases e
  · cases e
theorem aKQ(H:Fits h fz src ko g h'){s:Option Nat}(hsrc:s∈src){k:OK}{x:VO k}(e:dO h fz src ko s k=some x):
    eO k x=.dead\/(∃i,s=some i/\ab6 g h' src (· ∈fz) (g i) (eO k x).er)\/(s=none∧∃z f,(eO k x).er=.arr z 0 f):=by
  cases k with
  |dd=>exact .inl rfl
  |ar t=>rcases s with _|i;cases e;exact .inr (.inr ⟨rfl,_,_,rfl⟩);have hl:=D6 (show dA t (lookO h i)=some x from e);refine .inr (.inl ⟨i,rfl,?_⟩);rw[H.see i (.inr hsrc) (by rw[hl];intro h;cases h),hl];exact⟨rfl,rfl,rfl⟩
  |ms=>
    replace e:acy h s=some x:=e;rcases s with _|i;cases e;unfold acy at e;simp only at e;split at e
    · rename_i es hl;cases e;refine .inr (.inl ⟨i,rfl,?_⟩);rw[H.see i (.inr hsrc) (by rw[hl];intro h;cases h),hl];exact Eq.refl _
    · cases e
  | ra ks =>
    simp only[dO]at e;split at e
    · rename_i cs hl;unfold akz at hl;split at hl
      · rename_i i;split at hl
        · rename_i cs' hk;cases hl;refine .inr (.inl ⟨i,rfl,?_⟩);rw[H.see i (.inr hsrc) (by rw[hk];intro h;cases h),hk];have:=aaM H e;exact⟨rfl,this.1,this⟩
        · cases hl
      · cases hl
    · cases e
  |bs n=>
    simp only[dO]at e;split at e
    · rename_i cs hl;obtain⟨i,rfl,hi⟩:=agG H hsrc hl;exact .inr (.inl ⟨i,rfl,by rw[hi];exact Vj H e⟩)
    · cases e
  |bw n ov=>
    simp only[dO]at e;split at e
    · rename_i cs hl;obtain⟨i,rfl,hi⟩:=agG H hsrc hl;exact .inr (.inl ⟨i,rfl,by rw[hi];exact arA H e⟩)
    · cases e
  |bx ks=>
    simp only[dO]at e;split at e
    · rename_i cs hl;obtain⟨i,rfl,hi⟩:=agG H hsrc hl;exact .inr (.inl ⟨i,rfl,by rw[hi];exact aaM H e⟩)
    · cases e
theorem arz:∀{ss:List (Option Nat)} {ks:List OK} {v:Al ks},QN h fz src ko ss ks=some v->ss.length=ks.length∧
    ∀(j:Nat) (o:TO),(gY ks v)[j]? =some o→∃s k,ss[j]? =some s/\ks[j]? =some k∧∃x:VO k,dO h fz src ko s k=some x/\o=eO k x
  | [],[],v,e=>⟨rfl,λj o ho=>by simp[gY]at ho⟩
  | [],_::_,v,e=>by cases e
  |_::_,[],v,e=>by cases e
  |s ::ss,k::ks,v,e=>by
    unfold QN at e;split at e
    · rename_i a u h1 h2;cases e;obtain⟨q1,q2⟩:=arz h2;refine⟨by simp[q1],λj o ho=> ?_⟩;cases j with|zero=>simp[gY]at ho;subst ho;exact⟨s,k,rfl,rfl,a,h1,rfl⟩|succ j=>simpa using q2 j o (by simpa[gY]using ho)
    · cases e
theorem Gl:∀(ks:List OK) (v:Al ks),(gY ks v).length=ks.length
  | [],v=>rfl
  |k::r,v=>by simp[gY,Gl r v.2]
end
theorem Gb{k:Nat}:∀{src:List (Option Nat)} {ks:List OK},zB k src ks=true→∀(v:Al ks) (j:Nat),src[j]? =some (some k)->(gY ks v)[j]? =some TO.dead
  | [],[],_,v,j,hj=>by simp at hj
  |some k'::r,.dd::ks,e,v,j,hj=>by cases j with|zero=>rfl|succ j=>exact Gb (src:=r) (ks:=ks) e v.2 j (aD hj)
  |some k'::r,.bs n::ks,e,v,j,hj=>by simp only[zB,dQ]at e;cases j with|zero=>simp at hj;subst hj;simp at e|succ j=>exact Gb e.2 v.2 j (aD hj)
  |some k'::r,.bw n ov::ks,e,v,j,hj=>by simp only[zB,dQ]at e;cases j with|zero=>simp at hj;subst hj;simp at e|succ j=>exact Gb e.2 v.2 j (aD hj)
  |some k'::r,.bx xs::ks,e,v,j,hj=>by simp only[zB,dQ]at e;cases j with|zero=>simp at hj;subst hj;simp at e|succ j=>exact Gb e.2 v.2 j (aD hj)
  |some k'::r,.ms::ks,e,v,j,hj=>by simp only[zB,dQ]at e;cases j with|zero=>simp at hj;subst hj;simp at e|succ j=>exact Gb e.2 v.2 j (aD hj)
  |some k'::r,.ra xs::ks,e,v,j,hj=>by simp only[zB,dQ]at e;cases j with|zero=>simp at hj;subst hj;simp at e|succ j=>exact Gb e.2 v.2 j (aD hj)
  |some k'::r,.ar t::ks,e,v,j,hj=>by simp only[zB,dQ]at e;cases j with|zero=>simp at hj;subst hj;simp at e|succ j=>exact Gb e.2 v.2 j (aD hj)
  |none::r,_::ks,e,v,j,hj=>by cases j with|zero=>simp at hj|succ j=>exact Gb (src:=r) (ks:=ks) (by simpa[zB]using e) v.2 j (aD hj)
  |_::_,[],e,v,j,hj=>by simp[zB]at e
  | [],_::_,e,v,j,hj=>by simp at hj
theorem DR{k : Nat}:∀{src:List (Option Nat)} {ks:List OK} (v:Al ks),zG k src ks=false→∀j:Nat,src[j]? =some (some k)->(gY ks v)[j]? =some TO.dead\/ks.length<=j
  | [],ks,v,_,j,hj=>by simp at hj
  |s::r,[],v,_,j,hj=> .inr (zu _)
  | some k'::r,.dd::ks,v,e,j,hj=>by cases j with
    |zero=>exact .inl rfl
    | succ j => rcases DR (ks:=ks) v.2 e j (aD hj)with h|h
                · exact .inl h
                · exact .inr (aD h)
  | none::r,k0::ks,v,e,j,hj=>by cases j with
    |zero=>simp at hj
    | succ j => rcases DR (ks:=ks) v.2 (by simpa[zG]using e) j (aD hj)with h|h
                · exact .inl h
                · exact .inr (aD h)
  | some k'::r,.bs n::ks,v,e,j,hj=>by simp only[zG,nW]at e;cases j with
    |zero=>simp at hj;subst hj;rw[oW]at e;cases e.1
    | succ j => rcases DR (ks:=ks) v.2 e.2 j (aD hj)with h|h
                · exact .inl h
                · exact .inr (aD h)
  | some k'::r,.bw n ov::ks,v,e,j,hj=>by simp only[zG,nW]at e;cases j with
    |zero=>simp at hj;subst hj;rw[oW]at e;cases e.1
    | succ j => rcases DR (ks:=ks) v.2 e.2 j (aD hj)with h|h
                · exact .inl h
                · exact .inr (aD h)
  | some k'::r,.bx xs::ks,v,e,j,hj=>by simp only[zG,nW]at e;cases j with
    |zero=>simp at hj;subst hj;rw[oW]at e;cases e.1
    | succ j => rcases DR (ks:=ks) v.2 e.2 j (aD hj)with h|h
                · exact .inl h
                · exact .inr (aD h)
  | some k'::r,.ms::ks,v,e,j,hj=>by simp only[zG,nW]at e;cases j with
    |zero=>simp at hj;subst hj;rw[oW]at e;cases e.1
    | succ j => rcases DR (ks:=ks) v.2 e.2 j (aD hj)with h|h
                · exact .inl h
                · exact .inr (aD h)
  | some k'::r,.ra xs::ks,v,e,j,hj=>by simp only[zG,nW]at e;cases j with
    |zero=>simp at hj;subst hj;rw[oW]at e;cases e.1
    | succ j => rcases DR (ks:=ks) v.2 e.2 j (aD hj)with h|h
                · exact .inl h
                · exact .inr (aD h)
  | some k'::r,.ar t::ks,v,e,j,hj=>by simp only[zG,nW]at e;cases j with
    |zero=>simp at hj;subst hj;rw[oW]at e;cases e.1
    | succ j => rcases DR (ks:=ks) v.2 e.2 j (aD hj)with h|h
                · exact .inl h
                · exact .inr (aD h)
theorem anV:∀{src:List (Option Nat)} {ks:List OK} (v:Al ks),src.length=ks.length->Ba src ks=true→∀(i j k:Nat),src[i]? =some (some k)->src[j]? =some (some k)->(gY ks v)[i]? ≠some TO.dead->(gY ks v)[j]? ≠some TO.dead->i=j
  | [],ks,v,_,_,i,j,k,hi,_,_,_=>by simp at hi
  |_::_,[],v,hl,_,i,j,k,_,_,_,_=>by simp at hl
  | s ::r,k0::ks,v,hl,e,i,j,k,hi,hj,di,dj=>by have aMl:Ba r ks=true:=(by rcases s with _|q;simpa[Ba]using e;cases k0<;>first|(simpa[Ba]using e)|(simp only[Ba,dQ]at e;exact e.2));cases i with
    | zero=> cases j with
      |zero=>rfl
      |succ j=>
        simp at hi;subst hi;exfalso;have hno:zG k r ks=false:=(by cases k0<;>first|(exact absurd rfl di)|(simp only[Ba,dQ,wQ]at e;exact e.1));have hj:r[j]? =some (some k):=(aD hj);rcases DR v.2 hno j hj with h|h
        · exact dj h
        · have:=iF hj;simp at hl;omega
    | succ i=> cases j with
      |zero=>
        simp at hj;subst hj;exfalso;have hno:zG k r ks=false:=(by cases k0<;>first|(exact absurd rfl dj)|(simp only[Ba,dQ,wQ]at e;exact e.1));have hi:r[i]? =some (some k):=(aD hi);rcases DR v.2 hno i hi with h|h
        · exact di h
        · have:=iF hi;simp at hl;omega
      |succ j=>rw[anV v.2 (aD hl) aMl i j k (aD hi) (aD hj) di dj]
theorem apj:∀{p i:Nat} {src:List (Option Nat)},preO p i src=true→∀j,j<p->src[j]? =some (some (i+j))
  |0,i,src,_,j,hj=>ah
  |p+1,i,[],e,j,hj=>by simp[preO]at e
  |p+1,i,none::r,e,j,hj=>by simp[preO]at e
  |p+1,i,some k::r,e,j,hj=>by simp only[preO,dQ]at e;have:=eG e.1;subst this;cases j with|zero=>rfl|succ j=>rw[Lj,apj e.2 j ah];congr 2;omega
theorem ag8:∀(l:List TO) (i k:Nat),lookO (JA i l) k=if i<=k then(l[k - i]?).getD .dead else .dead
  | [],i,k=>by simp[JA,lookO]
  | o ::r,i,k=>by simp only[JA,lookO];cases hb:Nat.beq i k with
    |true=>have:=eG hb;subst this;simp
    |false=>
      have hne:i≠k:=λe=>(by subst e;rw[oW]at hb;cases hb);rw[aX,ag8 r (i+1) k];by_cases hk:i+1<=k
      · rw[bW hk,bW ah];have:k-i=(k-(i+1))+1:=ah;rw[this,Lj]
      · rw[dn hk,dn ah]
def TS.ok(ts:TS):Prop:=∀k,ts.n<=k->lookO ts.h k=.dead
theorem abr(sh:Shape)(v:sh.V):(enc sh v).ok:=by intro k hk;show lookO (JA 0 (gY sh.objs v.2)) k=.dead;rw[ag8,bW (zu _),xS (by rw[Gl];exact hk)];rfl
theorem aKX(l:List TO):uS (JA 0 l) l.length=l.map TO.er:=by
  apply Ea;intro k;rw[Gn,ag8,bW (zu _),mW];by_cases hk:k<l.length
  · rw[bW hk,Ed,jR hk];rfl
  · rw[dn hk,xS ah];rfl
theorem arC(sh:Shape)(v:sh.V):(enc sh v).er=⟨kN sh.slots v.1,(gY sh.objs v.2).map TO.er⟩:=by show(⟨_,uS (JA 0 (gY sh.objs v.2)) sh.objs.length⟩:St)=_;rw[<-Gl sh.objs v.2,aKX];rfl
theorem U7:∀(om:List (Nat×Option Nat)) (j n:Nat),(Ak om j n).length=n
  |_,_,0=>rfl
  |om,j,n+1=>by simp[Ak,U7 om (j+1) n]
theorem ah1{sh:Shape}{p:Nat}{ts:TS}{v:sh.V}{g:Nat->aU}(hg:∀k,(k∈(qV sh p ts).fz\/some k∈Ak (qV sh p ts).om 0 sh.objs.length)->lookO ts.h k≠.dead->g k=(lookO ts.h k).er)(e:dec sh p ts=some v):
    let o:=qV sh p ts
    let src:=Ak o.om 0 sh.objs.length
    let h':=(gY sh.objs v.2).map TO.er
    Fits ts.h o.fz src sh.objs g h'/\vQ p g h' src (· ∈o.fz)/\WY ts.h o.fz src sh.objs ts.σ sh.slots=some v.1:=by
  intro o src h';unfold dec at e;simp only at e;cases hb:Ba (Ak (qV sh p ts).om 0 sh.objs.length) sh.objs&&preO p 0 (Ak (qV sh p ts).om 0 sh.objs.length)&&(qV sh p ts).fz.all (λk=>zB k (Ak (qV sh p ts).om 0 sh.objs.length) sh.objs)with
  |false=>rw[hb]at e;cases e
  | true=>
    rw[hb]at e;simp only[aY]at e;split at e
    · rename_i a b h1 h2;cases e;simp only[dQ]at hb;obtain⟨⟨b1,b2⟩,b3⟩:=hb;obtain⟨q1,q2⟩:=arz h2;have hat:∀(j:Nat) (o':aU),h'[j]? =some o'→∃o,(gY sh.objs b)[j]? =some o/\o'=o.er:=(by intro j o' ho;simp only[h',mW]at ho;rcases hq:(gY sh.objs b)[j]? with _|o;rw[hq]at ho;cases ho;rw[hq]at ho;cases ho;exact⟨o,rfl,rfl⟩);have F:Fits ts.h o.fz src sh.objs g h':=by
        refine⟨hg,λk hk j hj=> ?_,λj hs har=> ?_⟩
        · have:=Gb ((j6.1 b3) k hk) b j hj;simp only[h',mW,this];rfl
        · have hjl:j<sh.objs.length:=(by have:=iF hs;rwa [U7]at this);obtain⟨s,k,e1,e2,x,e3,e4⟩:=q2 j ((gY sh.objs b)[j]'(by rw[Gl];exact hjl)) (jR _);rw[show(Ak (qV sh p ts).om 0 sh.objs.length)[j]? =some none from hs]at e1;cases e1;rw[e2]at har;cases k<;>first|(cases har;done)|skip
          rename_i t;cases e3;refine⟨wd t,fE t ([]:List (den t)),?_⟩;simp only[h',mW,jR (show j<(gY sh.objs b).length by rw[Gl];exact hjl),e4];rfl
      have yg:∀j:Nat,h'[j]? ≠some aU.dead->(gY sh.objs b)[j]? ≠some TO.dead:=(by intro j hj hd;apply hj;simp only[h',mW,hd];rfl);refine⟨F,⟨by simp only[src,h',U7,kQ,Gl],λj o' ho=> ?_,λi j k hi hj di dj=>anV b (by rw[U7]) b1 i j k hi hj (yg i di) (yg j dj),λj hj=>by have:=apj b2 j hj;rwa [nM]at this⟩,h1⟩;obtain⟨o1,ho1,rfl⟩:=hat j o' ho;obtain⟨s,k,e1,e2,x,e3,rfl⟩:=q2 j o1 ho1;rcases aKQ F (rJ e1) e3 with e4|⟨i,rfl,e4⟩|⟨rfl,z,f,e4⟩
      · rw[e4];exact .inl rfl
      · exact .inr (.inl ⟨i,e1,e4⟩)
      · exact .inr (.inr ⟨e1,z,f,e4⟩)
    · cases e
theorem ajd(hok:ts.ok):∀k,lookO ts.h k≠.dead->eB ts.er.h k=(lookO ts.h k).er:=by
  intro k hk;have hlt:k<ts.n:=by
    rcases mI k ts.n with h|h
    · exact h
    · exact absurd (hok k h) hk
  show((uS ts.h ts.n)[k]?).getD .dead=_;rw[Gn,bW hlt];rfl
theorem aKS{sh:Shape}{p:Nat}{v:sh.V}(hok:ts.ok)(e:dec sh p ts=some v):Le p ts.er (enc sh v).er:=by obtain⟨F,FH,hs⟩:=ah1 (λk _ hk=>ajd hok k hk) e;rw[arC];exact aK2 (st':=⟨kN sh.slots v.1,(gY sh.objs v.2).map TO.er⟩) FH (λx s' hx=>aaN F hs x s' hx)
end
end Go.AM
namespace Go.AM
open Go Go.CP Go.RowKit
variable [Fuel]
section
variable {P:Program}{id:Nat}{get:Nat->aU}{o:Op}{e:Eff}
section
variable {ρ ρ':Operand->Option SV}
theorem aag(hρ:∀x s,ρ x=some s->ρ' x=some s):∀{l:List (Nat×Operand)} {r:List (Nat×AV)},partsOf ρ l=some r->partsOf ρ' l=some r
 | [],r,h=>h
 |(i,x)::l,r,h=>by
  simp only[partsOf]at h⊢;split at h
  .rename_i v l' h1 h2;rw[hρ x _ h1,aag hρ h2];exact h
  .cases h
theorem agZ(hρ:∀x s,ρ x=some s->ρ' x=some s):∀{l:List Operand} {r:List Value},Cg ρ l=some r->Cg ρ' l=some r
 | [],r,h=>h
 |x::l,r,h=>by
  simp only[Cg]at h⊢;split at h
  .rename_i v l' h1 h2;rw[hρ x _ h1,agZ hρ h2];exact h
  .cases h
theorem apA(hρ:∀x s,ρ x=some s->ρ' x=some s):∀{l:List Operand} {r:List Nat},Ji ρ l=some r->Ji ρ' l=some r
 | [],r,h=>h
 |x::l,r,h=>by
  simp only[Ji]at h⊢;split at h
  .rename_i v l' h1 h2;rw[hρ x _ h1,apA hρ h2];exact h
  .cases h
theorem aqr(hρ:∀x s,ρ x=some s->ρ' x=some s):∀{l:List Operand} {r:List SV},Cv ρ l=some r->Cv ρ' l=some r
 | [],r,h=>h
 |x::l,r,h=>by
  simp only[Cv]at h⊢;split at h
  .rename_i v l' h1 h2;rw[hρ x _ h1,aqr hρ h2];exact h
  .cases h
theorem ahB(hρ:∀x s,ρ x=some s->ρ' x=some s){x:Option Operand}{r:Option Int}(h:A8 ρ x=some r):A8 ρ' x=some r:=by
 rcases x with _|x;exact h;simp only[A8]at h⊢;split at h
 .rename_i h1;rw[hρ x _ h1];exact h
 .cases h
theorem aI6(hρ:∀x s,ρ x=some s->ρ' x=some s)(he:evalOp P id ρ get o=some e):evalOp P id ρ' get o=some e:=by
 have one:∀{x:Operand} {F:SV->Option Eff},(match ρ x with|some v=>F v|none=>none)=some e->(match ρ' x with|some v=>F v|none=>none)=some e:=by intro x F h;rcases hx:ρ x with _|v;rw[hx]at h;cases h;rw[hx]at h;rw[hρ x v hx];exact h
 cases o with
 |move x=>exact one (F:=λv=>some {r:=v}) he
 |assign x=>exact one (F:=λv=>some {r:=v}) he
 |pick c a b=>
  simp only[evalOp]at he⊢;split at he
  .rename_i h1;rw[hρ c _ h1];exact one (F:=λv=>some {r:=v}) he
  .rename_i h1;rw[hρ c _ h1];exact one (F:=λv=>some {r:=v}) he
  .cases he
 |box T x=>
  simp only[evalOp]at he⊢;split at he
  .rename_i h1;rw[hρ x _ h1];exact he
  .cases he
 |build t ps=>
  simp only[evalOp]at he⊢;split at he
  .rename_i h1;rw[aag hρ h1];exact he
  .cases he
 |buildSlice t n ps=>
  simp only[evalOp]at he⊢;split at he
  .rename_i h1;rw[aag hρ h1];exact he
  .cases he
 |load T a=>
  simp only[evalOp]at he⊢;split at he
  .rename_i h1;rw[hρ a _ h1];exact he
  .cases he
 |store T a v=>
  simp only[evalOp]at he⊢;split at he
  .rename_i h1 h2;rw[hρ a _ h1,hρ v _ h2];exact he
  .cases he
 |nilCheck x=>
  simp only[evalOp]at he⊢;split at he
  .rename_i h1;rw[hρ x _ h1];exact he
  .cases he
 |binOp op t x y u=>
  simp only[evalOp]at he⊢;split at he
  .rename_i h1 h2;rw[hρ x _ h1,hρ y _ h2];exact he
  .cases he
 |unOp op t x=>
  simp only[evalOp]at he⊢;split at he
  .rename_i h1;rw[hρ x _ h1];exact he
  .cases he
 |convert s d x=>
  simp only[evalOp]at he⊢;split at he
  .rename_i h1 h2 h3;rw[h1,h2,hρ x _ h3];exact he
  .rename_i h1 h2 h3;rw[h1,h2,hρ x _ h3];exact he
  .rename_i h1 h2 h3;rw[h1,h2,hρ x _ h3];exact he
  .cases he
 |makeFunc fn first caps=>
  simp only[evalOp]at he⊢;split at he
  .rename_i h1;rw[apA hρ h1];exact he
  .cases he
 |makeSlice t l c=>
  simp only[evalOp]at he⊢;split at he
  .rename_i h1 h2;rw[hρ l _ h1,hρ c _ h2];exact he
  .cases he
 |slice t x lo hi mx=>
  simp only[evalOp]at he⊢;split at he
  .rename_i h1 h2 h3 h4;rw[hρ x _ h1,ahB hρ h2,ahB hρ h3,ahB hρ h4];exact he
  .cases he
 |fieldAddr s x f=>
  simp only[evalOp]at he⊢;split at he
  .rename_i h1;rw[hρ x _ h1];exact he
  .cases he
 |field s x f=>
  simp only[evalOp]at he⊢;split at he
  .rename_i h1 h2;rw[hρ x _ h1,h2];exact he
  .cases he
 |indexAddr t x i=>
  simp only[evalOp]at he⊢;split at he
  .rename_i h1 h2;rw[hρ x _ h1,hρ i _ h2];exact he
  .cases he
 |index t x i=>
  simp only[evalOp]at he⊢;split at he
  .rename_i h1 h2 h3;rw[h1,hρ x _ h2,hρ i _ h3];exact he
  .cases he
 |extract x i=>
  simp only[evalOp]at he⊢;split at he
  .rename_i h1;rw[hρ x _ h1];exact he
  .cases he
 |call c=>simp only[evalOp]at he⊢;cases hc:c.callee with
  |builtin b=>
   rw[hc]at he;simp only at he⊢;unfold I6 at he⊢;split at he
   .exact one he
   .split at he
    .rename_i h1 h2 h3;rw[hρ _ _ h1,hρ _ _ h2,h3];exact he
    .rename_i h1 h2 h3;rw[hρ _ _ h1,hρ _ _ h2,h3];exact he
    .cases he
   .split at he
    .rename_i h1 h2;rw[hρ _ _ h1,hρ _ _ h2];exact he
    .cases he
   .split at he
    .rename_i h1;rw[hρ _ _ h1];exact he
    .cases he
   .split at he
    .rename_i h1 h2;rw[hρ _ _ h1,h2];exact he
    .cases he
   .split at he
    .rename_i h1;rw[agZ hρ h1];exact he
    .cases he
   .split at he
    .rename_i h1;rw[agZ hρ h1];exact he
    .cases he
   .cases he
  |_=>rw[hc]at he;cases he
 |lookup t x i ok=>exact he
 |mapUpdate t x i v=>exact he
 |makeMap t r=>exact he
 |_=>exact he
theorem aJZ(hρ:∀x s,ρ x=some s->ρ' x=some s)(he:lI P id ρ get o=some e):lI P id ρ' get o=some e:=by cases o with
 |load T a=>
  simp only[lI]at he⊢;split at he
  .rename_i h1;rw[hρ _ _ h1];exact he
  .cases he
 |store T a v=>
  simp only[lI]at he⊢;split at he
  .rename_i h1 h2;rw[hρ _ _ h1,hρ _ _ h2];exact he
  .cases he
 |indexAddr t x i=>
  simp only[lI]at he⊢;split at he
  .rename_i h1 h2;rw[hρ _ _ h1,hρ _ _ h2];exact he
  .cases he
 |buildSlice t n ps=>
  simp only[lI]at he⊢;split at he
  .rename_i h1;rw[aag hρ h1];exact he
  .cases he
 |makeFunc f first caps=>
  simp only[lI]at he⊢;split at he
  .split at he
   .rename_i h1;rw[hρ _ _ h1];exact he
   .cases he
  .cases he
 |binOp op t x y u=>
  simp only[lI]at he⊢;split at he
  .rename_i h1 h2;rw[hρ _ _ h1,hρ _ _ h2];exact he
  .cases he
 |makeMap t r=>cases r<;>exact he
 |lookup t x i ok=>
  simp only[lI]at he⊢;split at he
  .rename_i h1 h2;rw[hρ _ _ h1,hρ _ _ h2];exact he
  .cases he
 |mapUpdate t x i v=>
  simp only[lI]at he⊢;split at he
  .rename_i h1 h2 h3;rw[hρ _ _ h1,hρ _ _ h2,hρ _ _ h3];exact he
  .cases he
 |index t x i=>
  simp only[lI]at he⊢;split at he
  .rename_i h1 h2 h3;rw[h1,hρ _ _ h2,hρ _ _ h3];exact he
  .cases he
 |unOp op t x=>
  cases op<;>first|(cases he;done)|skip
  simp only[lI]at he⊢;split at he
  .rename_i h1;rw[hρ _ _ h1];exact he
  .cases he
 |call c=>
  simp only[lI]at he⊢;split at he
  .split at he
   .rename_i h1;rw[hρ _ _ h1];exact he
   .cases he
  .split at he
   .rename_i h1 h2 h3;rw[hρ _ _ h1,hρ _ _ h2,h3];exact he
   .cases he
  .cases he
 |_=>exact he
end
end
end Go.AM
namespace Go.AM
open Go Go.RowKit Go.CP
variable [Fuel]
section
variable {β:Type}
structure RoS(V β:Type)(F:V->Option β) where
 R:Type
 Fr:V->Option R
 dr:R
 pr:R->V->β
 hF:∀v,F v=(Fr v).bind λx=>some (pr x v)
structure aS where
 f:FuncId
 ps:Shape
 rs:Shape
 β:Type
 F:ps.V->Option β
 g:β->rs.V
 d:ps.V->β
 dk:Bool:=false
 hd:dk=true→∀v,(gY rs.objs (g (d v)).2).take ps.objs.length=gY ps.objs v.2:=by intro h;cases h
 ro:Option (RoS ps.V β F):=none
 hr:∀q,ro=some q→∀v x,(gY rs.objs (g (q.pr x v)).2).take ps.objs.length=gY ps.objs v.2:=by intro q h;cases h
def Jw:SV->AV
 | .one a=>a
 | .mY _=> .s .bot
def Ez:List (Nat×SV)->SV
 | [(_,s)]=> .one (Jw s)
 |l=> .mY (l.map λp=>Jw p.2)
def kR(P:Program)(S:aS):Prop:=
 (∀(vs:Array Value) (w:World),(callFunc S.f vs).run P w=.ok (.enter S.f vs) w)∧
 ∀v r,S.F v=some r->qx P S.f ((kN S.ps.slots v.1).map (·.2)) ((gY S.ps.objs v.2).map TO.er)
  (λr' h'=>r'=Ez (kN S.rs.slots (S.g r).1)/\h'=(gY S.rs.objs (S.g r).2).map TO.er)
structure Cx where
 P:Program
 nt:Nat
 tm:List (Nat×Ty)
 T:List aS
 V:List (Nat×Nat×Nat)
def Mr:List (Nat×Ty)->Nat->Option Ty
 | [],_=>none
 |(j,t)::r,i=>bif Nat.beq j i then some t else Mr r i
def abH(f:FuncId):List aS->Option aS
 | []=>none
 |S::r=>bif Nat.beq S.f f then some S else abH f r
def ar7(a b:Nat):List (Nat×Nat×Nat)->Option Nat
 | []=>none
 |(x,y,i)::r=>bif Nat.beq x a&&Nat.beq y b then some i else ar7 a b r
def Cx.spec(C:Cx)(site:Nat×Nat)(f:FuncId):Option aS:=
 match ar7 site.1 site.2 C.V with
 |some i=>C.T[i]?
 |none=>abH f C.T
def aMs(g:Option Bool)(b:Bool)(k:Option β):Option β:=
 match g with
 |none=>bq b k
 |some g=>bq (!g||b) k
def GK{β:Type}(g:Option Bool):List Bool->Option β->Option β
 | [],k=>k
 |b::r,k=>aMs g b (GK g r k)
def aju{α:Type}(g:Option Bool)(m:Option α)(d:α)(k:α->Option β):Option β:=
 match g with
 |none=>m.bind k
 |some g=>(bif g then m else some d).bind k
def kg(h:List (Nat×TO))(R:List Nat):Nat->aU:=λk=>bif l8 k R then(lookO h k).er else .dead
def jJ(ws:List (Nat×TO)):List (Nat×aU):=ws.map λp=>(p.1,p.2.er)
def xC:List (Nat×aU)->Option (List (Nat×TO))
 | []=>some []
 |(k,.box cs)::r=>match xC r with
  |some l=>some ((k,.box cs)::l)
  |none=>none
 |(k,.dead)::r=>match xC r with
  |some l=>some ((k,.dead)::l)
  |none=>none
 |(k,.ms es)::r=>match xC r with
  |some l=>some ((k,.ms es)::l)
  |none=>none
 |(k,.ra 1 n cs)::r=>bif Nat.beq n cs.length then(match xC r with
  |some l=>some ((k,.ra cs)::l)
  |none=>none)else none
 |_=>none
def acO(t:Ty)(f:Nat->List CV):Nat->Nat->Option (List (den t))
 |0,_=>some []
 |n+1,j=>match Q8 t (f j),acO t f n (j+1)with
  |some x,some l=>some (x::l)
  |_,_=>none
def ab2(h:List (Nat×TO))(t:Ty):SC->Option (List (den t))
 | .c (.ls t' ys)=>Ep t' t ys
 | .c (.val (.slice none 0 0))=>some []
 | .c .e0=>some []
 | .own k=>dA t (lookO h k)
 | .sl k lo len=>match dA t (lookO h k)with
  |some ys=>some ((ys.drop lo).take len)
  |none=>none
 |_=>none
def abR(h:List (Nat×TO))(t:Ty)(id:Nat)(ys:List (den t)):SC->Option (List (Nat×TO))
 | .own k=>match dA t (lookO h k)with
  |some xs=>some [(k,.dead),(id,.arr t (xs++ys))]
  |none=>none
 | .sl k lo n1=>match dA t (lookO h k)with
  |some xs=>some [(k,.arr t (jM n1 ys.length xs ys))]
  |none=>none
 | .c (.val (.slice none 0 0))=>some [(id,.arr t ys)]
 | .c .e0=>some [(id,.arr t ys)]
 |_=>none
def aLn(t:Ty)(xs:List (den t)):Option Int->Option Int->Option (List (den t))
 |none,some b=>some (xs.take b.toNat)
 |some a,none=>some (xs.drop a.toNat)
 |some a,some b=>some ((xs.take b.toNat).drop a.toNat)
 |none,none=>none
def G6:Option SV->Option SC
 |some (.one (.s c))=>some c
 |_=>none
def acM(h:List (Nat×TO)):SC->Option (Nat×Nat×Nat)
 | .own k=>match lookO h k with
  | .arr _ xs=>some (k,0,xs.length)
  |_=>none
 | .sl k lo len=>some (k,lo,len)
 |_=>none
def ajI:List (Nat×aU)->Nat->Bool
 | [(_,.arr z _ _)],w=>Nat.beq z w
 | [_,(_,.arr z _ _)],w=>Nat.beq z w
 |_,_=>false
def V7(h:List (Nat×TO))(t:Ty):List Nat->Option (List (List (den t)))
 | []=>some []
 |k::r=>match dA t (lookO h k),V7 h t r with
  |some xs,some l=>some (xs::l)
  |_,_=>none
def ajH:List Nat->List (Nat×TO)->List (Nat×TO)
 | [],l=>l
 |k::r,l=>(k,.dead)::ajH r l
def akl(C:Cx)(σr:List (Nat×SV))(h:List (Nat×TO))(id n:Nat)(t:TypeId)(ps:List (Nat×Operand)):Option (List (Nat×TO)):=
 match partsOf (j3 σr) ps with
 |some (p::l)=>match Jl 0 (p::l),Mr C.tm t with
  |some ks,some (.l ty)=>match V7 h ty ks with
   |some rows=>bif Nat.beq rows.length n then some (ajH ks [(id,.arr (.l ty) rows)])else none
   |none=>none
  |_,_=>none
 |_=>none
def typed(C:Cx)(σr:List (Nat×SV))(h:List (Nat×TO))(id:Nat)(op:Op)(e:Eff):Option (SV×List (Nat×TO)):=
 match op with
 | .makeSlice t _ _=>match e.ws,Mr C.tm t with
  | [(_,.arr z n f)],some ty=>match Q8 ty (f 0)with
   |some x=>bif Nat.beq z (wd ty)then some (e.r,[(id,.arr ty (List.replicate n x))])else none
   |none=>none
  |_,_=>none
 | .buildSlice t n ps=>match akl C σr h id n t ps.toList with
  |some ws=>some (e.r,ws)
  |none=>match e.ws,Mr C.tm t with
   | [(_,.arr z n f)],some ty=>match acO ty f n 0 with
    |some xs=>bif Nat.beq z (wd ty)then some (e.r,[(id,.arr ty xs)])else none
    |none=>none
   |_,_=>none
 | .store T a v=>match G6 (j3 σr a)with
  |some (.pe k i off)=>match lookO h k,j3 σr v with
   | .arr t xs,some (.one v)=>match tJ (kP v)with
    |some ys=>match Q8 t (splice (w9 t (xs.getD i aG)) off ys)with
     |some x=>some (e.r,[(k,.arr t (xs.set i x))])
     |none=>none
    |none=>none
   |_,_=>none
  |_=>match xC e.ws with
   |some ws=>some (e.r,ws)
   |none=>none
 | .slice _ x lo hi mx=>match G6 (j3 σr x)with
  |some (.c (.ls t xs))=>match A8 (j3 σr) lo,A8 (j3 σr) hi,A8 (j3 σr) mx with
   |some lo,some hi,some none=>match aLn t xs lo hi with
    |some ys=>some (.one (.s (.c (.ls t ys))),[])
    |none=>none
   |_,_,_=>none
  |_=>match xC e.ws with
   |some ws=>some (e.r,ws)
   |none=>none
 | .call c=>match c.callee,c.args.toList,c.argTypes.toList with
  | .builtin .append,[s,x],[t,_]=>match Mr C.tm t,G6 (j3 σr s),G6 (j3 σr x)with
   |some ty,_,some (.c (.val (.int _ _)))=>match e.ws with
    | [(_,.arr z n f)]=>match Q8 ty (f 0)with
     |some x=>bif Nat.beq z (wd ty)then some (e.r,[(id,.arr ty (List.replicate n x))])else none
     |none=>none
    |_=>none
   |some ty,some s,some x=>match ab2 h ty x with
    |some ys=>match abR h ty id ys s with
     |some ws=>bif ajI e.ws (wd ty)then some (e.r,ws)else none
     |none=>none
    |none=>none
   |_,_,_=>none
  | .builtin .copy,[s,x],t::_=>match Mr C.tm t,G6 (j3 σr s),G6 (j3 σr x)with
   |some ty,some s,some x=>match acM h s,ab2 h ty x with
    |some (k,lo,len),some ys=>match dA ty (lookO h k)with
     |some xs=>some (e.r,[(k,.arr ty (jM lo len xs ys))])
     |none=>none
    |_,_=>none
   |_,_,_=>none
  | .builtin .clear,[s],t::_=>match Mr C.tm t,G6 (j3 σr s),qJ C.P t with
   |some ty,some s,some (_,_,z)=>match Q8 ty (z.toList.map .val),acM h s with
    |some x,some (k,lo,len)=>match dA ty (lookO h k)with
     |some xs=>some (e.r,[(k,.arr ty (jM lo len xs (List.replicate len x)))])
     |none=>none
    |_,_=>none
   |_,_,_=>none
  |_,_,_=>match xC e.ws with
   |some ws=>some (e.r,ws)
   |none=>none
 |_=>match xC e.ws with
  |some ws=>some (e.r,ws)
  |none=>none
def aaG:List (Option Nat)->Option (List Nat)
 | []=>some []
 |some k::r=>match aaG r with
  |some l=>some (k::l)
  |none=>none
 |none::_=>none
def TO.ren(ρ:Nat->Option Nat):TO->TO
 | .box cs=> .box (cs.map (SC.ren ρ))
 | .ra cs=> .ra (cs.map (SC.ren ρ))
 |o=>o
def qE:List Nat->List TO->List (Nat×TO)
 |k::K,o::h=>(k,o)::qE K h
 |_,_=> []
def Jq:List Nat->List (Nat×TO)
 | []=> []
 |k::r=>(k,.dead)::Jq r
def V4:Ty->Bool
 | .l _=>false
 | .n _=>false
 |_=>true
def Vh:Ty->Bool
 | .l _=>false
 | .n k=>(E8 k).all V4
 |_=>true
def CK.plain:CK->Bool
 | .ty t=>V4 t
 | .MB _=>false
 | .rp _=>false
 |_=>true
def ovP(ov:List (Nat×CK)):Nat->List Ty->Bool
 |_,[]=>true
 |i,t::r=>(V4 t||yx i ov)&&ovP ov (i+1) r
def abG(n:N)(ov:List (Nat×CK)):Bool:=ovP ov 0 (E8 n)&&ov.all (λp=>p.2.plain)
def SK.plain:SK->Bool
 | .c k=>k.plain
 | .st n=>Vh (.n n)
 | .sw n ov=>abG n ov
 | .ag ks=>ks.all CK.plain
def OK.plain:OK->Bool
 | .bs n=>Vh (.n n)
 | .bw n ov=>abG n ov
 | .bx ks=>ks.all CK.plain
 | .ar t=>Vh t
 | .ra ks=>ks.all CK.plain
 | .ms=>true
 | .dd=>true
def Shape.plain(sh:Shape):Bool:=sh.slots.all (λp=>p.2.plain)&&sh.objs.all OK.plain
def sZ:Nat->List (Nat×SK)->Bool
 |_,[]=>true
 |i,(x,_)::r=>Nat.beq x i&&sZ (i+1) r
def Cr(id:Nat):Nat->List Nat
 |0=> []
 |n+1=>id::Cr (id+1) n
def L8:List OK->Bool
 | []=>true
 | .dd::_=>false
 |_::r=>L8 r
def Di:SC->Bool
 | .c (.val (.slice _ _ _))=>false
 | .c .e0=>false
 | .c (.lW _ _)=>false
 | .c _=>true
 |_=>false
def exK:CK->SC->Bool
 | .ty _,c=>Di c
 | .pb _ _,_=>true
 | .own _,.own _=>true
 | .mc _,_=>true
 |_,_=>false
def LX:List CK->List SC->Bool
 |k::ks,c::cs=>exK k c&&LX ks cs
 | [],[]=>true
 |_,_=>false
def ach:List (Nat×CK)->List SC->Bool
 | [],_=>true
 |(i,k)::r,cs=>(match cs[i]? with
  |some c=>exK k c
  |none=>false)&&ach r cs
def acg(ov:List (Nat×CK)):Nat->List SC->Bool
 |_,[]=>true
 |i,c::r=>(yx i ov||Di c)&&acg ov (i+1) r
def exO:OK->TO->Bool
 | .bs _,.box cs=>cs.all Di
 | .bw _ ov,.box cs=>acg ov 0 cs&&ach ov cs
 | .bx ks,.box cs=>LX ks cs
 | .ra ks,.ra cs=>LX ks cs
 | .ms,.ms _=>true
 | .ar _,_=>true
 |_,_=>false
def yX(h:List (Nat×TO)):List Nat->List OK->Bool
 |k::K,o::os=>exO o (lookO h k)&&yX h K os
 | [],[]=>true
 |_,_=>false
def ab3(S:aS)(g:Option Bool)(K L:List Nat)(dd R:List Nat)(k:SV->List (Nat×TO)->List (Nat×TO)->List Nat->Option β)(ro:Bool)(r:S.β):Option β:=
 let os:=(gY S.rs.objs (S.g r).2).map (TO.ren (at_ (K++L)))
 k ((Ez (kN S.rs.slots (S.g r).1)).ren (at_ (K++L))) (bif ro||g.isNone then []else qE K (os.take S.ps.objs.length))
  ((bif ro then qE L (os.drop S.ps.objs.length)else bif g.isNone then qE (K++L) os else qE L (os.drop S.ps.objs.length))++Jq dd) R
def ajO(C:Cx)(S:aS)(g:Option Bool)(id:Nat)(h:List (Nat×TO))(args:List SV)(k:SV->List (Nat×TO)->List (Nat×TO)->List Nat->Option β):Option β:=
 let ts:TS:=⟨qQ 0 args,h,0⟩
 match dec S.ps 0 ts with
 |none=>none
 | some v=>
  let o:=qV S.ps 0 ts
  match aaG (Ak o.om 0 S.ps.objs.length)with
  |none=>none
  |some K=>
   let L:=Cr id (S.rs.objs.length-S.ps.objs.length)
   let KL:=K++L
   let kill:= !S.rs.plain
   let R:=K++o.fz
   let get:=kg h R
   let objs:=mD get R
   bif sZ 0 S.ps.slots&&Nat.beq args.length S.ps.slots.length&&Nat.ble S.ps.objs.length S.rs.objs.length&&nodupB KL&&o.fz.all (λk=> !(l8 k KL))&&Gv objs&&L8 S.ps.objs&&L8 (S.rs.objs.drop S.ps.objs.length)&&L.all (λk=> !(l8 k R)&&Nat.blt k (id+64))
     &&(g.isNone||Nat.beq K.length 0||(S.ro.isSome&&yX h K S.ps.objs)||(S.dk&&yX h K S.ps.objs))then
    match S.ro with
    |some q=>aju g (q.Fr v) q.dr λx=>ab3 S g K L (bif kill then o.fz else []) R k (yX h K S.ps.objs) (q.pr x v)
    |none=>aju g (S.F v) (S.d v) (ab3 S g K L (bif kill then o.fz else []) R k false)
   else none
def tX(C:Cx)(g:Option Bool)(id:Nat)(σr:List (Nat×SV))(h:List (Nat×TO))(op:Op)(k:SV->List (Nat×TO)->List (Nat×TO)->List Nat->Option β):Option β:=
 match lI C.P id (j3 σr) (kg h (readsOf σr op none)) op with
 |none=>none
 |some e=>match xC e.ws with
  |some ws=>bif tF id (kg h (readsOf σr op none)) (jJ ws)then GK g e.bs (k e.r [] ws [])else none
  |none=>none
def tOp(C:Cx)(site:Nat×Nat)(g:Option Bool)(id:Nat)(σr:List (Nat×SV))(h:List (Nat×TO))(op:Op)(k:SV->List (Nat×TO)->List (Nat×TO)->List Nat->Option β):Option β:=
 let dflt:Option β:=
  match evalOp C.P id (j3 σr) (kg h (readsOf σr op none)) op with
  |none=>tX C g id σr h op k
  |some e=>match typed C σr h id op e with
   |none=>none
   |some (r,ws)=>bif tF id (kg h (readsOf σr op none)) (jJ ws)then GK g e.bs (k r [] ws [])else none
 match op with
 | .call c=>match c.callee with
  | .value fo=>match j3 σr fo,Cv (j3 σr) c.args.toList with
   |some fv,some as'=>match Vy fv as' with
    |some (f,all)=>match C.spec site f with
     |some S=>bif Nat.beq S.f f then ajO C S g id h all k else none
     |none=>none
    |none=>none
   |_,_=>none
  |_=>dflt
 |_=>dflt
end
end Go.AM
