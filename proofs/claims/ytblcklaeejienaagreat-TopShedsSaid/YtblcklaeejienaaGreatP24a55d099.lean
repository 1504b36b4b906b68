/- The typed machine: its lists are those of the machine. -/
import Derived.LoopN
import Derived.Shelf.SlSortCmp.NoneTotal
import Derived.Shelf.Slices.CompactI
import Derived.Shelf.SlMaps.Clone
import Derived.Defers
import Derived.Test.YtblcklaeejienaaGreatP19c5ad888
set_option linter.defProp false
set_option linter.unusedSectionVars false
set_option linter.unusedSimpArgs false
set_option linter.unusedVariables false
namespace Go.AM
open Go Go.RowKit Go.CP
variable [Fuel]
section
variable {g:Nat->List CV}{t:Ty}{x:den t}{cs:List Bool}{h:List (Nat×TO)}{R:List Nat}{k:Nat}{xs:List (den t)}{z n:Nat}{f:Nat->List CV}{s:SC}{j:Nat}{ys:List (den t)}{lo k':Nat}{ty:Ty}{id:Nat}{ws:List (Nat×TO)}
theorem asz:Fits [] [] [] [] (λ_=> .dead) []:=
 ⟨λk _ h=>absurd rfl h,λk hk=>absurd hk nU,λj hj=>(by simp at hj)⟩
theorem qh.cc{g:Nat->aU}{h':List aU}{src:List (Option Nat)}{Z:Nat->Prop}{x y:CV}(h:qh g h' src Z (.c x) (.c y)):x.eqv y:=by cases h;assumption
theorem aoZ{g:Nat->aU}{h':List aU}{src:List (Option Nat)}{Z:Nat->Prop}:∀{xs ys:List CV},zF g h' src Z (xs.map .c) (ys.map .c)->GL xs ys
 | [],[],_=>trivial
 | [],_::_,h=>by have:=h.1;simp at this
 |_::_,[],h=>by have:=h.1;simp at this
 |x::xs,y::ys,h=>by refine⟨?_,aoZ (xs:=xs) (ys:=ys) ⟨by have:=h.1;simpa using this,λi x' hx=>by simpa using h.2 (i+1) x' (aD hx)⟩⟩;obtain⟨a,h1,h2⟩:=h.2 0 (.c y) rfl;simp at h1;subst h1;exact h2.cc
theorem Vk{cs:List CV}(e:Q8 t cs=some x):GL cs (w9 t x):=by
 have one:∀{t:Ty} {x:den t} {c:CV},dT [] [] t (.c c)=some x->GL [c] [Ew t x]:=λe=>⟨(aiY asz e).cc,trivial⟩
 cases t with
 |n k=>have e:Aq [] [] k (cs.map .c)=some x:=e;exact aoZ (Vj asz e)
 |i k=>
  match cs,e with
  | [c],e=>exact one (show dT [] [] (.i k) (.c c)=some x from e)
  | [],e=>exact absurd (show(none:Option _)=some x from e) aj
  |_::_::_,e=>exact absurd (show(none:Option _)=some x from e) aj
 |b=>
  match cs,e with
  | [c],e=>exact one (show dT [] [] .b (.c c)=some x from e)
  | [],e=>exact absurd (show(none:Option _)=some x from e) aj
  |_::_::_,e=>exact absurd (show(none:Option _)=some x from e) aj
 |s=>
  match cs,e with
  | [c],e=>exact one (show dT [] [] .s (.c c)=some x from e)
  | [],e=>exact absurd (show(none:Option _)=some x from e) aj
  |_::_::_,e=>exact absurd (show(none:Option _)=some x from e) aj
 |l t=>
  match cs,e with
  | [c],e=>exact one (show dT [] [] (.l t) (.c c)=some x from e)
  | [],e=>exact absurd (show(none:Option _)=some x from e) aj
  |_::_::_,e=>exact absurd (show(none:Option _)=some x from e) aj
theorem apw{t:Ty}{f:Nat->List CV}:∀{n j:Nat} {l:List (den t)},acO t f n j=some l->l.length=n∧∀i,i<n->GL (f (j+i)) (w9 t (l.getD i aG))
 |0,j,l,e=>by cases e;exact⟨rfl,λi hi=>ah⟩
 |n+1,j,l,e=>by
  unfold acO at e;split at e
  .rename_i x u h1 h2;cases e;obtain⟨q1,q2⟩:=apw h2;refine⟨by simp[q1],λi hi=> ?_⟩;cases i with|zero=>exact Vk h1|succ i=>have:=q2 i ah;rw[show j+1+i=j+(i+1)by omega]at this;simpa using this
  .cases e
theorem O9:∀{l:List (Nat×aU)} {ws:List (Nat×TO)},xC l=some ws->jJ ws=l
 | [],ws,h=>by cases h;rfl
 |(k,.box cs)::r,ws,h=>by
  simp only[xC]at h;split at h
  .rename_i l h1;cases h;simp only[jJ,mH];rw[show r=jJ l from(O9 h1).symm];rfl
  .cases h
 |(k,.dead)::r,ws,h=>by
  simp only[xC]at h;split at h
  .rename_i l h1;cases h;simp only[jJ,mH];rw[show r=jJ l from(O9 h1).symm];rfl
  .cases h
 |(k,.arr z n f)::r,ws,h=>by simp[xC]at h
 |(k,.ms es)::r,ws,h=>by
  simp only[xC]at h;split at h
  .rename_i l h1;cases h;simp only[jJ,mH];rw[show r=jJ l from(O9 h1).symm];rfl
  .cases h
 | (k,.ra z n cs)::r,ws,h=>by
  unfold xC at h;split at h;all_goals first|(cases h;done)|skip
  all_goals (rename_i he;cases he)
  rcases hb:Nat.beq n cs.length with _|_;rw[hb]at h;cases h;rw[hb]at h;simp only[aY]at h;split at h
  .rename_i l h1;have:=eG hb;cases h;simp only[jJ,mH];rw[show r=jJ l from(O9 h1).symm,this];rfl
  .cases h
theorem Gg(hg:kg h R k=.arr z n f)(hl:lookO h k=.arr t xs):z=wd t/\n=xs.length/\f=fE t xs:=by unfold kg at hg;rcases hb:l8 k R with _|_;rw[hb]at hg;cases hg;rw[hb,hl]at hg;cases hg;exact⟨rfl,rfl,rfl⟩
theorem I9{s:Option SV}{c:SC}(h:G6 s=some c):s=some (.one (.s c)):=by
 unfold G6 at h;split at h
 .cases h;rfl
 .cases h
theorem aK0{i:Nat}(hj:j<xs.length):fE t (xs.set i x) j=if i=j then w9 t x else fE t xs j:=by
 unfold fE;simp only[fD,xU];by_cases h:i=j
 .subst h;simp[hj]
 .simp[h]
theorem ai1:fE t (xs++ys) j=if j<xs.length then fE t xs j else fE t ys (j-xs.length):=by
 unfold fE;simp only[fD];by_cases h:j<xs.length
 .rw[bW h,p9 h]
 .rw[dn h,uo (Nat.le_of_not_lt h)]
theorem aht{α:Type}{len:Nat}{xs ys:List α}(h:lo+len<=xs.length):(jM lo len xs ys).length=xs.length:=by unfold jM;simp;omega
theorem ai2{len:Nat}(h:lo+len<=xs.length):fE t (jM lo len xs ys) j=if lo<=j/\j<lo+min ys.length len then fE t ys (j-lo)else fE t xs j:=by
 have hl:(xs.take lo).length=lo:=by rw[sD];omega
 have hl2:(ys.take len).length=min ys.length len:=by rw[sD,Nat.min_comm]
 unfold jM;rw[ai1,hl,ai1,hl2];unfold fE;simp only[fD,tq,yP];by_cases h1:j<lo
 .rw[bW h1,bW h1,dn ah]
 .rw[dn h1];by_cases h2:j-lo<min ys.length len
  .rw[bW h2,bW ah,bW ah]
  .rw[dn h2,dn ah];have:lo+min ys.length len+(j-lo-min ys.length len)=j:=ah;rw[this]
theorem aq7{len lo' len':Nat}(h1:acM h s=some (k,lo,len))(h2:vw (kg h R) s=.sl k' lo' len'):k'=k/\lo'=lo/\len'=len:=by
 unfold acM at h1;split at h1
 .rename_i q;split at h1
  .rename_i t xs hl;cases h1;simp only[vw]at h2;split at h2
   .rename_i z n f hg;cases h2;obtain⟨_,e,_⟩:=Gg hg hl;exact⟨rfl,rfl,e⟩
   .cases h2
  .cases h1
 .cases h1;cases h2;exact⟨rfl,rfl,rfl⟩
 .cases h1
theorem Et{o o':aU}(hk:k=k')(h:o.eqv o'):zH [(k,o)] [(k',o')]:=⟨hk,h,trivial⟩
theorem src_ok{x:SC}{ys:List (den ty)}(hs:qB z (kg h R) x=some (k,g,cs))(ht:ab2 h ty x=some ys)(hc:∀b∈cs,b=true):
  k=ys.length∧∀i,i<k->g i=fE ty ys i:=by
 unfold ab2 at ht;split at ht
 .rename_i t' xs;cases Ga ht;simp only[qB]at hs;cases hb:Nat.beq z (wd ty)with
  |false=>rw[hb]at hs;cases hs
  |true=>rw[hb]at hs;cases hs;exact⟨rfl,λ_ _=>rfl⟩
 .cases ht;simp only[qB,Ct,Ml]at hs;cases hs;exact⟨rfl,λi hi=>absurd hi (kJ i)⟩
 .cases ht;simp only[qB,Ct,Ml]at hs;cases hs;exact⟨rfl,λi hi=>absurd hi (kJ i)⟩
 .rename_i k';have hl:=D6 ht;simp only[qB]at hs;split at hs
  .rename_i z' n f hg;obtain⟨rfl,rfl,rfl⟩:=Gg hg hl;cases hb:Nat.beq z (wd ty)with
   |false=>rw[hb]at hs;cases hs
   |true=>rw[hb]at hs;cases hs;exact⟨rfl,λ_ _=>rfl⟩
  .cases hs
 .rename_i k' lo len;split at ht
  .rename_i xs hxs;cases ht;have hl:=D6 hxs;simp only[qB,Ct]at hs;split at hs
   .rename_i z' n f hg;obtain⟨rfl,rfl,rfl⟩:=Gg hg hl;cases hb:Nat.beq z (wd ty)with
    |false=>rw[hb]at hs;cases hs
    |true=>rw[hb]at hs;cases hs;have hle:lo+k<=xs.length:=iX (hc _ aj);refine⟨ay,λi hi=> ?_⟩;unfold fE;simp only[fD,tq,yP];rw[bW hi]
   .cases hs
  .cases ht
 .cases ht
theorem aKT{w1:List (Nat×aU)}{ys:List (den ty)}
  (hd:Bh z (kg h R) s=some (n,f,cs,w1)) (ht:abR h ty id ys s=some ws) (hz:ajI (w1++ [(id,.arr z (n+k) (app n f g))]) (wd ty)=true) (hk:k=ys.length) (hg:∀i,i<k->g i=fE ty ys i):
  zH (w1++ [(id,.arr z (n+k) (app n f g))]) (jJ ws):=by
 unfold abR at ht;split at ht
 .rename_i k';split at ht
  .rename_i xs hxs;cases ht;have hl:=D6 hxs;simp only[Bh]at hd;split at hd
   .rename_i z' n' f' hgt;obtain⟨rfl,rfl,rfl⟩:=Gg hgt hl;cases hb:Nat.beq z (wd ty)with
    |false=>rw[hb]at hd;cases hd
    |true=>
     rw[hb]at hd;cases hd;have:=eG hb;subst this;refine⟨rfl,trivial,rfl,⟨rfl,by simp[hk],λi hi=> ?_⟩,trivial⟩;rw[ai1];simp only[app];split
     .exact AQ _
     .rw[hg _ ah];exact AQ _
   .cases hd
  .cases ht
 .simp only[Bh]at hd;cases hd
 .cases ht;simp only[Bh,acd]at hd;cases hd;have:=eG (show Nat.beq z (wd ty)=true from hz);subst this;refine Et rfl ⟨rfl,by simp[hk],λi hi=> ?_⟩;simp only[app,kJ,mJ,Ed];rw[hg i ah];exact AQ _
 .cases ht;simp only[Bh,acd]at hd;cases hd;have:=eG (show Nat.beq z (wd ty)=true from hz);subst this;refine Et rfl ⟨rfl,by simp[hk],λi hi=> ?_⟩;simp only[app,kJ,mJ,Ed];rw[hg i ah];exact AQ _
 .cases ht
theorem aoA{h:List (Nat×TO)}{R:List Nat}{t:Ty}:∀{ks:List Nat} {rows:List (List (den t))},V7 h t ks=some rows->(∀k∈ks,Jk (kg h R k)=true)→
  (ks.map λk=>Fb (kg h R k))=rows.map λr=>CV.rd (wd t) r.length (fE t r)
 | [],rows,hr,_=>by simp only[V7,lu]at hr;subst hr;rfl
 |k::ks,rows,hr,ha=>by
  simp only[V7]at hr;split at hr
  .rename_i xs l h1 h2;cases hr;have hk:=ha k qb;have hl:=D6 h1;rw[mH,mH,aoA h2 (λq hq=>ha q (ou _ hq))];congr 1;cases hg:kg h R k with
   |arr z n f=>obtain⟨rfl,rfl,rfl⟩:=Gg hg hl;rfl
   |box cs=>rw[hg]at hk;cases hk
   |ra z1 n1 cs1=>rw[hg]at hk;cases hk
   |ms es1=>rw[hg]at hk;cases hk
   |dead=>rw[hg]at hk;cases hk
  .cases hr
theorem apR{a:List (Nat×aU)}{b:List (Nat×TO)}(hab:zH a (jJ b)):∀(ks:List Nat),zH (Bl ks++a) (jJ (ajH ks b))
 | []=>hab
 |k::ks=>⟨rfl,trivial,apR hab ks⟩
theorem aLc{C:Cx}{σr:List (Nat×SV)}{t:TypeId}{ps:Array (Nat×Operand)}{e:Eff}
  (he:evalOp C.P id (j3 σr) (kg h R) (.buildSlice t n ps)=some e) (hl:akl C σr h id n t ps.toList=some ws):zH e.ws (jJ ws):=by
 unfold akl at hl;simp only[evalOp]at he;split at hl
 .rename_i p l hp;rw[hp]at he;simp only at he;unfold PO at he;split at hl
  .rename_i ks ty hks hty;rw[hks]at he;simp only at he;split at hl
   .rename_i rows hrows;rcases hn:Nat.beq rows.length n with _|_;rw[hn]at hl;cases hl;rw[hn]at hl;cases hl;have hn:=eG hn;unfold VZ at he;split at he
    .cases he
    .rename_i i z jF;cases hb:(Nat.beq i.size 1&&Nat.beq ks.length n&&Nat.ble (n*i.size) 16777216&&ks.all (λk=>Jk (kg h R k)))with
     |false=>rw[hb]at he;cases he
     |true=>
      rw[hb]at he;cases he;simp only[dQ]at hb;obtain⟨⟨⟨b1,b2⟩,b3⟩,b4⟩:=hb;have b1:=eG b1;have hsp:=aoA hrows (j6.1 b4);have key:zH [(id,aU.arr i.size n (λj=>((ks.map λk=>Fb (kg h R k)).drop (j*i.size)).take i.size))] (jJ [(id,TO.arr (.l ty) rows)]):= ?_
      .exact apR key ks
      refine Et rfl ⟨b1,hn.symm,λj hj=> ?_⟩;rw[hsp,b1];have hj':j<rows.length:=ah;have e1:((rows.map λr=>CV.rd (wd ty) r.length (fE ty r)).drop (j*1)).take 1=[CV.rd (wd ty) (rows.getD j aG).length (fE ty (rows.getD j aG))]:=(by rw[Gt,D9 (aD hj')];simp[fD,hj']);show GL (((rows.map λr=>CV.rd (wd ty) r.length (fE ty r)).drop (j*1)).take 1) _;rw[e1];exact⟨⟨rfl,rfl,λ_ _=>rfl⟩,trivial⟩
   .cases hl
  .cases hl
 .cases hl
theorem aJF{C:Cx}{σr:List (Nat×SV)}{h:List (Nat×TO)}{id:Nat}{op:Op}{e:Eff}{r:SV}{ws:List (Nat×TO)}{R:List Nat}
  (he:evalOp C.P id (j3 σr) (kg h R) op=some e) (hb:∀b∈e.bs,b=true) (ht:typed C σr h id op e=some (r,ws)):e.r.eqv r/\zH e.ws (jJ ws):=by
 have same:∀{s:SV},s.eqv s:=λ{s}=>by cases s with
  |one x=>cases x with|s x=>exact x.wJ|agg xs=>show GN xs xs;induction xs with|nil=>trivial|cons x xs ih=>exact⟨x.wJ,ih⟩
  |mY xs=>show acf xs xs;induction xs with|nil=>trivial|cons x xs ih=>refine⟨?_,ih⟩;cases x with|s x=>exact x.wJ|agg ys=>show GN ys ys;clear ih;induction ys with|nil=>trivial|cons y ys ih=>exact⟨y.wJ,ih⟩
 have dflt:(match xC e.ws with|some ws=>some (e.r,ws)|none=>none)=some (r,ws)->e.r.eqv r/\zH e.ws (jJ ws):=by
  intro ht;split at ht
  .rename_i w hw;cases ht;rw[O9 hw];exact⟨same,ag6 _⟩
  .cases ht
 unfold typed at ht;split at ht
 ·-- make
  rename_i t l c;split at ht
  .rename_i k z n f ty hws hty;split at ht
   .rename_i x hx;cases hz:Nat.beq z (wd ty)with
    |false=>rw[hz]at ht;cases ht
    |true=>
     rw[hz]at ht;cases ht;have hz:=eG hz;refine⟨same,?_⟩;rw[hws];simp only[evalOp]at he;split at he
     .unfold abw at he;split at he
      .cases he
      .cases he;cases hws;refine Et rfl ⟨hz,aj,λi hi=> ?_⟩;have:=Vk hx;unfold fE;simp only[fD,Eb];rw[bW hi];exact this
     .cases he
   .cases ht
  .cases ht
 ·-- a literal
  rename_i t l ps;split at ht
  .rename_i ws' hlit;cases ht;exact⟨same,aLc he hlit⟩
  .split at ht
   .rename_i k z n f ty hws hty;split at ht
    .rename_i xs hx;cases hz:Nat.beq z (wd ty)with
     |false=>rw[hz]at ht;cases ht
     | true =>
      rw[hz]at ht;cases ht;have hz:=eG hz;refine⟨same,?_⟩;rw[hws];have hk:k=id:=by
       simp only[evalOp]at he;split at he
       .unfold PO at he;split at he
        .unfold VZ at he;split at he
         .cases he
         .rename_i ks0 _ _ _ _ i0 z0 _;cases hb0:(Nat.beq i0.size 1&&Nat.beq ks0.length l&&Nat.ble (l*i0.size) 16777216&&ks0.all (λk=>Jk (kg h R k)))with
          |false=>rw[hb0]at he;cases he
          |true=>rw[hb0]at he;cases he;rcases ks0 with _|⟨k0,r0⟩;cases hws;rfl;simp[Bl]at hws
        .unfold Ou at he;split at he
         .cases he
         .rename_i i zz _;rcases hb2:Nat.ble (l*i.size) 16777216 with _|_;rw[hb2]at he;cases he;rw[hb2]at he;simp only[aY]at he;split at he
          .split at he
           .cases he;cases hws;rfl
           .cases he
          .cases he
       .cases he
      obtain⟨q1,q2⟩:=apw hx;exact Et hk ⟨hz,q1.symm,λi hi=>by have:=q2 i hi;rwa [nM]at this⟩
    .cases ht
   .cases ht
 ·-- a store
  rename_i T a v;split at ht
  .rename_i k i off hp;split at ht
   .rename_i t xs v' hl hv;split at ht
    .rename_i ys hys;split at ht
     .rename_i x hx;cases ht;have hp:=I9 hp;simp only[evalOp,hp,hv]at he;unfold Vb at he;split at he
      .cases he
      .rename_i inf Qr;cases hb2:(Nat.beq (kP v').length inf.size&&(kP v').all SC.scalar)with
       |false=>rw[hb2]at he;cases he
       |true=>
        rw[hb2]at he;simp only[aY,hys]at he;split at he
        .rename_i z n f xs' hg hxs;cases hxs;rcases hb3:Nat.ble (off+inf.size) z with _|_;rw[hb3]at he;cases he;rw[hb3]at he;cases he;obtain⟨rfl,rfl,rfl⟩:=Gg hg hl;refine⟨rfl,Et rfl ⟨rfl,aj,λj hj=> ?_⟩⟩;rw[aK0 hj];simp only[upd];by_cases hij:j=i
         .subst hij;rw[bW rfl,bW rfl];exact Vk hx
         .rw[dn hij,dn (λh=>hij h.symm)];exact AQ _
        .cases he
     .cases ht
    .cases ht
   .cases ht
  .exact dflt ht
 ·-- a part of a list
  rename_i t x lo hi mx;split at ht
  .rename_i ty xs hp;have hp:=I9 hp;split at ht
   .rename_i lo' hi' h1 h2 h3;split at ht
    .rename_i ys hys;cases ht;simp only[evalOp,hp,h1,h2,h3]at he;unfold aaT O5 at he;split at he
     .split at he
      .cases he
      .rename_i ie hie;simp only[vw]at he;rcases hz:Nat.beq (wd ty) ie.size with _|_;rw[hz]at he;cases he;rw[hz]at he;simp only[aY]at he;cases lo' with
       |none=>rcases hi' with _|b;cases hys;cases hys;cases he;have hb2:0<=b/\b<=xs.length:=iX (hb _ aj);refine⟨⟨rfl,ay,λi hi=> ?_⟩,trivial⟩;unfold fE;simp only[fD,tq];rw[bW hi]
       |some a=>cases hi' with
        |none=>cases hys;cases he;have hb2:0<=a/\a<=(xs.length:Int)/\(xs.length:Int)<=xs.length:=iX (hb _ aj);refine⟨⟨rfl,aj,λi hi=> ?_⟩,trivial⟩;unfold fE;simp only[fD,yP]
        |some b=>cases hys;cases he;have hb2:0<=a/\a<=b/\b<=xs.length:=iX (hb _ aj);refine⟨⟨rfl,ay,λi hi=> ?_⟩,trivial⟩;replace hi:i<b.toNat-a.toNat:=hi;unfold fE;simp only[fD,tq,yP];rw[bW ah]
     .cases he
     .cases he
    .cases ht
   .cases ht
  .exact dflt ht
 ·-- append
  rename_i c;split at ht
  .rename_i s x t u EJ hargs hts;split at ht
   .rename_i ty kx nx hty hx;split at ht
    .rename_i k z n f hws;split at ht
     .rename_i x0 hx0;cases hz:Nat.beq z (wd ty)with
      |false=>rw[hz]at ht;cases ht
      | true=>
       rw[hz]at ht;cases ht;have hz:=eG hz;refine⟨same,?_⟩;have hx:=I9 hx;simp only[evalOp,EJ,hargs,hts,I6,hx]at he;rw[hws];split at he
       .rename_i s3 x3 e3 q1 q2 q3;cases q2;unfold OZ at he;split at he
        .unfold PL at he;split at he
         .cases he
         .split at he
          .rename_i hsr;simp only[qB,Ct,Ml]at hsr;cases hsr
          .cases he
        .unfold OO at he;split at he
         .cases he
         .split at he
          .rename_i hd hsr;simp only[qB,Ct,Ml]at hsr;cases hsr
          .cases he
       .rename_i k3 n3 q3 q1 q2 _;unfold abu at he;split at he
        .cases he
        .rename_i i3 z3 jF;cases he;cases hws;refine Et rfl ⟨hz,aj,λi hi=> ?_⟩;have:=Vk hx0;unfold fE;simp only[fD,Eb];rw[bW hi];exact this
       .cases he
     .cases ht
    .cases ht
   .rename_i ty s' x' aL4 hty hs hx;split at ht
    .rename_i ys hys;split at ht
     .rename_i ws' hws;cases hz:ajI e.ws (wd ty)with
      |false=>rw[hz]at ht;cases ht
      | true =>
       rw[hz]at ht;cases ht;have hs:=I9 hs;have hx:=I9 hx;simp only[evalOp,EJ,hargs,hts,I6,hs,hx]at he;split at he
       .rename_i s3 x3 e3 q1 q2 q3;cases q1;cases q2;unfold OZ at he;split at he
        .rename_i k lo n1 _;unfold PL at he;split at he
         .cases he
         .rename_i i3 z3 jF;split at he
          .rename_i mm g c2 hsr;split at he
           .rename_i z4 n4 f4 hg4;cases hzz:(Nat.beq z4 i3.size&&Nat.beq lo 0)with
            |false=>rw[hzz]at he;cases he
            |true=>
             rw[hzz]at he;cases he;rw[dQ]at hzz;have hz4:=eG hzz.1;simp only[abR]at hws;split at hws
             .rename_i xs hxs;cases hws;have hlk:=D6 hxs;obtain⟨rfl,rfl,rfl⟩:=Gg hg4 hlk;have hb2:∀b∈c2,b=true:=λb hb'=>hb b (by simp[hb']);have hle:n1+mm<=xs.length:=iX (hb _ aj);rw[<-hz4]at hsr;obtain⟨hk,hg⟩:=src_ok hsr hys hb2;have hle':n1+ys.length<=xs.length:=ah;refine⟨same,Et rfl ⟨rfl,(aht hle').symm,λi hi=> ?_⟩⟩;rw[ai2 hle',Lm,<-hk];unfold wz;split
              .rw[hg _ ah];exact AQ _
              .exact AQ _
             .cases hws
           .cases he
          .cases he
        .unfold OO at he;split at he
         .cases he
         .rename_i i3 z3 jF;split at he
          .rename_i n f c1 w1 k g c2 hd hsr;cases he;have hb2:∀b∈c2,b=true:=λb hb'=>hb b (by simp[hb']);obtain⟨hk,hg⟩:=src_ok hsr hys hb2;exact⟨same,aKT hd hws hz hk hg⟩
          .cases he
       .rename_i k3 n3 q3 q1 q2 _;cases q2;exact(aL4 _ _ rfl).elim
       .cases he
     .cases ht
    .cases ht
   .cases ht
  ·-- copy
   rename_i s x t u EJ hargs hts;split at ht
   .rename_i ty s' x' hty hs hx;split at ht
    .rename_i k lo len ys hsl hys;split at ht
     .rename_i xs hxs;cases ht;have hs:=I9 hs;have hx:=I9 hx;have hlk:=D6 hxs;simp only[evalOp,EJ,hargs,hts,I6,hs,hx]at he;unfold abt Pj at he;split at he
      .cases he
      .rename_i i3 z3 jF;split at he
       .rename_i k' lo' len' mm g c2 hvw hsr;obtain⟨rfl,rfl,rfl⟩:=aq7 hsl hvw;split at he
        .rename_i z4 n4 f4 hg4;obtain⟨rfl,rfl,rfl⟩:=Gg hg4 hlk;rcases hz:Nat.beq (wd ty) i3.size with _|_;rw[hz]at he;cases he;rw[hz]at he;cases he;have hb2:∀b∈c2,b=true:=λb hb'=>hb b (by simp[hb']);have hle:lo'+len'<=xs.length:=iX (hb _ aj);have hz:=eG hz;rw[<-hz]at hsr;obtain⟨hk,hg⟩:=src_ok hsr hys hb2;refine⟨same,Et rfl ⟨rfl,(aht hle).symm,λi hi=> ?_⟩⟩;rw[ai2 hle,<-hk];unfold wz;split
         .rw[hg _ ah];exact AQ _
         .exact AQ _
        .cases he
       .cases he
     .cases ht
    .cases ht
   .cases ht
  ·-- clear
   rename_i s t u EJ hargs hts;split at ht
   .rename_i ty s' e0 i0 z0 hty hs aMC;split at ht
    .rename_i x k lo len hx hsl;split at ht
     .rename_i xs hxs;cases ht;have hs:=I9 hs;have hlk:=D6 hxs;simp only[evalOp,EJ,hargs,hts,I6,hs]at he;unfold aaQ O0 at he;rw[aMC]at he;simp only at he;split at he
      .rename_i k' lo' len' hvw;obtain⟨rfl,rfl,rfl⟩:=aq7 hsl hvw;split at he
       .rename_i z4 n4 f4 hg4;obtain⟨rfl,rfl,rfl⟩:=Gg hg4 hlk;rcases hz:Nat.beq (wd ty) i0.size with _|_;rw[hz]at he;cases he;rw[hz]at he;cases he;have hle:lo'+len'<=xs.length:=iX (hb _ aj);refine⟨same,Et rfl ⟨rfl,(aht hle).symm,λi hi=> ?_⟩⟩;rw[ai2 hle];unfold wz;simp only[Vm,Lm];split
        .rename_i hq;have:fE ty (List.replicate len' x) (i-lo')=w9 ty x:=(by unfold fE;simp only[fD,Eb];rw[bW ah];rfl);rw[this];exact Vk hx
        .exact AQ _
       .cases he
      .cases he
     .cases ht
    .cases ht
   .cases ht
  .exact dflt ht
 .exact dflt ht
end
section
variable {β:Type}{b:Bool}{α:Type}{C:Cx}{op:Op}{e:Eff}{t:Ty}{c:SC}
def Does(P:Program)(id:Nat)(σA:List (Nat×SV))(hA:List aU)(op:Op)(r:SV)(ws:List (Nat×TO))(ks:List Nat):Prop:=
 ∃cB bK,p8 P id (j3 σA) (lD hA (readsOf σA op cB)) op cB=some bK/\(∀q∈bK.cs,q)/\bK.r=r/\bK.ws=jJ ws/\ail cB=ks/\tF id (lD hA (readsOf σA op cB)) bK.ws=true
theorem apB{k:Option β}{r:β}(h:bq b k=some r):b=true/\k=some r:=by cases b with|true=>exact⟨rfl,h⟩|false=>cases h
theorem Z8{β:Type}{g:Option Bool}{k:Option β}{r:β}:∀{bs:List Bool},GK g bs k=some r->k=some r/\((g=none\/g=some true)→∀b∈bs,b=true)
 | [],h=>⟨h,λ_ b hb=>absurd hb nU⟩
 |b::bs,h=>by cases g with
  |none=>obtain⟨h1,h2⟩:=apB (show bq b (GK none bs k)=some r from h);obtain⟨q1,q2⟩:=Z8 h2;refine⟨q1,λhg b' hb'=> ?_⟩;cases hb' with|head=>exact h1|tail _ hb'=>exact q2 hg b' hb'
  |some g=>
   obtain⟨h1,h2⟩:=apB (show bq (!g||b) (GK (some g) bs k)=some r from h);obtain⟨q1,q2⟩:=Z8 h2;refine⟨q1,λhg b' hb'=> ?_⟩;rcases hg with hg|hg
   .cases hg
   .cases hg;cases hb' with|head=>simpa using h1|tail _ hb'=>exact q2 (.inr rfl) b' hb'
theorem aoe{g:Option Bool}{m:Option α}{d:α}{k:α->Option β}{r:β}(h:aju g m d k=some r):∃a,k a=some r/\((g=none\/g=some true)->m=some a)/\(g=some false->d=a):=by cases g with
 |none=>obtain⟨a,h1,h2⟩:=DT (show m.bind k=some r from h);exact⟨a,h2,λ_=>h1,λh=>by cases h⟩
 |some g=>
  obtain⟨a,h1,h2⟩:=DT (show(bif g then m else some d).bind k=some r from h);refine⟨a,h2,λhg=> ?_,λhg=> ?_⟩
  .rcases hg with hg|hg
   .cases hg
   .cases hg;exact h1
  .cases hg;exact rM h1
theorem ags{id:Nat}{get get':Nat->aU}(hg:∀k,(get k).live->get' k=get k):∀{ws:List (Nat×aU)},tF id get ws=true->tF id get' ws=true
 | [],_=>rfl
 |(k,o)::r,h=>by
  simp only[tF,dQ,pO]at h⊢;refine⟨?_,ags hg h.2⟩;rcases h.1 with h1|h1
  .exact .inl h1
  .right;rw[hg k (agN h1)];exact h1
section
variable {h:List (Nat×TO)} {hA:List aU}
theorem aId{R:List Nat}{k:Nat}(hl:(kg h R k).live):l8 k R=true/\lookO h k≠.dead/\kg h R k=(lookO h k).er:=by unfold kg at hl⊢;rcases hb:l8 k R with _|_;rw[hb]at hl;exact hl.elim;rw[hb]at hl;exact⟨rfl,λe=>by rw[e]at hl;exact hl,rfl⟩
theorem ahz(hh:∀k,lookO h k≠.dead->eB hA k=(lookO h k).er){R R':List Nat}(hR:∀k∈R,k∈R'):∀k,(kg h R k).live->lD hA R' k=kg h R k:=by intro k hl;obtain⟨h1,h2,h3⟩:=aId hl;rw[h3,<-hh k h2];unfold lD;rw[uV.2 (hR k (uV.1 h1))];rfl
end
theorem ap2{σr σA:List (Nat×SV)}(hm:∀p∈σr,p∈σA):∀k∈σr.flatMap (λp=>p.2.refs),k∈σA.flatMap (λp=>p.2.refs):=by intro k hk;obtain⟨p,h1,h2⟩:=aiK.1 hk;exact aiK.2 ⟨p,hm p h1,h2⟩
theorem aaV{σr σA:List (Nat×SV)}(hl:∀x s,look σr x=some s->look σA x=some s):∀x s,j3 σr x=some s->j3 σA x=some s:=by intro x s hx;cases x with|tmp t=>exact hl t s hx|_=>exact hx
theorem aJW{σr σA:List (Nat×SV)}{h:List (Nat×TO)}{hA:List aU}{id:Nat}{r:SV}{ws:List (Nat×TO)}
  (hl:∀x s,look σr x=some s->look σA x=some s) (hm:∀p∈σr,p∈σA) (hh:∀k,lookO h k≠.dead->eB hA k=(lookO h k).er)
  (he:evalOp C.P id (j3 σr) (kg h (readsOf σr op none)) op=some e) (hb:∀b∈e.bs,b=true) (ht:typed C σr h id op e=some (r,ws))
  (hk:tF id (kg h (readsOf σr op none)) (jJ ws)=true):Does C.P id σA hA op r ws []:=by
 have hR:∀k∈readsOf σr op none,k∈readsOf σA op (some (.Xi r (jJ ws))):=by intro k hk;unfold readsOf at hk⊢;cases hu:Ch op with|true=>rw[hu]at hk;exact ap2 hm k hk|false=>rw[hu]at hk;cases hk
 have hg:=ahz hh hR;have he':=aI6 (aaV hl) (Zv hg he);obtain⟨q1,q2⟩:=aJF he hb ht;refine⟨some (.Xi r (jJ ws)),{r:=r,ws:=jJ ws,cs:=Dh e.bs++ [e.r.eqv r,zH e.ws (jJ ws)]},?_,λq hq=> ?_,rfl,rfl,rfl,ags hg hk⟩
 .simp only[p8,he']
 .simp only[oU,Ck,nU,sH]at hq;rcases hq with hq|rfl|rfl
  .obtain⟨b,hb',rfl⟩:=qw.1 hq;exact hb b hb'
  .exact q1
  .exact q2
theorem aM5{σr σA:List (Nat×SV)}{h:List (Nat×TO)}{hA:List aU}{id:Nat}{ws:List (Nat×TO)}
  (hl:∀x s,look σr x=some s->look σA x=some s) (hm:∀p∈σr,p∈σA) (hh:∀k,lookO h k≠.dead->eB hA k=(lookO h k).er)
  (he:lI C.P id (j3 σr) (kg h (readsOf σr op none)) op=some e) (hb:∀b∈e.bs,b=true) (ht:xC e.ws=some ws)
  (hk:tF id (kg h (readsOf σr op none)) (jJ ws)=true):Does C.P id σA hA op e.r ws []:=by
 have hR:∀k∈readsOf σr op none,k∈readsOf σA op (some .xo):=by intro k hk;unfold readsOf at hk⊢;cases hu:Ch op with|true=>rw[hu]at hk;exact ap2 hm k hk|false=>rw[hu]at hk;cases hk
 have hg:=ahz hh hR;have he':=aJZ (aaV hl) (aol hg he);have hw:=O9 ht;refine⟨some .xo,{r:=e.r,ws:=e.ws,cs:=Dh e.bs},?_,λq hq=> ?_,rfl,hw.symm,rfl,by rw[hw]at hk;exact ags hg hk⟩
 .simp only[p8,he']
 .obtain⟨b,hb',rfl⟩:=qw.1 hq;exact hb b hb'
theorem anD:∀{l:List (Option Nat)} {K:List Nat},aaG l=some K->l=K.map some
 | [],K,h=>by cases h;rfl
 |some k::r,K,h=>by
  simp only[aaG]at h;split at h
  .rename_i l hl;cases h;rw[anD hl];rfl
  .cases h
 |none::r,K,h=>by cases h
theorem ah2:∀{ks:List (Nat×SK)} {i:Nat} (v:Hg ks),sZ i ks=true→∀(j:Nat) s',((kN ks v).map (·.2))[j]? =some s'->look (kN ks v) (i+j)=some s'
 | [],i,v,_,j,s',h=>by simp[kN]at h
 | (x,k)::r,i,v,hk,j,s',h=>by simp only[sZ,dQ]at hk;have:=eG hk.1;subst this;cases j with|zero=>simp[kN]at h;simp[kN,look,h]|succ j=>have:=ah2 v.2 hk.2 j s' (by simpa[kN]using h);simp only[kN,look];cases hb:Nat.beq x (x+(j+1))with|true=>have:=eG hb;omega|false=>rw[aX,show x+(j+1)=x+1+j by omega];exact this
theorem aaP:∀(ks:List (Nat×SK)) (v:Hg ks),(kN ks v).length=ks.length
 | [],v=>rfl
 |(x,k)::r,v=>by simp[kN,aaP r v.2]
theorem aqp{α β:Type}{R:α->β->Prop}:∀{l:List α} {r:List β},l.length=r.length->(∀(i:Nat) b,r[i]? =some b→∃a,l[i]? =some a/\R a b)->jY R l r
 | [],[],_,_=> .nil
 | [],_::_,h,_=>by simp at h
 |_::_,[],h,_=>by simp at h
 |a::l,b::r,h,hp=>by obtain⟨a',h1,h2⟩:=hp 0 b rfl;simp at h1;subst h1;exact .cons h2 (aqp (aD h) (λi b hb=>by simpa using hp (i+1) b (aD hb)))
theorem ah3(a b:List (Nat×TO)):jJ (a++b)=jJ a++jJ b:=by simp[jJ]
theorem apK:∀l:List Nat,jJ (Jq l)=Er l
 | []=>rfl
 |k::r=>by show(k,aU.dead)::jJ (Jq r)=_;rw[apK r];rfl
theorem aLq(ρ:Nat->Option Nat)(o:TO):(o.ren ρ).er=o.er.ren ρ:=by cases o with|ra cs=>show aU.ra 1 (cs.map (SC.ren ρ)).length _=aU.ra 1 cs.length _;rw[kQ]|_=>rfl
theorem aqD(ρ:Nat->Option Nat):∀(K:List Nat) (l:List TO),jJ (qE K (l.map (TO.ren ρ)))=xu K ((l.map TO.er).map (aU.ren ρ))
 | [],l=>by cases l<;>rfl
 |k::K,[]=>rfl
 |k::K,o::l=>by simp only[mH,qE,xu];show(k,(o.ren ρ).er)::jJ (qE K (l.map (TO.ren ρ)))=_;rw[aqD ρ K l,aLq]
theorem apf:∀{ks:List OK} (v:Al ks),L8 ks=true->((gY ks v).map TO.er).all abU=true
 | [],v,_=>rfl
 |k::r,v,h=>by simp only[gY,mH,wS,dQ];cases k<;>first|(exact⟨rfl,apf v.2 h⟩)|(simp[L8]at h)
theorem apH:∀(ks:List OK) (v:Al ks) (n:Nat),∃u,(gY ks v).drop n=gY (ks.drop n) u
 |ks,v,0=>⟨v,rfl⟩
 | [],v,n+1=>⟨v,rfl⟩
 |k::r,v,n+1=>apH r v.2 n
theorem aoq:∀(id n:Nat),(Cr id n).length=n
 |_,0=>rfl
 |id,n+1=>by simp[Cr,aoq (id+1) n]
theorem apa:∀{id n k:Nat},k∈Cr id n->id<=k
 |id,0,k,h=>by cases h
 |id,n+1,k,h=>by cases h with|head=>exact gy _|tail _ h=>have:=apa h;omega
theorem agL{get:Nat->aU}{k:Nat}:∀{R:List Nat},Ev k (mD get R)=l8 k R
 | []=>rfl
 |j::r=>by simp only[mD,Ev,l8,agL]
theorem agv{get:Nat->aU}{k:Nat}:∀{R:List Nat},k∈R->yT (mD get R) k=get k
 |j::r,h=>by simp only[mD,yT];cases hb:Nat.beq j k with
  |true=>have:=eG hb;subst this;rfl
  |false=>cases h with
   |head=>rw[oW]at hb;cases hb
   |tail _ h=>exact agv h
theorem apV{id:Nat}{objs:List (Nat×aU)}:∀{ws:List (Nat×aU)},(∀k o,(k,o)∈ws->Ev k objs=true\/(id<=k/\k<id+64))->Js id objs ws=true
 | [],_=>rfl
 |(k,o)::r,h=>by
  simp only[Js,dQ,pO];refine⟨?_,apV (λk o ho=>h k o (ou _ ho))⟩;rcases h k o (qb ..)with h1|⟨h1,h2⟩
  .exact .inl h1
  .exact .inr ⟨Vr h1,by simp only[Nat.blt];exact Vr h2⟩
theorem ao1{id:Nat}{get:Nat->aU}:∀{ws:List (Nat×aU)},(∀k o,(k,o)∈ws->(get k).live\/(id<=k/\k<id+64))->tF id get ws=true
 | [],_=>rfl
 | (k,o)::r,h=>by
  simp only[tF,dQ,pO];refine⟨?_,ao1 (λk o ho=>h k o (ou _ ho))⟩;rcases h k o (qb ..)with h1|⟨h1,h2⟩
  .right;cases hg:get k with|dead=>rw[hg]at h1;exact h1.elim|_=>rfl
  .exact .inl ⟨Vr h1,by simp only[Nat.blt];exact Vr h2⟩
theorem agM(x:den t)(h:V4 t=true):(Ew t x).isVal=true:=by cases t<;>first|rfl|cases h
theorem aok:∀{ts:List Ty} (v:Ag ts),ts.all V4=true→∀x∈tL ts v,x.isVal=true
 | [],v,_,x,hx=>by cases hx
 |t::r,v,h,x,hx=>by simp only[wS,dQ]at h;cases hx with|head=>exact agM v.1 h.1|tail _ hx=>exact aok v.2 h.2 x hx
theorem agI{k:N}(x:T k)(h:Vh (.n k)=true):∀y∈jI k x,y.isVal=true:=by rw[<-arU k x,Ph];exact aok _ h
theorem aHh(x:den t)(h:Vh t=true):∀y∈w9 t x,y.isVal=true:=by cases t with
 |n k=>exact agI x h
 |l t=>cases h
 |_=>intro y hy;cases hy with|head=>rfl|tail _ hy=>cases hy
theorem aoI{cs:List CV}(h:∀y∈cs,y.isVal=true):(cs.map SC.c).all SC.plain=true:=by rw[j6];intro x hx;obtain⟨y,hy,rfl⟩:=qw.1 hx;exact h y hy
theorem ahu{k:CK}(x:VC k)(h:k.plain=true):(eC k x).plain=true:=by cases k<;>first|rfl|(exact agM x h)|cases h
theorem Z9:∀{ks:List CK} (v:VCs ks),ks.all CK.plain=true->(za ks v).all SC.plain=true
 | [],v,_=>rfl
 |k::r,v,h=>by simp only[wS,dQ]at h;simp only[za,wS,dQ];exact⟨ahu v.1 h.1,Z9 v.2 h.2⟩
theorem aoV:∀{ov:List (Nat×CK)} (v:Dc ov) (cs:List SC),(ov.all λp=>p.2.plain)=true->(∀(i:Nat) c,cs[i]? =some c->yx i ov=true\/c.plain=true)->(BH ov v cs).all SC.plain=true
 | [],v,cs,_,h=>by
  rw[BH,j6];intro x hx;obtain⟨i,hi⟩:=List.mem_iff_getElem?.1 hx;rcases h i x hi with h|h
  .cases h
  .exact h
 | (i,k)::r,v,cs,ha,h=>by
  simp only[wS,dQ]at ha;refine aoV v.2 (cs.set i (eC k v.1)) ha.2 (λj c hj=> ?_);rw[xU]at hj;by_cases e:i=j
  .rw[bW e]at hj;split at hj
   .cases hj;exact .inr (ahu v.1 ha.1)
   .cases hj
  .rw[dn e]at hj;rcases h j c hj with h|h
   .simp only[yx,pO]at h;rcases h with h|h
    .exact absurd (eG h) e
    .exact .inl h
   .exact .inr h
theorem aqW{ov:List (Nat×CK)}:∀{ts:List Ty} {j:Nat} (v:Ag ts),ovP ov j ts=true→∀(i:Nat) c,((tL ts v).map SC.c)[i]? =some c->yx (j+i) ov=true\/c.plain=true
 | [],j,v,_,i,c,hc=>by simp[tL]at hc
 |t::r,j,v,h,i,c,hc=>by simp only[ovP,dQ,pO]at h;cases i with
  |zero=>
   simp only[tL,mH,aa3]at hc;cases hc;rcases h.1 with h|h
   .exact .inr (agM v.1 h)
   .exact .inl h
  |succ i=>simp only[tL,mH,Lj]at hc;have:=aqW v.2 h.2 i c hc;rwa [show j+1+i=j+(i+1)by omega]at this
theorem aoz{n:N}{ov:List (Nat×CK)}(x:T n)(v:Dc ov)(h:abG n ov=true):(BH ov v ((jI n x).map SC.c)).all SC.plain=true:=by simp only[abG,dQ]at h;refine aoV v _ h.2 (λi c hc=> ?_);rw[<-arU n x,Ph]at hc;have:=aqW _ h.1 i c hc;rwa [nM]at this
theorem aI2{k:SK}(x:VS k)(h:k.plain=true):(Jw (eS k x)).plain=true:=by cases k with|c k=>exact ahu x h|st n=>exact aoI (agI x h)|sw n ov=>exact aoz x.1 x.2 h|ag ks=>exact Z9 x h
theorem aoW:∀{ks:List (Nat×SK)} (v:Hg ks),(ks.all λp=>p.2.plain)=true→∀p∈kN ks v,(Jw p.2).plain=true
 | [],v,_,p,hp=>by cases hp
 |(x,k)::r,v,h,p,hp=>by simp only[wS,dQ]at h;cases hp with|head=>exact aI2 v.1 h.1|tail _ hp=>exact aoW v.2 h.2 p hp
theorem aGA{l:List (Nat×SV)}(h:∀p∈l,(Jw p.2).plain=true):(Ez l).plain=true:=by
 unfold Ez;split
 .exact h _ (qb ..)
 .show(l.map λp=>Jw p.2).all AV.plain=true;rw[j6];intro a ha;obtain⟨p,hp,rfl⟩:=qw.1 ha;exact h p hp
theorem aoU:∀{ks:List OK} (v:Al ks),ks.all OK.plain=true→∀o∈(gY ks v).map TO.er,o.plain
 | [],v,_,o,ho=>by cases ho
 |k::r,v,h,o,ho=>by simp only[wS,dQ]at h;cases ho with
  |head=>have h1:=h.1;cases k with
   |bs n=>exact aoI (agI v.1 h1)
   |bw n ov=>exact aoz v.1.1 v.1.2 h1
   |bx ks=>exact Z9 v.1 h1
   |ar t=>exact λi _ x hx=>aHh _ h1 x hx
   |ra ks=>exact Z9 v.1 h1
   |ms=>trivial
   |dd=>trivial
  |tail _ ho=>exact aoU v.2 h.2 o ho
theorem aFH{k:Nat}{o:aU}{K:List Nat}{l:List aU}(h:(k,o)∈xu K l):k∈K:=by obtain⟨j,hj,_⟩:=Va.1 h;exact rJ hj
theorem agY:∀(K L:List Nat) (l:List TO),qE K (l.take K.length)++qE L (l.drop K.length)=qE (K++L) l
 | [],L,l=>rfl
 |k::K,L,[]=>by cases L<;>rfl
 |k::K,L,o::l=>by simp only[yQ,List.take_succ_cons,List.drop_succ_cons,Je,qE];rw[agY K L l]
theorem ah6(ρ:Nat->Option Nat):∀{cs:List SC},cs.all Di=true->cs.map (SC.ren ρ)=cs
 | [],_=>rfl
 |c::cs,h=>by simp only[wS,dQ]at h;rw[mH,ah6 ρ h.2];cases c<;>first|rfl|(simp[Di]at h)
theorem ai0{h:List (Nat×TO)}{fz:List Nat}{x:den t}(hx:Di c=true)(e:dT h fz t c=some x):c=.c (Ew t x):=by cases t with
 |i k=>exact ah0 e
 |b=>exact ahZ e
 |s=>exact ag3 e
 |n k=>cases e
 |l t=>
  replace e:WV h fz t c=some x:=e;unfold WV at e;split at e
  .cases Ga e;rfl
  .cases hx
  .cases hx
  .cases hx
  .cases hx
  .cases e
theorem arH{h:List (Nat×TO)}{fz:List Nat}:∀{ts:List Ty} {cs:List SC} {v:Ag ts},cs.all Di=true->JH h fz ts cs=some v->cs=(tL ts v).map .c
 | [],[],v,_,_=>rfl
 | [],_::_,v,_,e=>by cases e
 |_::_,[],v,_,e=>by cases e
 |t::r,c::cs,v,hx,e=>by
  simp only[wS,dQ]at hx;unfold JH at e;split at e
  .rename_i x u h1 h2;cases e;rw[ai0 hx.1 h1,arH hx.2 h2];rfl
  .cases e
theorem arG{h:List (Nat×TO)}{fz:List Nat}{src:List (Option Nat)}{ko:List OK}{ρ:Nat->Option Nat}(hρ:∀j k,sJ src[j]? k=true->ρ j=some k){k:CK}{x:VC k}(hx:exK k c=true)(h1:dC h fz src ko k c=some x):(eC k x).ren ρ=c:=by cases k with
 |ty t=>have:=ai0 (show Di c=true from hx) (show dT h fz t c=some x from h1);rw[this];rfl
 |pb j off=>
  replace h1:WX src j off c=some x:=h1;unfold WX at h1;split at h1
  .rename_i k' off';cases hb:(Nat.beq off off'&&sJ src[j]? k')with
   |false=>rw[hb]at h1;cases h1
   |true=>rw[dQ]at hb;have:=eG hb.1;subst this;show SC.ren ρ (.pb j off)=.pb k' off;rw[SC.ren,hρ j k' hb.2]
  .cases h1
 |own j=>
  replace h1:Wj src ko j c=some x:=h1;unfold Wj at h1;split at h1
  .rename_i k';rcases hb:sJ src[j]? k' with _|_;rw[hb]at h1;cases h1;show SC.ren ρ (.own j)=.own k';rw[SC.ren,hρ j k' hb]
  .cases hx
  .cases h1
 |mc j=>
  replace h1:WW src j c=some x:=h1;unfold WW at h1;split at h1
  .rename_i k';rcases hb:sJ src[j]? k' with _|_;rw[hb]at h1;cases h1;show SC.ren ρ (.mp j)=.mp k';rw[SC.ren,hρ j k' hb]
  .cases h1
 |MB t=>cases hx
 |pe j off=>cases hx
 |rp t=>cases hx
 |fn f js=>cases hx
 |nl=>cases hx
 |fb f j off=>cases hx
 |bot=>cases hx
theorem ard{h:List (Nat×TO)}{fz:List Nat}:∀{ts:List Ty} {cs:List SC} {v:Ag ts},JH h fz ts cs=some v->(tL ts v).length=cs.length∧∀(i:Nat) c,cs[i]? =some c->Di c=true->((tL ts v).map SC.c)[i]? =some c
 | [],[],v,_=>⟨rfl,λi c hc=>by simp at hc⟩
 | [],_::_,v,e=>by cases e
 |_::_,[],v,e=>by cases e
 |t::r,c::cs,v,e=>by
  unfold JH at e;split at e
  .rename_i x u h1 h2;cases e;obtain⟨q1,q2⟩:=ard h2;refine⟨by show(Ew t x::tL r u).length=_;simp[q1],λi c' hc hx=> ?_⟩;show((Ew t x::tL r u).map SC.c)[i]? =some c';cases i with|zero=>simp only[aa3,lu]at hc;subst hc;rw[ai0 hx h1];rfl|succ i=>simpa using q2 i c' (aD hc) hx
  .cases e
theorem aJe{i j:Nat}{ov:List (Nat×CK)}:∀{cs:List SC},yx j ov=false->(Bn ov cs)[j]? =cs[j]? :=by induction ov with|nil=>intro cs _;rfl|cons a r ih=>intro cs hk;obtain⟨i,k⟩:=a;simp only[yx,nW]at hk;simp only[Bn];rw[ih hk.2,xU,dn];intro h;have:=hk.1;rw[h,oW]at this;cases this
theorem ape{ov:List (Nat×CK)}:∀{cs:List SC},(Bn ov cs).length=cs.length:=by induction ov with|nil=>intro cs;rfl|cons a r ih=>intro cs;obtain⟨i,k⟩:=a;simp only[Bn];rw[ih,oQ]
theorem aqF{h:List (Nat×TO)}{fz:List Nat}{src:List (Option Nat)}{ko:List OK}{ρ:Nat->Option Nat}(hρ:∀j k,sJ src[j]? k=true->ρ j=some k):∀{ov:List (Nat×CK)} {cs base:List SC} {v:Dc ov},QO h fz src ko ov cs=some v->ach ov cs=true->base.length=cs.length→
  (∀(i:Nat),yx i ov=false->(base.map (SC.ren ρ))[i]? =cs[i]?)->(BH ov v base).map (SC.ren ρ)=cs
 | [],cs,base,v,_,_,_,hb=>Ea λi=>hb i rfl
 | (i,k)::r,cs,base,v,e,hx,hl,hb=>by
  unfold QO at e;split at e
  .rename_i c hc;split at e
   .rename_i x u h1 h2;cases e;simp only[ach,hc,dQ]at hx;show(BH r u (base.set i (eC k x))).map (SC.ren ρ)=cs;refine aqF hρ h2 hx.2 (by rw[oQ];exact hl) (λj hj=> ?_);rw[aa7];rw[xU];by_cases hij:i=j
    .subst hij;rw[bW rfl,bW (by rw[kQ,hl];exact iF hc),hc,arG hρ hx.1 h1]
    .rw[dn hij];refine hb j ?_;simp only[yx,nW];refine⟨?_,hj⟩;cases hq:Nat.beq i j with|true=>exact absurd (eG hq) hij|false=>rfl
   .cases e
  .cases e
theorem aoX{ov:List (Nat×CK)}:∀{cs:List SC} {i:Nat},acg ov i cs=true→∀(j:Nat) c,cs[j]? =some c->yx (i+j) ov=false->Di c=true
 | [],i,_,j,c,hc,_=>by simp at hc
 |c0::r,i,hx,j,c,hc,hk=>by simp only[acg,dQ,pO]at hx;cases j with
  |zero=>
   simp only[aa3,lu]at hc;subst hc;rcases hx.1 with h|h
   .rw[vk]at hk;rw[hk]at h;cases h
   .exact h
  |succ j=>exact aoX hx.2 j c (aD hc) (by rw[show i+1+j=i+(j+1)by omega];exact hk)
theorem ah7{h:List (Nat×TO)}{fz:List Nat}{src:List (Option Nat)}{ko:List OK}{ρ:Nat->Option Nat}(hρ:∀j k,sJ src[j]? k=true->ρ j=some k):∀{ks:List CK} {cs:List SC} {v:VCs ks},LX ks cs=true->E5 h fz src ko ks cs=some v->(za ks v).map (SC.ren ρ)=cs
 | [],[],v,_,_=>rfl
 | [],_::_,v,_,e=>by cases e
 |_::_,[],v,_,e=>by cases e
 |k::ks,c::cs,v,hx,e=>by
  simp only[LX,dQ]at hx;unfold E5 at e;split at e
  .rename_i x u h1 h2;cases e;show(eC k x).ren ρ::(za ks u).map (SC.ren ρ)=c::cs;rw[ah7 hρ hx.2 h2];congr 1;exact arG hρ hx.1 h1
  .cases e
theorem aKZ{h:List (Nat×TO)}{fz:List Nat}{src:List (Option Nat)}{ko:List OK}{i:Nat}{k:OK}{x:VO k}{ρ:Nat->Option Nat}(hρ:∀j k,sJ src[j]? k=true->ρ j=some k)(hx:exO k (lookO h i)=true)(e:dO h fz src ko (some i) k=some x):(eO k x).ren ρ=lookO h i:=by cases k with
 |ar t=>exact(D6 (show dA t (lookO h i)=some x from e)).symm
 |bs n=>simp only[dO,Jp]at e;cases hl:lookO h i with
  |box cs=>
   rw[hl]at e hx;replace hx:cs.all Di=true:=hx;replace e:Aq h fz n cs=some x:=e;unfold Aq at e;split at e
   .rename_i v hv;cases e;have:=arH hx hv;show TO.box (((jI n (QZ n v)).map .c).map (SC.ren ρ))=_;rw[Ph,<-this,ah6 ρ hx]
   .cases e
  |arr t xs=>rw[hl]at hx;cases hx
  |ra cs=>rw[hl]at hx;cases hx
  |ms es=>rw[hl]at hx;cases hx
  |dead=>rw[hl]at hx;cases hx
 | bw n ov=> simp only[dO,Jp]at e;cases hl:lookO h i with
  |box cs=>
   rw[hl]at e hx;simp only[exO,dQ]at hx;replace e:dW h fz src ko n ov cs=some x:=e;unfold dW at e;split at e
   .rename_i y u h1 h2;rcases hn:abB ov with _|_;rw[hn]at e;cases e;rw[hn]at e;cases e;unfold Aq at h1;split at h1
    .rename_i w hw;cases h1;obtain⟨q1,q2⟩:=ard hw;show TO.box ((BH ov u ((jI n (QZ n w)).map .c)).map (SC.ren ρ))=_;rw[Ph];congr 1;refine aqF hρ h2 hx.2 (by rw[kQ,q1,ape]) (λj hj=> ?_);rcases mI j cs.length with hlt|hge
     .have hcj:cs[j]? =some cs[j]:=jR hlt;have hex:=aoX hx.1 j cs[j] hcj (by rw[nM];exact hj);have:=q2 j cs[j] (by rw[aJe (i:=0) hj];exact hcj) hex;rw[mW,this,hcj];have h3:=ah6 ρ (cs:=[cs[j]]) (by simp[hex]);simpa using h3
     .rw[xS hge,xS];rw[kQ,kQ,q1,ape];exact hge
    .cases h1
   .cases e
  |arr t xs=>rw[hl]at hx;cases hx
  |ra cs=>rw[hl]at hx;cases hx
  |ms es=>rw[hl]at hx;cases hx
  |dead=>rw[hl]at hx;cases hx
 |bx ks=>simp only[dO,Jp]at e;cases hl:lookO h i with
  |box cs=>rw[hl]at e hx;replace hx:LX ks cs=true:=hx;replace e:E5 h fz src ko ks cs=some x:=e;show TO.box ((za ks x).map (SC.ren ρ))=_;rw[ah7 hρ hx e]
  |arr t xs=>rw[hl]at hx;cases hx
  |ra cs=>rw[hl]at hx;cases hx
  |ms es=>rw[hl]at hx;cases hx
  |dead=>rw[hl]at hx;cases hx
 |ms=>simp only[dO,acy]at e;cases hl:lookO h i with
  |ms es=>rw[hl]at e;cases e;rfl
  |arr t xs=>rw[hl]at hx;cases hx
  |box cs=>rw[hl]at hx;cases hx
  |ra cs=>rw[hl]at hx;cases hx
  |dead=>rw[hl]at hx;cases hx
 |ra ks=>simp only[dO,akz]at e;cases hl:lookO h i with
  |ra cs=>rw[hl]at e hx;replace hx:LX ks cs=true:=hx;replace e:E5 h fz src ko ks cs=some x:=e;show TO.ra ((za ks x).map (SC.ren ρ))=_;rw[ah7 hρ hx e]
  |arr t xs=>rw[hl]at hx;cases hx
  |ms es=>rw[hl]at hx;cases hx
  |box cs=>rw[hl]at hx;cases hx
  |dead=>rw[hl]at hx;cases hx
 |dd=>cases h:lookO h i<;>rw[h]at hx<;>cases hx
theorem ahy{h:List (Nat×TO)}{fz:List Nat}{src:List (Option Nat)}{ko:List OK}{ρ:Nat->Option Nat}(hρ:∀j k,sJ src[j]? k=true->ρ j=some k):∀{K:List Nat} {ks:List OK} {v:Al ks},yX h K ks=true->QN h fz src ko (K.map some) ks=some v→
  ∀p∈qE K ((gY ks v).map (TO.ren ρ)),lookO h p.1=p.2
 | [],[],v,_,_,p,hp=>by cases hp
 | [],_::_,v,hx,_,p,hp=>by cases hx
 |_::_,[],v,hx,_,p,hp=>by cases hx
 |k::K,o::os,v,hx,e,p,hp=>by
  simp only[yX,dQ]at hx;simp only[mH]at e;unfold QN at e;split at e
  .rename_i a u h1 h2;cases e;simp only[gY,mH,qE]at hp;cases hp with|head=>show lookO h k=(eO o a).ren ρ;exact(aKZ hρ hx.1 h1).symm|tail _ hp=>exact ahy hρ hx.2 h2 p hp
  .cases e
theorem aoQ{x:Option α}{v:α}(h:(bif b then x else none)=some v):x=some v:=by cases b with|true=>exact h|false=>cases h
theorem aKO{S:aS}{h:List (Nat×TO)}{args:List SV}{K L:List Nat}{v:S.ps.V}{g:Bool}(hsrc:Ak (qV S.ps 0 ⟨qQ 0 args,h,0⟩).om 0 S.ps.objs.length=K.map some)(hv:dec S.ps 0 ⟨qQ 0 args,h,0⟩=some v)
  (hc:((some g).isNone||Nat.beq K.length 0||(S.dk&&yX h K S.ps.objs))=true):
  ∀p∈qE K (((gY S.rs.objs (S.g (S.d v)).2).map (TO.ren (at_ (K++L)))).take S.ps.objs.length),lookO h p.1=p.2:=by
 simp only[Vt,kW,pO,dQ]at hc;intro p hp;rcases hc with hc|⟨hd,hx⟩
 .have:=Jf (eG hc);subst this;cases hp
 .rw[<-aa8,S.hd hd v]at hp;unfold dec at hv;simp only at hv;have hv:=aoQ hv;split at hv
  .rename_i a b h1 h2;cases hv;rw[hsrc]at h2;refine ahy (λj k hk=> ?_) hx h2 p hp;rw[mW]at hk;show(K++L)[j]? =some k;rcases hj:K[j]? with _|k';rw[hj]at hk;cases hk;rw[hj]at hk;have:=eG (show Nat.beq k' k=true from hk);subst this;rw[p9 (aiE.1 hj).1];exact hj
  .cases hv
theorem anE:∀{A:List (Nat×aU)} {h:List aU},(∀k o,(k,o)∈A->h[k]? =some o)->eX h A=h
 | [],h,_=>rfl
 | (k,o)::r,h,hA=>by
  have e:h.set k o=h:=by
   apply Ea;intro i;rw[xU];by_cases hk:k=i
   .subst hk;have:=hA k o (qb ..);rw[bW rfl,bW (iF this),this]
   .rw[dn hk]
  show eX (h.set k o) r=h;rw[e];exact anE λk o hk=>hA k o (ou _ hk)
theorem Gz.drop{P:Program}{f:FuncId}{args:List SV}{objs:List (Nat×aU)}{r:SV}{A B:List (Nat×aU)}(h:Gz P f args objs r (A++B))(hA:∀k o,(k,o)∈A->(k,o)∈objs):Gz P f args objs r B:=by
 refine⟨h.1,λX w m h0 vs H ho hn ha=> ?_⟩
 have h1:=h.2 X w m h0 vs H ho (λk o hk=>by
  rcases oU.1 hk with hk|hk
  .exact .inl ⟨o,hA k o hk⟩
  .exact hn k o hk) ha
 rw[Zq,anE (λk o hk=>ho k o (hA k o hk))]at h1;exact h1
theorem aJD{β:Type}{C:Cx}{S:aS}(hS:kR C.P S){g:Option Bool}{id:Nat}{h:List (Nat×TO)}{hA:List aU}{σA:List (Nat×SV)}{c:Call}{fo:Operand}{fv:SV}{as' all:List SV}{k:SV->List (Nat×TO)->List (Nat×TO)->List Nat->Option β}{res:β}
  (hh:∀k,lookO h k≠.dead->eB hA k=(lookO h k).er) (hc:c.callee=.value fo) (hfo:j3 σA fo=some fv) (has:Cv (j3 σA) c.args.toList=some as') (hfn:Vy fv as'=some (S.f,all))
  (e:ajO C S g id h all k=some res):
  ∃r wk ws ks,k r wk ws ks=some res/\(g=some false→∀p∈wk,lookO h p.1=p.2)/\((g=none\/g=some true)->Does C.P id σA hA (.call c) r (wk++ws) ks):=by
 unfold ajO at e;simp only at e;split at e
 .cases e
 .rename_i v hv;split at e
  .cases e
  .rename_i K hK;have hsrc:=anD hK
   cases hcond:(sZ 0 S.ps.slots&&Nat.beq all.length S.ps.slots.length&&Nat.ble S.ps.objs.length S.rs.objs.length&&nodupB (K++Cr id (S.rs.objs.length-S.ps.objs.length))&&
     (qV S.ps 0 ⟨qQ 0 all,h,0⟩).fz.all (λk=> !(l8 k (K++Cr id (S.rs.objs.length-S.ps.objs.length))))&&Gv (mD (kg h (K++(qV S.ps 0 ⟨qQ 0 all,h,0⟩).fz)) (K++(qV S.ps 0 ⟨qQ 0 all,h,0⟩).fz))&&L8 S.ps.objs&&L8 (S.rs.objs.drop S.ps.objs.length)&&
     (Cr id (S.rs.objs.length-S.ps.objs.length)).all (λk=> !(l8 k (K++(qV S.ps 0 ⟨qQ 0 all,h,0⟩).fz))&&Nat.blt k (id+64))&&(g.isNone||Nat.beq K.length 0||(S.ro.isSome&&yX h K S.ps.objs)||(S.dk&&yX h K S.ps.objs)))with
   |false=>rw[hcond]at e;cases e
   | true=>
    rw[hcond]at e;simp only[aY]at e;have aP4:K.length=S.ps.objs.length:=by have:=congrArg List.length hsrc;rw[U7,kQ]at this;exact this.symm
    obtain⟨r,ro,hk,hF,hro,JM⟩:∃(r:S.β) (ro:Bool),ab3 S g K (Cr id (S.rs.objs.length-S.ps.objs.length)) (bif !S.rs.plain then(qV S.ps 0 ⟨qQ 0 all,h,0⟩).fz else []) (K++(qV S.ps 0 ⟨qQ 0 all,h,0⟩).fz) k ro r=some res∧
      ((g=none\/g=some true)->S.F v=some r)∧
      (ro=true->yX h K S.ps.objs=true/\(gY S.rs.objs (S.g r).2).take S.ps.objs.length=gY S.ps.objs v.2)∧
      (ro=false->g=some false->K=[]\/(S.d v=r/\(S.dk&&yX h K S.ps.objs)=true)):=by
     have hl:(g.isNone||Nat.beq K.length 0||(S.ro.isSome&&yX h K S.ps.objs)||(S.dk&&yX h K S.ps.objs))=true:=(by simp only[dQ]at hcond;exact hcond.2);have hnil:Nat.beq K.length 0=true->K=[]:=λh=>Jf (eG h);clear hcond;cases hq:S.ro with
     |none=>
      rw[hq]at e hl;obtain⟨r,hk,hF,JM⟩:=aoe e;refine⟨r,false,hk,hF,(λh=>by cases h),λ_ hg=> ?_⟩;have hd:=JM hg;subst hg;simp only[Vt,kW,Option.isSome_none,nu,qc,pO]at hl;rcases hl with hl|hl
      .exact .inl (hnil hl)
      .exact .inr ⟨hd,hl⟩
     |some q=>rw[hq]at e hl;obtain⟨x,hk,hF,_⟩:=aoe e;refine⟨q.pr x v,yX h K S.ps.objs,hk,λhg=>by rw[q.hF v,hF hg];rfl,λhe=>⟨he,S.hr q hq v x⟩,λhe hg=> ?_⟩;subst hg;rw[he]at hl;simp only[Vt,kW,Em,qc]at hl;exact .inl (hnil hl)
    unfold ab3 at hk;refine⟨_,_,_,_,hk,λhg=> ?_,λhg=> ?_⟩
    .cases ro with
     |true=>intro p hp;cases hp
     |false=>
      subst hg;simp only[Vt,qc,aX];rcases JM rfl rfl with h0|⟨h0,h1⟩
      .subst h0;intro p hp;cases hp
      .subst h0;exact aKO (g:=false) hsrc hv (by rw[h1];simp)
    have hF:=hF hg;clear e hk JM;simp only[dQ]at hcond;obtain⟨⟨⟨⟨⟨⟨⟨⟨⟨c1,c2⟩,c3⟩,c4⟩,c5⟩,c6⟩,c7⟩,c8⟩,c9⟩,_⟩:=hcond;have hsame:yX h K S.ps.objs=true→∀p∈qE K ((gY S.ps.objs v.2).map (TO.ren (at_ (K++Cr id (S.rs.objs.length-S.ps.objs.length))))),lookO h p.1=p.2:=by
     intro hx;have hv':=hv;unfold dec at hv';simp only at hv';have hv':=aoQ hv';split at hv'
     .rename_i a b h1 h2;cases hv';rw[hsrc]at h2;refine ahy (λj k hk=> ?_) hx h2;rw[mW]at hk;show(K++_)[j]? =some k;rcases hj:K[j]? with _|k';rw[hj]at hk;cases hk;rw[hj]at hk;have:=eG (show Nat.beq k' k=true from hk);subst this;rw[p9 (aiE.1 hj).1];exact hj
     .cases hv'
    have c2:=eG c2;have c3:=qN c3
    have hfit:=ah1 (g:=yT (mD (lD hA (K++(qV S.ps 0 ⟨qQ 0 all,h,0⟩).fz)) (K++(qV S.ps 0 ⟨qQ 0 all,h,0⟩).fz))) (ts:=⟨qQ 0 all,h,0⟩) (by
     intro k hkR hne;have atY:k∈K++(qV S.ps 0 ⟨qQ 0 all,h,0⟩).fz:=by
      rcases hkR with h1|h1
      .exact Vn _ h1
      .rw[hsrc]at h1;obtain⟨q,hq,he⟩:=qw.1 h1;cases he;exact Cj _ hq
     rw[agv atY];unfold lD;rw[uV.2 atY]
     exact hh k hne) hv
    simp only at hfit;generalize hfz:(qV S.ps 0 ⟨qQ 0 all,h,0⟩).fz=fz at*;generalize hLd:Cr id (S.rs.objs.length-S.ps.objs.length)=L at*;rw[hsrc]at hfit;obtain⟨F,FH,hs⟩:=hfit;generalize hR:K++fz=R at*;have hlive:∀k∈R,(kg h R k).live:=by
     intro k hk;have:(k,kg h R k)∈mD (kg h R) R:=by
      clear c6 FH F hs;have:∀(l:List Nat),k∈l->(k,kg h R k)∈mD (kg h R) l:=by intro l;induction l with
       |nil=>intro hl;cases hl
       |cons a l ih=>intro hl;cases hl with|head=>exact qb ..|tail _ hl=>exact ou _ (ih hl)
      exact this R hk
     exact Zx c6 k _ this
    have hcut:∀k∈R,lD hA R k=kg h R k:=λk hk=>ahz hh (λ_ h=>h) k (hlive k hk);have ajF:mD (lD hA R) R=mD (kg h R) R:=(by have:∀(l:List Nat),(∀k∈l,k∈R)->mD (lD hA R) l=mD (kg h R) l:=(by intro l;induction l with|nil=>intro _;rfl|cons a l ih=>intro hl;simp only[mD];rw[hcut a (hl a (qb ..)),ih (λk hk=>hl k (ou _ hk))]);exact this R (λ_ h=>h));have hgR:∀k∈R,yT (mD (lD hA R) R) k=kg h R k:=λk hk=>(by rw[agv hk,hcut k hk]);have hKR:∀k∈K,k∈R:=λk hk=>(by rw[<-hR];exact Cj _ hk);have hfR:∀k∈fz,k∈R:=λk hk=>(by rw[<-hR];exact Vn _ hk);have hLn:∀k∈L,k ∉ R/\id<=k/\k<id+64:=by
     intro k hk;have:=(j6.1 c9) k hk;simp only[dQ,wQ]at this;refine⟨λhr=> ?_,apa (hLd▸hk),?_⟩
     .rw[uV.2 hr]at this;cases this.1
     .have h2:=this.2;simp only[Nat.blt]at h2;exact qN h2
    have hargs:jY (CJ (yT (mD (lD hA R) R)) ((gY S.ps.objs v.2).map TO.er) (K.map some) (· ∈fz)) all ((kN S.ps.slots v.1).map (·.2)):=(by refine aqp (by rw[kQ,aaP];exact c2) (λi b hb=> ?_);have h1:=ah2 v.1 c1 i b hb;rw[nM]at h1;obtain⟨s,h2,h3⟩:=aaN F hs i b h1;exact⟨s,(aha h2).2,h3⟩);have hKl:K.length=S.ps.objs.length:=(by have:=FH.len;rw[kQ,kQ,Gl]at this;exact this);have hk2:(K++L).length=((gY S.rs.objs (S.g r).2).map TO.er).length:=by rw[qp,kQ,Gl,<-hLd,aoq,hKl];omega
    have hP:=aH6 (objs:=mD (lD hA R) R) K L fz (!S.rs.plain) hS.1 (hS.2 v r hF) FH hargs hk2 c4
     (λk hk=>⟨λhm=>(by have:=(j6.1 c5) k hk;rw[uV.2 hm]at this;cases this),by rw[hgR k (hfR k hk)];exact hlive k (hfR k hk)⟩)
     (λk hk=>by rw[hgR k (hKR k hk)];exact hlive k (hKR k hk))
     (by
      obtain⟨u,hu⟩:=apH S.rs.objs (S.g r).2 K.length;rw[<-List.map_drop,hu]
      exact apf u (by rw[hKl];exact c8))
     (λk hk=>by
      rw[agL];rcases hb:l8 k R with _|_;rfl
      exact absurd (uV.1 hb) (hLn k hk).1)
     (by
      rcases hp:S.rs.plain with _|_;exact .inl rfl;right;simp only[Shape.plain,dQ]at hp
      exact⟨aGA (aoW _ hp.1),aoU _ hp.2⟩)
    have hws:jJ (qE (K++L) ((gY S.rs.objs (S.g r).2).map (TO.ren (at_ (K++L))))++Jq (bif !S.rs.plain then fz else []))=xu (K++L) (((gY S.rs.objs (S.g r).2).map TO.er).map (aU.ren (at_ (K++L))))++Er (bif !S.rs.plain then fz else []):=(by rw[ah3,aqD,apK]);have hkeys:∀k o,(k,o)∈xu (K++L) (((gY S.rs.objs (S.g r).2).map TO.er).map (aU.ren (at_ (K++L))))++Er (bif !S.rs.plain then fz else [])->k∈R\/(id<=k/\k<id+64):=by
     intro k o hm;rcases oU.1 hm with hm|hm
     .rcases oU.1 (aFH hm)with h1|h1
      .exact .inl (hKR k h1)
      .exact .inr (hLn k h1).2
     .have:=(ag4 hm).1;rcases hp:S.rs.plain with _|_;rw[hp]at this;exact .inl (hfR k this);rw[hp]at this;exact absurd this nU
    rw[<-hws]at hP hkeys;clear hws;generalize SV.ren (at_ (K++L)) (Ez (kN S.rs.slots (S.g r).1))=rr at hP⊢;have fin:∀W:List (Nat×TO),Gz C.P S.f all (mD (lD hA R) R) rr (jJ W)->(∀k o,(k,o)∈jJ W->k∈R\/(id<=k/\k<id+64))->Does C.P id σA hA (.call c) rr W R:=by
     intro W hP hkeys;have hrd:readsOf σA (.call c) (some (.call rr R (jJ W)))=R:=(by unfold readsOf;simp only[Ch,hc,aX,ail]);refine⟨some (.call rr R (jJ W)),{r:=rr,ws:=jJ W,cs:=[Gz C.P S.f all (mD (lD hA R) R) rr (jJ W)]},?_,λq hq=> ?_,rfl,rfl,rfl,?_⟩
     .rw[hrd];simp only[p8,hc,hfo,has,hfn]
      rw[ajF,c6,Gx,apV (λk o hm=>by
       rcases hkeys k o hm with h1|h1
       .left;rw[agL];exact uV.2 h1
       .exact .inr h1)]
      rfl
     .simp only[Ck,nU,sH]at hq;subst hq;exact hP
     .rw[hrd];refine ao1 (λk o hm=> ?_);rcases hkeys k o hm with h1|h1
      .left;rw[hcut k h1];exact hlive k h1
      .exact .inr h1
    have htk:((gY S.rs.objs (S.g r).2).map (TO.ren (at_ (K++L)))).length=(K++L).length:=(by rw[hk2,kQ,kQ]);cases ro with
    |false=>
     have aMM:(bif false||g.isNone then([]:List (Nat×TO))else qE K (((gY S.rs.objs (S.g r).2).map (TO.ren (at_ (K++L)))).take S.ps.objs.length))++
       ((bif false then qE L (((gY S.rs.objs (S.g r).2).map (TO.ren (at_ (K++L)))).drop S.ps.objs.length)else bif g.isNone then qE (K++L) ((gY S.rs.objs (S.g r).2).map (TO.ren (at_ (K++L))))else qE L (((gY S.rs.objs (S.g r).2).map (TO.ren (at_ (K++L)))).drop S.ps.objs.length))++Jq (bif !S.rs.plain then fz else []))=
       qE (K++L) ((gY S.rs.objs (S.g r).2).map (TO.ren (at_ (K++L))))++Jq (bif !S.rs.plain then fz else []):=by
      rcases g with _|g;rfl;simp only[Vt,qc,aX];rw[<-rH,<-hKl,agY]
     rw[aMM];exact fin _ hP hkeys
    |true=>
     obtain⟨hx,htake⟩:=hro rfl;rw[<-agY,hKl,rH,ah3]at hP hkeys;show Does C.P id σA hA (.call c) rr ([]++(qE L (((gY S.rs.objs (S.g r).2).map (TO.ren (at_ (K++L)))).drop S.ps.objs.length)++Jq (bif !S.rs.plain then fz else []))) R;rw[zq];refine fin _ (Gz.drop hP (λk o hk=> ?_)) (λk o hk=>hkeys k o (Vn _ hk));rw[<-aa8,htake]at hk;obtain⟨p,hp,hpe⟩:=qw.1 hk;cases hpe;have hl:=hsame hx p hp;have hpK:p.1∈K:=by
      have:∀(K:List Nat) (l:List TO) (p:Nat×TO),p∈qE K l->p.1∈K:=by intro K;induction K with
       |nil=>intro l p hp;cases hp
       |cons a K ih=>intro l p hp;rcases l with _|⟨o,l⟩;cases hp;cases hp with|head=>exact qb ..|tail _ hp=>exact ou _ (ih l p hp)
      exact this _ _ _ hp
     have hR':=hKR p.1 hpK;have:∀(l:List Nat),p.1∈l->(p.1,lD hA R p.1)∈mD (lD hA R) l:=by intro l;induction l with
      |nil=>intro hl;cases hl
      |cons a l ih=>intro hl;cases hl with|head=>exact qb ..|tail _ hl=>exact ou _ (ih hl)
     have h2:=this R hR';rw[hcut p.1 hR',show kg h R p.1=(lookO h p.1).er from by unfold kg;rw[uV.2 hR'];rfl,hl]at h2;exact h2
theorem asb{β:Type}{C:Cx}(hT:∀S∈C.T,kR C.P S){site:Nat×Nat}{g:Option Bool}{id:Nat}{σr σA:List (Nat×SV)}{h:List (Nat×TO)}{hA:List aU}{op:Op}{k:SV->List (Nat×TO)->List (Nat×TO)->List Nat->Option β}{res:β}
  (hl:∀x s,look σr x=some s->look σA x=some s) (hm:∀p∈σr,p∈σA) (hh:∀k,lookO h k≠.dead->eB hA k=(lookO h k).er)
  (e:tOp C site g id σr h op k=some res):∃r wk ws ks,k r wk ws ks=some res/\(g=some false→∀p∈wk,lookO h p.1=p.2)/\((g=none\/g=some true)->Does C.P id σA hA op r (wk++ws) ks):=by
 have hx:tX C g id σr h op k=some res→∃r wk ws ks,k r wk ws ks=some res/\(g=some false→∀p∈wk,lookO h p.1=p.2)/\((g=none\/g=some true)->Does C.P id σA hA op r (wk++ws) ks):=by
  intro e;unfold tX at e;split at e
  .cases e
  .rename_i ef he;split at e
   .rename_i ws ht;cases hk:tF id (kg h (readsOf σr op none)) (jJ ws)with
    |false=>rw[hk]at e;cases e
    |true=>rw[hk]at e;obtain⟨h1,h2⟩:=Z8 (show GK g ef.bs (k ef.r [] ws [])=some res from e);exact⟨ef.r,[],ws,[],h1,λ_ p hp=>(absurd hp nU),λhg=>aM5 hl hm hh he (h2 hg) ht hk⟩
   .cases e
 have hd:(match evalOp C.P id (j3 σr) (kg h (readsOf σr op none)) op with
  |none=>tX C g id σr h op k
  |some e=>match typed C σr h id op e with
   |none=>none
   |some (r,ws)=>bif tF id (kg h (readsOf σr op none)) (jJ ws)then GK g e.bs (k r [] ws [])else none)=some res→∃r wk ws ks,k r wk ws ks=some res/\(g=some false→∀p∈wk,lookO h p.1=p.2)/\((g=none\/g=some true)->Does C.P id σA hA op r (wk++ws) ks):=by
  intro e;split at e
  .exact hx e
  .rename_i ef he;split at e
   .cases e
   .rename_i r ws ht;cases hk:tF id (kg h (readsOf σr op none)) (jJ ws)with
    |false=>rw[hk]at e;cases e
    |true=>rw[hk]at e;obtain⟨h1,h2⟩:=Z8 (show GK g ef.bs (k r [] ws [])=some res from e);exact⟨r,[],ws,[],h1,λ_ p hp=>(absurd hp nU),λhg=>aJW hl hm hh he (h2 hg) ht hk⟩
 unfold tOp at e;simp only at e;split at e
 .rename_i c;split at e
  .rename_i fo hfo;split at e
   .rename_i fv as' h1 h2;split at e
    .rename_i f all h3;split at e
     .rename_i S hS;rcases hf:Nat.beq S.f f with _|_;rw[hf]at e;cases e;rw[hf]at e;simp only[aY]at e;have:=eG hf;subst this;have hmem:S∈C.T:=by
       unfold Cx.spec at hS;split at hS
       .exact rJ hS
       .have:∀(f:FuncId) (l:List aS),abH f l=some S->S∈l:=by intro f l;induction l with
         |nil=>intro h;cases h
         |cons a l ih=>intro h;simp only[abH]at h;cases hb:Nat.beq a.f f with
          |true=>rw[hb]at h;cases h;exact qb ..
          |false=>rw[hb]at h;exact ou _ (ih h)
        exact this _ _ hS
      exact aJD (hT S hmem) hh hfo (aaV hl _ _ h1) (aqr (aaV hl) h2) h3 e
     .cases e
    .cases e
   .cases e
  .exact hd e
 .exact hd e
end
abbrev Path:=List (Nat×Bool)
structure RS where
 σ:List (Nat×Path×SV)
 h:List (Nat×Path×TO)
def rR:List (Nat×Path×SV)->Nat->Option (Path×SV)
 | [],_=>none
 |(i,q)::r,t=>bif Nat.beq i t then some q else rR r t
def qG:List (Nat×Path×TO)->Nat->Option (Path×TO)
 | [],_=>none
 |(i,q)::r,t=>bif Nat.beq i t then some q else qG r t
def eqE:Nat×Bool->Nat×Bool->Bool
 |(a,x),(b,y)=>Nat.beq a b&&(x==y)
def aMP(e:Nat×Bool)(π:Path):Bool:=π.any (eqE e)
def xq(π' π:Path):Bool:=π'.all λe=>aMP e π
def BA(π:Path):List (Nat×Path×TO)->List (Nat×TO)
 | []=> []
 |(k,π',o)::r=>(k,bif xq π' π then o else .dead)::BA π r
def CQ(σ:List (Nat×Path×SV))(π:Path):List Nat->List (Nat×SV)
 | []=> []
 |x::r=>match rR σ x with
  |some (π',s)=>bif xq π' π then(x,s)::CQ σ π r else CQ σ π r
  |none=>CQ σ π r
def EA(σ:List (Nat×Path×SV)):List Nat->List Nat
 | []=> []
 |x::r=>match rR σ x with
  |some (_,s)=>s.refs++EA σ r
  |none=>EA σ r
def Ab:SV->Option Bool
 | .one (.s (.c (.val (.bool b))))=>some b
 |_=>none
def Wl(σ:List (Nat×Path×SV)):Path->Option (Option Bool)
 | []=>some none
 | (d,w)::r=>match rR σ d with
  |some (_,s)=>match Ab s with
   |some b=>match Wl σ r with
    |some none=>some (some (bif w then b else !b))
    |some (some g)=>some (some (g&&(bif w then b else !b)))
    |none=>none
   |none=>none
  |none=>none
def ajC(ops:Array Oper)(σ:List (Nat×Path×SV)):Option (Nat×Bool)->Option (Path×Option Bool)
 |none=>some ([],none)
 |some (j,want)=>match(ops[j]?).bind (·.dst)with
  |some d=>match rR σ d with
   |some (π,_)=>match Wl σ ((d,want)::π)with
    |some g=>some ((d,want)::π,g)
    |none=>none
   |none=>none
  |none=>none
def EX(σ:List (Nat×Path×SV))(π:Path):Operand->Option SV
 | .tmp t=>match rR σ t with
  |some (π',s)=>bif xq π' π then some s else none
  |none=>none
 | .const v=>some (.one (Jt v))
 |_=>none
def ai8(c:Bool):SV->SV->Option SV
 | .one (.s (.c (.val (.bool a)))),.one (.s (.c (.val (.bool b))))=>some (fP (.bool (bif c then a else b)))
 | .one (.s (.c (.val (.int k a)))),.one (.s (.c (.val (.int k' b))))=>if k=k' then some (fP (.int k (bif c then a else b)))else none
 |_,_=>none
def abZ(σ:List (Nat×Path×SV))(π:Path)(c a b:Operand):Option SV:=
 match c with
 | .tmp t=>match EX σ π c,EX σ ((t,true)::π) a,EX σ ((t,false)::π) b with
  |some cv,some av,some bv=>match Ab cv with
   |some cb=>ai8 cb av bv
   |none=>none
  |_,_,_=>none
 |_=>none
def JU(d:Nat)(π:Path):Bool:=π.all λe=> !(Nat.beq e.1 d)
def Bz(σ:List (Nat×Path×SV))(d:Option Nat)(π:Path)(s:SV):List (Nat×Path×SV):=
 match d with
 |some d=>(d,π,s)::σ
 |none=>σ
def EK(d:Option Nat)(σ:List (Nat×Path×SV))(h:List (Nat×Path×TO))(π:Path):Bool:=
 match d with
 |some d=>JU d π&&σ.all (λp=>JU d p.2.1)&&h.all (λp=>JU d p.2.1)
 |none=>true
def Hz(N:Nat)(π:Path):List (Nat×Path×TO)->List (Nat×TO)->Option (List (Nat×Path×TO))
 |h,[]=>some h
 |h,(k,o)::r=>bif Nat.blt k N then(match qG h k with
  |some (π',_)=>bif xq π π'&&xq π' π then Hz N π ((k,π',o)::h) r else none
  |none=>Hz N π ((k,π,o)::h) r)else none
def JX(N:Nat)(π:Path):List (Nat×Path×TO)->List (Nat×TO)->Option (List (Nat×Path×TO))
 |h,[]=>some h
 |h,(k,o)::r=>bif Nat.blt k N then(match qG h k with
  |some (π',_)=>bif xq π' π then JX N π ((k,π',o)::h) r else none
  |none=>none)else none
def QI:List (Nat×Path×SV)->List (Nat×SV)
 | []=> []
 |(x,[],s)::r=>(x,s)::del (QI r) x
 |(x,_::_,_)::r=>del (QI r) x
def EY:List (Nat×Path×TO)->List (Nat×TO)
 | []=> []
 |(k,[],o)::r=>(k,o)::EY r
 |(k,_::_,_)::r=>(k,.dead)::EY r
def knT(gs:List Nat)(ops:Array Oper)(t:Nat):Bool:=gs.any λj=>match(ops[j]?).bind (·.dst)with
 |some d=>Nat.beq d t
 |none=>false
def knB(σ:List (Nat×Path×SV))(t:Nat):Option Bool:=
 match rR σ t with
 |some ([],s)=>Ab s
 |_=>none
def ai4(gs:List Nat)(ops:Array Oper)(σ:List (Nat×Path×SV)):Option (Nat×Bool)->Option Bool
 |some (j,want)=>bif l8 j gs then(match(ops[j]?).bind (·.dst)with
  |some d=>match knB σ d with
   |some b=>some (bif want then b else !b)
   |none=>none
  |none=>none)else none
 |none=>none
def abY(gs:List Nat)(ops:Array Oper)(σ:List (Nat×Path×SV))(π:Path)(c a b:Operand):Option SV:=
 match c with
 | .tmp t=>bif knT gs ops t then(match knB σ t with
  |some cb=>bif cb then EX σ π a else EX σ π b
  |none=>none)else abZ σ π c a b
 |_=>abZ σ π c a b
section
variable {β:Type} (C:Cx) (rid:Nat) (ops:Array Oper) (base:Nat) (gs:List Nat)
def JG :List Oper->Nat->RS->List (List Nat×List Nat)->(RS->List (List Nat×List Nat)->Option β)->Option β
 | [],_,rs,fp,k=>k rs fp
 | o :: r,i,rs,fp,k=>
  bif Es C.nt o.dst then
   let main:Path->Option Bool->Option β:=λπ g=>
    let next:SV->List (Nat×TO)->List (Nat×TO)->List Nat->Option β:=λs wk ws ks=>
     let cont:SV->Option β:=λs=>
      match JX (base+64*ops.size) π rs.h wk with
      |none=>none
      |some h1=>
      match Hz (base+64*ops.size) π h1 ws with
      |none=>none
      |some h'=>bif EK o.dst rs.σ h' π&&nodupB (wk.map (·.1))then
        JG r (i+1) ⟨Bz rs.σ o.dst π s,h'⟩ (fp++ [(bif Ch o.op then EA rs.σ (o.looksAt ops)else ks,(wk++ws).map (·.1))]) k
       else none
     bif l8 i gs then(match Ab s with
      |some b=>bif b then cont (fP (.bool true))else cont (fP (.bool false))
      |none=>none)else cont s
    match o.op with
    | .pick c a b=>match abY gs ops rs.σ π c a b with
     |some s=>next s [] [] []
     |none=>none
    |op=>tOp C (rid,i) g (base+64*i) (CQ rs.σ π (o.looksAt ops)) (BA π rs.h) op next
   match ai4 gs ops rs.σ o.guard with
   |some gb=>bif gb then main [] none else
     (bif EK o.dst rs.σ rs.h []then JG r (i+1) ⟨Bz rs.σ o.dst [] (fP undef),rs.h⟩ (fp++ [([],[])]) k else none)
   |none=>match ajC ops rs.σ o.guard with
    |none=>none
    |some (π,g)=>main π g
  else none
end
def uQ{β:Type}(C:Cx)(gs:List Nat)(id:Nat)(ops:Array Oper)(any:Bool)(ts:TS)(k:TS->Option β):Option β:=
 JG C id ops ts.n gs ops.toList 0 ⟨ts.σ.map (λp=>(p.1,[],p.2)),ts.h.map (λp=>(p.1,[],p.2))⟩ [] λrs fp=>
  bif !any||(C.P.follows .mixedOrders&&GH ops fp)then k ⟨QI rs.σ,EY rs.h,ts.n+64*ops.size⟩else none
def onE(σ:List (Nat×Path×SV))(e:Nat×Bool):Bool:=
 match rR σ e.1 with
 |some (_,s)=>match Ab s with
  |some b=>b==e.2
  |none=>false
 |none=>false
def on(σ:List (Nat×Path×SV))(π:Path):Bool:=π.all (onE σ)
theorem Uk{s:SV}{b:Bool}(h:Ab s=some b):s=fP (.bool b):=by
 unfold Ab at h;split at h
 .cases h;rfl
 .cases h
theorem aI5{a b:Nat×Bool}(h:eqE a b=true):a=b:=by obtain⟨a,x⟩:=a;obtain⟨b,y⟩:=b;simp only[eqE,dQ,Cn]at h;have:=eG h.1;subst this;rw[h.2]
theorem PV{σ:List (Nat×Path×SV)}{π' π:Path}(h:xq π' π=true)(ho:on σ π=true):on σ π'=true:=by unfold on at ho⊢;rw[j6]at ho⊢;intro e he;have:=(j6.1 h) e he;obtain⟨e',he',h2⟩:=Vl.1 this;rw[aI5 h2];exact ho e' he'
theorem aif{σ:List (Nat×Path×SV)}{d:Option Nat}{π:Path}{s:SV}{x:Nat}:rR (Bz σ d π s) x=if d=some x then some (π,s)else rR σ x:=by rcases d with _|d;simp[Bz];simp only[Bz,rR];cases hb:Nat.beq d x with
 |true=>have:=eG hb;subst this;simp
 |false=>
  have:d≠x:=λe=>by subst e;rw[oW]at hb;cases hb
  simp[this]
theorem aLl{σ:List (Nat×Path×SV)}{d:Option Nat}{π π':Path}{s:SV}(h:∀x,d=some x->JU x π'=true):on (Bz σ d π s) π'=on σ π':=by
 unfold on;rw[PZ,j6,j6];have:∀e∈π',onE (Bz σ d π s) e=onE σ e:=by intro e he;unfold onE;rw[aif,dn];intro hd;have:=(j6.1 (h e.1 hd)) e he;simp at this
 exact⟨λhh e he=>by rw[<-this e he];exact hh e he,λhh e he=>by rw[this e he];exact hh e he⟩
structure qX(N:Nat)(rs:RS)(σA:List (Nat×SV))(hA:List aU):Prop where
 slot:∀x π s,rR rs.σ x=some (π,s)->look σA x=some (bif on rs.σ π then s else fP undef)
 back:∀x s,look σA x=some s→∃π s',rR rs.σ x=some (π,s')
 len:hA.length=N
 heap:∀k,k<N->hA[k]? =some (match qG rs.h k with|some (π,o)=>(bif on rs.σ π then o.er else .dead)|none=> .dead)
 far:∀k,N<=k→∀π o,qG rs.h k=some (π,o)->o=.dead
theorem U3{h:List (Nat×Path×TO)}{k x:Nat}{q:Path×TO}:qG ((k,q)::h) x=if k=x then some q else qG h x:=by simp only[qG];cases hb:Nat.beq k x with
 |true=>have:=eG hb;subst this;simp
 |false=>
  have:k≠x:=λe=>by subst e;rw[oW]at hb;cases hb
  simp[this]
theorem ag9{π:Path}:∀{h:List (Nat×Path×TO)} {k:Nat},lookO (BA π h) k=match qG h k with|some (π',o)=>(bif xq π' π then o else .dead)|none=> .dead
 | [],k=>rfl
 |(j,π',o)::r,k=>by simp only[BA,lookO,qG];cases hb:Nat.beq j k with|true=>rfl|false=>exact ag9
theorem aji{N:Nat}{π:Path}:∀{ws:List (Nat×TO)} {rs:RS} {σA:List (Nat×SV)} {hA:List aU} {h':List (Nat×Path×TO)},qX N rs σA hA->Hz N π rs.h ws=some h'→
  qX N ⟨rs.σ,h'⟩ σA (bif on rs.σ π then eX hA (jJ ws)else hA)
 | [],rs,σA,hA,h',R,e=>by simp only[Hz,lu]at e;subst e;cases on rs.σ π<;>exact R
 | (k, o)::ws,rs,σA,hA,h',R,e=>by
  simp only[Hz]at e;rcases hkN:Nat.blt k N with _|_;rw[hkN]at e;cases e;rw[hkN]at e;simp only[aY]at e;have hkN:k<N:=by simp only[Nat.blt]at hkN;exact qN hkN
  -- one write
  have one:∀π1,on rs.σ π1=on rs.σ π->(on rs.σ π=false→∀π' o',qG rs.h k=some (π',o')->on rs.σ π'=false)->qX N ⟨rs.σ,(k,π1,o)::rs.h⟩ σA (bif on rs.σ π then hA.set k o.er else hA):=by
   intro π1 h1 h2;refine⟨R.slot,R.back,?_,λj hj=> ?_,λj hj π' o' hl=> ?_⟩
   .cases on rs.σ π<;>simp[R.len]
   .simp only[U3];by_cases hkj:k=j
    .subst hkj;simp only[l5,h1];cases ho:on rs.σ π with|true=>simp only[aY];rw[uq (by rw[R.len];exact hkN)]|false=>simp only[aX];rw[R.heap k hkN];rcases hl:qG rs.h k with _|q;rfl;obtain⟨π',o'⟩:=q;simp only[h2 ho π' o' hl,aX]
    .simp only[dn hkj];have:=R.heap j hj;cases ho:on rs.σ π with|true=>simp only[aY];rw[su hkj];exact this|false=>exact this
   .simp only[U3]at hl;rw[dn ah]at hl;exact R.far j hj π' o' hl
  split at e
  .rename_i π' o' hl;rcases hb:xq π π'&&xq π' π with _|_;rw[hb]at e;cases e;rw[hb]at e;simp only[dQ]at hb;have heq:on rs.σ π'=on rs.σ π:=by cases h1:on rs.σ π with
    |true=>exact PV hb.2 h1
    |false=>rcases h2:on rs.σ π' with _|_;rfl;rw[PV hb.1 h2]at h1;cases h1
   have R1:=one π' heq (λh0 π2 o2 hl2=>by rw[hl]at hl2;cases hl2;rw[heq];exact h0);have:=aji (ws:=ws) R1 e;cases ho:on rs.σ π with|true=>rw[ho]at this;simp only[aY]at this⊢;exact this|false=>rw[ho]at this;simpa using this
  .rename_i hl;have R1:=one π rfl (λ_ π2 o2 hl2=>by rw[hl]at hl2;cases hl2);have:=aji (ws:=ws) R1 e;cases ho:on rs.σ π with|true=>rw[ho]at this;simp only[aY]at this⊢;exact this|false=>rw[ho]at this;simpa using this
theorem ash{N:Nat}{π:Path}{h0:List (Nat×TO)}:∀{ws:List (Nat×TO)} {rs:RS} {σA:List (Nat×SV)} {hA:List aU} {h':List (Nat×Path×TO)},qX N rs σA hA->JX N π rs.h ws=some h'->nodupB (ws.map (·.1))=true→
  (on rs.σ π=false→∀p∈ws,∀π' o,qG rs.h p.1=some (π',o)->xq π' π=true->o=p.2)→
  qX N ⟨rs.σ,h'⟩ σA (bif on rs.σ π then eX hA (jJ ws)else hA)
 | [],rs,σA,hA,h',R,e,_,_=>by simp only[JX,lu]at e;subst e;cases on rs.σ π<;>exact R
 | (k, o)::ws,rs,σA,hA,h',R,e,hnd,hkeep=>by
  simp only[JX]at e;rcases hkN:Nat.blt k N with _|_;rw[hkN]at e;cases e;rw[hkN]at e;simp only[aY]at e;have hkN:k<N:=by simp only[Nat.blt]at hkN;exact qN hkN
  split at e
  .rename_i π' o' hl;rcases hb:xq π' π with _|_;rw[hb]at e;cases e;rw[hb]at e;simp only[aY]at e;simp only[mH,nodupB,dQ,wQ]at hnd;have R1:qX N ⟨rs.σ,(k,π',o)::rs.h⟩ σA (bif on rs.σ π then hA.set k o.er else hA):=by
    refine⟨R.slot,R.back,?_,λj hj=> ?_,λj hj π2 o2 hl2=> ?_⟩
    .cases on rs.σ π<;>simp[R.len]
    .simp only[U3];by_cases hkj:k=j
     .subst hkj;simp only[l5];cases ho:on rs.σ π with|true=>simp only[aY,PV hb ho];rw[uq (by rw[R.len];exact hkN)]|false=>simp only[aX];rw[R.heap k hkN,hl];have:=hkeep ho (k,o) (qb ..) π' o' hl hb;simp only at this;subst this;rfl
     .simp only[dn hkj];have:=R.heap j hj;cases ho:on rs.σ π with|true=>simp only[aY];rw[su hkj];exact this|false=>exact this
    .simp only[U3]at hl2;rw[dn ah]at hl2;exact R.far j hj π2 o2 hl2
   have:=ash (h0:=h0) (ws:=ws) R1 e hnd.2 (λho p hp π2 o2 hl2 hs=>by
    have hne:k≠p.1:=λhe=>(by have:l8 k (ws.map (·.1))=true:=uV.2 (by rw[he];exact qw.2 ⟨p,hp,rfl⟩);rw[this]at hnd;cases hnd.1);simp only[U3,dn hne]at hl2
    exact hkeep ho p (ou _ hp) π2 o2 hl2 hs)
   cases ho:on rs.σ π with|true=>rw[ho]at this;simp only[aY]at this⊢;exact this|false=>rw[ho]at this;simpa using this
  .cases e
theorem aIm{d:Option Nat}{σ:List (Nat×Path×SV)}{h:List (Nat×Path×TO)}{π:Path}(e:EK d σ h π=true):∀x,d=some x->JU x π=true/\(∀y π' s,rR σ y=some (π',s)->JU x π'=true)/\(∀y π' o,qG h y=some (π',o)->JU x π'=true):=by
 rintro x rfl;simp only[EK,dQ]at e;refine⟨e.1.1,λy π' s hl=> ?_,λy π' o hl=> ?_⟩
 .have hs:=e.1.2;clear e;induction σ with
  |nil=>cases hl
  |cons a r ih=>simp only[wS,dQ]at hs;obtain⟨i,q⟩:=a;simp only[rR]at hl;cases hb:Nat.beq i y with
   |true=>rw[hb]at hl;cases hl;exact hs.1
   |false=>rw[hb]at hl;exact ih hl hs.2
 .have hs:=e.2;clear e;induction h with
  |nil=>cases hl
  |cons a r ih=>simp only[wS,dQ]at hs;obtain⟨i,q⟩:=a;simp only[qG]at hl;cases hb:Nat.beq i y with
   |true=>rw[hb]at hl;cases hl;exact hs.1
   |false=>rw[hb]at hl;exact ih hl hs.2
theorem VG{N:Nat}{rs:RS}{σA:List (Nat×SV)}{hA:List aU}{d:Option Nat}{π:Path}{s:SV}(R:qX N rs σA hA)(hd:EK d rs.σ rs.h π=true):
  qX N ⟨Bz rs.σ d π s,rs.h⟩ (mQ σA d (bif on rs.σ π then s else fP undef)) hA:=by
 have H:=aIm hd;have hon:∀π',(∀x,d=some x->JU x π'=true)->on (Bz rs.σ d π s) π'=on rs.σ π':=λπ' h=>aLl h;refine⟨λx π' s' hl=> ?_,λx s' hx=> ?_,R.len,λk hk=> ?_,R.far⟩
 .simp only[aif]at hl;rw[uW];split at hl
  .rename_i Dj;cases hl;rw[bW Dj,hon π (λx h=>(H x h).1)]
  .rename_i Dj;rw[dn Dj,hon π' (λy h=>(H y h).2.1 x π' s' hl)];exact R.slot x π' s' hl
 .rw[uW]at hx;simp only[aif];split at hx
  .rename_i Dj;rw[bW Dj];exact⟨π,s,rfl⟩
  .rename_i Dj;rw[dn Dj];exact R.back x s' hx
 .rw[R.heap k hk];rcases hl:qG rs.h k with _|q;rfl;obtain⟨π',o⟩:=q;simp only[hon π' (λy h=>(H y h).2.2 k π' o hl)]
theorem ahY{σ:List (Nat×SV)}{x:Nat}{s:SV}:∀{L:List Nat},x∈L->look σ x=some s->(x,s)∈cut σ L
 |y::L,hm,hl=>by simp only[cut];cases hm with|head=>rw[hl];exact qb ..|tail _ hm=>rcases look σ y with _|u;exact ahY hm hl;exact ou _ (ahY hm hl)
theorem Ve{σ:List (Nat×SV)}{x:Nat}{s:SV}:∀{L:List Nat},(x,s)∈cut σ L->x∈L/\look σ x=some s
 | [],h=>by cases h
 |y::L,h=>by simp only[cut]at h;rcases hy:look σ y with _|u;rw[hy]at h;exact⟨ou _ (Ve h).1,(Ve h).2⟩;rw[hy]at h;cases h with|head=>exact⟨qb ..,hy⟩|tail _ h=>exact⟨ou _ (Ve h).1,(Ve h).2⟩
theorem Ld{σ:List (Nat×Path×SV)}{π:Path}{x:Nat}{s:SV}:∀{L:List Nat},(x,s)∈CQ σ π L->x∈L∧∃π',rR σ x=some (π',s)/\xq π' π=true
 | [],h=>by cases h
 |y::L,h=>by
  simp only[CQ]at h;split at h
  .rename_i π' u hl;cases hb:xq π' π with
   |true=>rw[hb]at h;cases h with|head=>exact⟨qb ..,π',hl,hb⟩|tail _ h=>exact⟨ou _ (Ld h).1,(Ld h).2⟩
   |false=>rw[hb]at h;exact⟨ou _ (Ld h).1,(Ld h).2⟩
  .exact⟨ou _ (Ld h).1,(Ld h).2⟩
theorem apS{x:Nat}{s:SV}:∀{σ:List (Nat×SV)},look σ x=some s->(x,s)∈σ
 |(i,u)::r,h=>by simp only[look]at h;cases hb:Nat.beq i x with
  |true=>rw[hb]at h;cases h;have:=eG hb;subst this;exact qb ..
  |false=>rw[hb]at h;exact ou _ (apS h)
theorem ahi{σ:List (Nat×Path×SV)}{x k:Nat}{π:Path}{s:SV}:∀{L:List Nat},x∈L->rR σ x=some (π,s)->k∈s.refs->k∈EA σ L
 |y::L,hm,hl,hk=>by simp only[EA];cases hm with
  |head=>rw[hl];exact Cj _ hk
  |tail _ hm=>
   split
   .exact Vn _ (ahi hm hl hk)
   .exact ahi hm hl hk
section
variable {N:Nat} {rs:RS} {σA:List (Nat×SV)} {hA:List aU}
theorem qX.sub(R:qX N rs σA hA){π:Path}(ho:on rs.σ π=true){L:List Nat}:(∀p∈CQ rs.σ π L,p∈cut σA L)∧∀x s,look (CQ rs.σ π L) x=some s->look (cut σA L) x=some s:=by
 have key:∀x s,(x,s)∈CQ rs.σ π L->x∈L/\look σA x=some s:=by intro x s hm;obtain⟨h1,π',h2,h3⟩:=Ld hm;refine⟨h1,?_⟩;rw[R.slot x π' s h2,PV h3 ho];rfl
 exact⟨λp hp=>ahY (key p.1 p.2 hp).1 (key p.1 p.2 hp).2,λx s hl=>by
  obtain⟨h1,h2⟩:=key x s (apS hl)
  rw[IV _ _ _ h1];exact h2⟩
theorem qX.see(R:qX N rs σA hA){π:Path}(ho:on rs.σ π=true):∀k,lookO (BA π rs.h) k≠.dead->eB hA k=(lookO (BA π rs.h) k).er:=by
 intro k hk;rw[ag9]at hk⊢;rcases hl:qG rs.h k with _|q;rw[hl]at hk;exact absurd rfl hk;obtain⟨π',o⟩:=q;rw[hl]at hk;simp only at hk⊢;rcases hb:xq π' π with _|_;rw[hb]at hk;exact absurd rfl hk;rw[hb]at hk;simp only[aY]at hk⊢;have hkN:k<N:=by
  rcases mI k N with h|h
  .exact h
  .exact absurd (R.far k h π' o hl) hk
 unfold eB;rw[R.heap k hkN,hl];simp only[PV hb ho,aY,Lp]
theorem ah9{σ:List (Nat×Path×SV)}:∀{π:Path} {g:Option Bool},Wl σ π=some g->(on σ π=true->g=none\/g=some true)/\(on σ π=false->g=some false)
 | [],g,e=>by cases e;exact⟨λ_=> .inl rfl,λh=>by cases h⟩
 | (d,w)::r,g,e=>by
  simp only[Wl]at e;split at e
  .rename_i π' s hl;split at e
   .rename_i b hb;have hon:on σ ((d,w)::r)=((b==w)&&on σ r):=(by show(onE σ (d,w)&&on σ r)=_;unfold onE;rw[hl];simp only[hb]);rw[hon];split at e
    .rename_i hr;cases e;have:=ah9 hr;rcases ho:on σ r with _|_;have:=this.2 ho;cases this;cases b<;>cases w<;>simp
    .rename_i g' hr;cases e;have:=ah9 hr;rcases ho:on σ r with _|_;have:=this.2 ho;cases this;simp;rcases this.1 ho with h|h
     .cases h
     .cases h;cases b<;>cases w<;>simp
    .cases e
   .cases e
  .cases e
theorem aI8(R:qX N rs σA hA){ops:Array Oper}{o:Oper}{π:Path}{g:Option Bool}(e:ajC ops rs.σ o.guard=some (π,g)):
  CR ops (cut σA (o.looksAt ops)) o.guard=some (on rs.σ π)/\(on rs.σ π=true->g=none\/g=some true)/\(on rs.σ π=false->g=some false):=by
 rcases hg:o.guard with _|q;rw[hg]at e;cases e;exact⟨rfl,λ_=> .inl rfl,λh=>by cases h⟩;obtain⟨j,want⟩:=q;rw[hg]at e;simp only[ajC]at e;split at e
 .rename_i d hd;split at e
  .rename_i π' s hl;split at e
   .rename_i g' hga;cases e;refine⟨?_,ah9 hga⟩;obtain⟨b,hb⟩:∃b,Ab s=some b:=(by simp only[Wl,hl]at hga;rcases hq:Ab s with _|b;rw[hq]at hga;cases hga;exact⟨b,rfl⟩);have hs:=Uk hb;subst hs;have hL:d∈o.looksAt ops:=(by unfold Oper.looksAt;rw[hg];simp[hd]);have hlk:=R.slot d π' _ hl;have hon:on rs.σ ((d,want)::π')=((b==want)&&on rs.σ π'):=(by show(onE rs.σ (d,want)&&on rs.σ π')=_;unfold onE;rw[hl];rfl);simp only[CR,hd];rw[IV _ _ _ hL,hlk,hon];cases hp:on rs.σ π' with|true=>simp[fP]|false=>simp[fP,undef]
   .cases e
  .cases e
 .cases e
theorem Vf(R:qX N rs σA hA){π:Path}{x:Operand}{s:SV}(e:EX rs.σ π x=some s){L:List Nat}(hL:∀t,x=.tmp t->t∈L)(ho:on rs.σ π=true):j3 (cut σA L) x=some s:=by cases x with
 |tmp t=>
  simp only[EX]at e;split at e
  .rename_i π' s' hl;rcases hb:xq π' π with _|_;rw[hb]at e;cases e;rw[hb]at e;cases e;simp only[j3];rw[IV _ _ _ (hL t rfl),R.slot t π' s hl,PV hb ho];rfl
  .cases e
 |const v=>exact e
 |_=>cases e
theorem arQ(R:qX N rs σA hA){t:Nat}{b:Bool}(e:knB rs.σ t=some b):look σA t=some (fP (.bool b)):=by
 unfold knB at e;split at e
 .rename_i s hl;have:=R.slot t [] s hl;rw[this,Uk e];rfl
 .cases e
theorem aIc(R:qX N rs σA hA){gs:List Nat}{ops:Array Oper}{o:Oper}{b:Bool}(e:ai4 gs ops rs.σ o.guard=some b):CR ops (cut σA (o.looksAt ops)) o.guard=some b:=by
 rcases hg:o.guard with _|q;rw[hg]at e;cases e;obtain⟨j,want⟩:=q;rw[hg]at e;simp only[ai4]at e;rcases hm:l8 j gs with _|_;rw[hm]at e;cases e;rw[hm]at e;simp only[aY]at e;split at e
 .rename_i d hd;split at e
  .rename_i b' hb;cases e;have hL:d∈o.looksAt ops:=(by unfold Oper.looksAt;rw[hg];simp[hd]);simp only[CR,hd];rw[IV _ _ _ hL,arQ R hb];simp only[fP];cases b'<;>cases want<;>rfl
  .cases e
 .cases e
theorem aqX(R:qX N rs σA hA){P:Program}{id:Nat}{ops:Array Oper}{o:Oper}{c a b:Operand}(hop:o.op= .pick c a b){π:Path}{s:SV}(e:abZ rs.σ π c a b=some s)(ho:on rs.σ π=true):
  Does P id (cut σA (o.looksAt ops)) hA (.pick c a b) s [] []:=by
 have hL:∀x,(x=c\/x=a\/x=b)→∀t,x=.tmp t->t∈o.looksAt ops:=by intro x hx t ht;unfold Oper.looksAt;rw[hop];apply Cj;rw[aa9];refine⟨x,?_,by rw[ht]⟩;simp[Op.operands];exact hx
 unfold abZ at e;split at e
 .rename_i t;split at e
  .rename_i cv av bv h1 h2 h3;split at e
   .rename_i cb hcb;have:=Uk hcb;subst this;have hc:=Vf R h1 (hL _ (.inl rfl)) ho;have at0:∀w,cb=w->on rs.σ ((t,w)::π)=true:=by
     intro w hw;show(onE rs.σ (t,w)&&on rs.σ π)=true;rw[ho,Gx];simp only[EX]at h1;split at h1
     .rename_i π' s' hl;rcases hb:xq π' π with _|_;rw[hb]at h1;cases h1;rw[hb]at h1;cases h1;unfold onE;rw[hl];simp[Ab,fP,hw]
     .cases h1
    have hm:∀w v,ai8 cb av bv=some s->cb=w->v=(bif w then av else bv)->v=s:=by
     intro w v hm hw hv;subst hw;unfold ai8 at hm;split at hm
     .cases hm;subst hv;cases cb<;>rfl
     .split at hm
      .rename_i hk;subst hk;cases hm;subst hv;cases cb<;>rfl
      .cases hm
     .cases hm
    cases cb with
    |true=>have ha:=Vf R h2 (hL _ (.inr (.inl rfl))) (at0 true rfl);have:=hm true av e rfl rfl;subst this;refine⟨none,{r:=av,ws:=[],cs:=[]},?_,λq hq=>absurd hq nU,rfl,rfl,rfl,rfl⟩;simp only[p8,evalOp,hc,fP,ha,Dh,yR]
    |false=>have ha:=Vf R h3 (hL _ (.inr (.inr rfl))) (at0 false rfl);have:=hm false bv e rfl rfl;subst this;refine⟨none,{r:=bv,ws:=[],cs:=[]},?_,λq hq=>absurd hq nU,rfl,rfl,rfl,rfl⟩;simp only[p8,evalOp,hc,fP,ha,Dh,yR]
   .cases e
  .cases e
 .cases e
theorem aJm(R:qX N rs σA hA){P:Program}{id:Nat}{gs:List Nat}{ops:Array Oper}{o:Oper}{c a b:Operand}(hop:o.op=.pick c a b){π:Path}{s:SV}(e:abY gs ops rs.σ π c a b=some s)(ho:on rs.σ π=true):
  Does P id (cut σA (o.looksAt ops)) hA (.pick c a b) s [] []:=by
 unfold abY at e;split at e
 .rename_i t;rcases hk:knT gs ops t with _|_;rw[hk]at e;exact aqX R hop e ho;rw[hk]at e;simp only[aY]at e;have hL:∀x,(x=Operand.tmp t\/x=a\/x=b)→∀t,x=.tmp t->t∈o.looksAt ops:=by intro x hx t ht;unfold Oper.looksAt;rw[hop];apply Cj;rw[aa9];refine⟨x,?_,by rw[ht]⟩;simp[Op.operands];exact hx
  split at e
  .rename_i cb hb;have hc:j3 (cut σA (o.looksAt ops)) (.tmp t)=some (fP (.bool cb)):=(by simp only[j3];rw[IV _ _ _ (hL _ (.inl rfl) t rfl),arQ R hb]);cases cb with
   |true=>have ha:=Vf R (show EX rs.σ π a=some s from e) (hL _ (.inr (.inl rfl))) ho;refine⟨none,{r:=s,ws:=[],cs:=[]},?_,λq hq=>absurd hq nU,rfl,rfl,rfl,rfl⟩;simp only[p8,evalOp,hc,fP,ha,Dh,yR]
   |false=>have ha:=Vf R (show EX rs.σ π b=some s from e) (hL _ (.inr (.inr rfl))) ho;refine⟨none,{r:=s,ws:=[],cs:=[]},?_,λq hq=>absurd hq nU,rfl,rfl,rfl,rfl⟩;simp only[p8,evalOp,hc,fP,ha,Dh,yR]
  .cases e
 .exact aqX R hop e ho
end
theorem apt{P:Program}{nt:Nat}{ops:Array Oper}{cB JD:List (Nat×oJ)}{base i:Nat}{o:Oper}{σ:List (Nat×SV)}{h:List aU}(e:oD cB i=oD JD i):oF P nt ops cB base i o σ h=oF P nt ops JD base i o σ h:=by unfold oF;simp only[e]
theorem ap4{P:Program}{nt:Nat}{ops:Array Oper}{cB JD:List (Nat×oJ)}{base:Nat}:∀{l:List Oper} {i:Nat} {σ:List (Nat×SV)} {h:List aU},(∀j,i<=j->oD cB j=oD JD j)->pz P nt ops cB base l i σ h=pz P nt ops JD base l i σ h
  | [],i,σ,h,e=>rfl
  |o::l,i,σ,h,e=>by
    simp only[pz,apt (e i (gy _))];split
    · rw[ap4 (l:=l) (λj hj=>e j ah)]
    · rfl
theorem ap6{P:Program}{nt:Nat}{ops:Array Oper}{cB JD:List (Nat×oJ)}{base:Nat}:∀{l:List Oper} {i:Nat} {σ:List (Nat×SV)} {h:List aU},(∀j,i<=j->oD cB j=oD JD j)->yE P nt ops cB base l i σ h=yE P nt ops JD base l i σ h
  | [],i,σ,h,e=>rfl
  |o::l,i,σ,h,e=>by
    simp only[yE,apt (e i (gy _))];split
    · rw[ap6 (l:=l) (λj hj=>e j ah)]
    · rfl
def Wi(a b:List Nat×List Nat):Prop:=(∀k∈a.1,k∈b.1)∧∀k∈a.2,k∈b.2
theorem agQ{a a' b b':List Nat}(ha:∀k∈a,k∈a')(hb:∀k∈b,k∈b')(h:meets a' b'=false):meets a b=false:=by rcases hm:meets a b with _|_;rfl;obtain⟨k,h1,h2⟩:=Vl.1 hm;have:meets a' b'=true:=Vl.2 ⟨k,ha k h1,uV.2 (hb k (uV.1 h2))⟩;rw[this]at h;cases h
theorem ahO:∀{as' bs:List (List Nat×List Nat)},jY Wi as' bs→∀i,Wi (as'.getD i ([],[])) (bs.getD i ([],[]))
  |_,_,.nil,i=>⟨λ_ h=>h,λ_ h=>h⟩
  |_,_,.cons h t,0=>h
  |_,_,.cons h t,i+1=>ahO t i
theorem aHn{ops:Array Oper}{as' bs:List (List Nat×List Nat)}(hs:jY Wi as' bs)(h:GH ops bs=true):GH ops as'=true:=by
  unfold GH at h⊢;simp only[dQ]at h⊢;refine⟨h.1,?_⟩;refine j6.2 (λj hj=>j6.2 (λi hi=> ?_));have hi:=j6.1 (j6.1 h.2 j hj) i hi;simp only[pO]at hi⊢;rcases hi with hi|hi
  · exact .inl hi
  · right;have hsi:=ahO hs i;have hsj:=ahO hs j;unfold acs at hi⊢;simp only[dQ,wQ]at hi⊢;obtain⟨⟨⟨⟨⟨h1,h2⟩,h3⟩,h4⟩,h5⟩,h6⟩:=hi;exact⟨⟨⟨⟨⟨h1,h2⟩,h3⟩,agQ hsj.2 hsi.1 h4⟩,agQ hsi.2 hsj.1 h5⟩,agQ hsi.2 hsj.2 h6⟩
def aaL(i:Nat):Option oJ->List (Nat×oJ)->List (Nat×oJ)
  |some x,l=>(i,x)::l
  |none,l=>l
theorem aHW:(fP undef).refs=[]:=rfl
section
variable {β:Type} {C:Cx} {rid:Nat} {ops:Array Oper} {base:Nat} {gs:List Nat}
theorem aaZ(hT : ∀ S ∈C.T,kR C.P S):∀(l:List Oper) (i:Nat) {rs:RS} {fp:List (List Nat×List Nat)} {k:RS->List (List Nat×List Nat)->Option β} {res:β} {σA:List (Nat×SV)} {hA:List aU},
    qX (base+64*ops.size) rs σA hA->JG C rid ops base gs l i rs fp k=some res→
    ∃ cB σ' h' cs rs' fp',pz C.P C.nt ops cB base l i σA hA=some (σ',h',cs)/\(∀q∈cs,q)/\qX (base+64*ops.size) rs' σ' h'/\k rs' (fp++fp')=some res∧
      jY Wi (yE C.P C.nt ops cB base l i σA hA) fp'∧∀j,j<i->oD cB j=none
  | [],i,rs,fp,k,res,σA,hA,R,e=>⟨[],σA,hA,[],rs,[],rfl,λq hq=>absurd hq nU,R,by rw[nE];exact e,.nil,λ_ _=>rfl⟩
  | o :: l, i,rs,fp,k,res,σA,hA,R,e=>by
    simp only[JG]at e;rcases hd:Es C.nt o.dst with _|_;rw[hd]at e;cases e;rw[hd]at e;simp only[aY]at e
    have step : ∀ (π:Path) (g:Option Bool),CR ops (cut σA (o.looksAt ops)) o.guard=some (on rs.σ π)->(on rs.σ π=true->g=none\/g=some true)->(on rs.σ π=false->g=some false)→
        (let next:SV->List (Nat×TO)->List (Nat×TO)->List Nat->Option β:=λs wk ws ks=>
          let cont:SV->Option β:=λs=>
            match JX (base+64*ops.size) π rs.h wk with
            |none=>none
            |some h1=>
            match Hz (base+64*ops.size) π h1 ws with
            |none=>none
            | some h'=>bif EK o.dst rs.σ h' π&&nodupB (wk.map (·.1))then
                JG C rid ops base gs l (i+1) ⟨Bz rs.σ o.dst π s,h'⟩ (fp++ [(bif Ch o.op then EA rs.σ (o.looksAt ops)else ks,(wk++ws).map (·.1))]) k
              else none
          bif l8 i gs then(match Ab s with
            |some b=>bif b then cont (fP (.bool true))else cont (fP (.bool false))
            |none=>none)else cont s
        match o.op with
        | .pick c a b=>match abY gs ops rs.σ π c a b with
          |some s=>next s [] [] []
          |none=>none
        |op=>tOp C (rid,i) g (base+64*i) (CQ rs.σ π (o.looksAt ops)) (BA π rs.h) op next)=some res→
        ∃ cB σ' h' cs rs' fp',pz C.P C.nt ops cB base (o::l) i σA hA=some (σ',h',cs)/\(∀q∈cs,q)/\qX (base+64*ops.size) rs' σ' h'/\k rs' (fp++fp')=some res∧
          jY Wi (yE C.P C.nt ops cB base (o::l) i σA hA) fp'∧∀j,j<i->oD cB j=none:=by
      intro π g hgv hgt hgf e;simp only at e;let ajy :Path->List (Nat×TO)->List (Nat×TO)->List Nat->SV->Option β:=λπ wk ws ks s=>
        match JX (base+64*ops.size) π rs.h wk with
        |none=>none
        | some h1=>match Hz (base+64*ops.size) π h1 ws with
          |none=>none
          | some h'=>bif EK o.dst rs.σ h' π&&nodupB (wk.map (·.1))then
              JG C rid ops base gs l (i+1) ⟨Bz rs.σ o.dst π s,h'⟩ (fp++ [(bif Ch o.op then EA rs.σ (o.looksAt ops)else ks,(wk++ws).map (·.1))]) k
            else none
      -- what the operation does,and what follows
      have asN:∃s wk ws ks,(bif l8 i gs then(match Ab s with
            |some b=>bif b then ajy π wk ws ks (fP (.bool true))else ajy π wk ws ks (fP (.bool false))
            |none=>none)else ajy π wk ws ks s)=some res/\(on rs.σ π=false→∀p∈wk,lookO (BA π rs.h) p.1=p.2)/\(on rs.σ π=true->Does C.P (base+64*i) (cut σA (o.looksAt ops)) hA o.op s (wk++ws) ks):=by
        split at e
        · rename_i c a b hop;split at e
          · rename_i s hs;exact⟨s,[],[],[],e,λ_ p hp=>(absurd hp nU),λho=>by rw[hop];exact aJm R hop hs ho⟩
          · cases e
        · cases ho:on rs.σ π with
          |true=>obtain⟨h1,h2⟩:=R.sub ho (L:=o.looksAt ops);obtain⟨s,wk,ws,ks,q1,_,q2⟩:=asb hT h2 h1 (R.see ho) e;exact⟨s,wk,ws,ks,q1,λh=>(by cases h),λ_=>q2 (hgt ho)⟩
          | false =>
            obtain⟨s,wk,ws,ks,q1,q0,_⟩:=asb (σA:=CQ rs.σ π (o.looksAt ops)) (hA:=uS (BA π rs.h) (((BA π rs.h).map (·.1)).foldr Nat.max 0+1)) hT (λ_ _ h=>h) (λ_ h=>h) (by
              intro k hk;have hlt:k<((BA π rs.h).map (·.1)).foldr Nat.max 0+1:=(by have:∀(l:List (Nat×TO)),lookO l k≠.dead->k<=(l.map (·.1)).foldr Nat.max 0:=(by intro l;induction l with|nil=>intro h;exact absurd rfl h|cons a r ih=>intro h;obtain⟨j,o'⟩:=a;simp only[lookO]at h;simp only[mH,List.foldr_cons];cases hb:Nat.beq j k with|true=>have:=eG hb;subst this;exact Nat.le_max_left _ _|false=>rw[hb]at h;exact vv (ih h) (Nat.le_max_right _ _));have:=this _ hk;omega);unfold eB
              rw[Gn,bW hlt];rfl) e
            exact⟨s,wk,ws,ks,q1,λ_=>q0 (hgf ho),λh=>by cases h⟩
      have main:∃s wk ws ks,(match JX (base+64*ops.size) π rs.h wk with
        |none=>none
        | some h1=>match Hz (base+64*ops.size) π h1 ws with
          |none=>none
          | some h'=>bif EK o.dst rs.σ h' π&&nodupB (wk.map (·.1))then
              JG C rid ops base gs l (i+1) ⟨Bz rs.σ o.dst π s,h'⟩ (fp++ [(bif Ch o.op then EA rs.σ (o.looksAt ops)else ks,(wk++ws).map (·.1))]) k
            else none)=some res/\(on rs.σ π=false→∀p∈wk,lookO (BA π rs.h) p.1=p.2)/\(on rs.σ π=true->Does C.P (base+64*i) (cut σA (o.looksAt ops)) hA o.op s (wk++ws) ks):=by
        obtain⟨s,wk,ws,ks,q1,q2,q3⟩:=asN;rcases hm:l8 i gs with _|_;rw[hm]at q1;exact⟨s,wk,ws,ks,q1,q2,q3⟩;rw[hm]at q1;simp only[aY]at q1;split at q1
        · rename_i b hb;have hs:=Uk hb;cases b with|true=>exact⟨_,wk,ws,ks,q1,q2,by rw[hs]at q3;exact q3⟩|false=>exact⟨_,wk,ws,ks,q1,q2,by rw[hs]at q3;exact q3⟩
        · cases q1
      clear e asN;obtain⟨s,wk,ws,ks,e,hkeep,asA⟩:=main;split at e
      · cases e
      · rename_i h0 hwk;split at e
        · cases e
        · rename_i h1 hws;cases hno:EK o.dst rs.σ h1 π&&nodupB (wk.map (·.1))with
          |false=>rw[hno]at e;cases e
          |true=>
          rw[hno]at e;simp only[aY]at e;simp only[dQ]at hno;obtain⟨hno,hnd⟩:=hno
          have R0:=ash (h0:=[]) R hwk hnd (λho p hp π' o' hl hs=>by
            have:=hkeep ho p hp;rw[ag9,hl]at this;simp only[hs,aY]at this
            exact this)
          have R1:=aji R0 hws;replace R1:qX (base+64*ops.size) ⟨rs.σ,h1⟩ σA (bif on rs.σ π then eX hA (jJ (wk++ws))else hA):=(by rcases ho:on rs.σ π with _|_;rw[show on (RS.mk rs.σ h0).σ π=false from ho]at R1;exact R1;rw[show on (RS.mk rs.σ h0).σ π=true from ho]at R1;simp only[aY]at R1⊢;rw[ah3,Zq];exact R1);clear R0 hwk hws;generalize wk++ws=ws at R1 asA e;cases ho:on rs.σ π with
          |false=>
            have hstep:∀cB,oF C.P C.nt ops cB base i o σA hA=some {r:=fP undef,ws:=[],cs:=[],R:=[]}:=(by intro cB;unfold oF;simp only[hd,aY,hgv,ho]);rw[ho]at R1;have R2:=VG (s:=s) R1 hno;rw[show on (RS.mk rs.σ h1).σ π=false from ho]at R2;obtain⟨cB,σ',h',cs,rs',fp',q1,q2,q3,q4,q5,q6⟩:=aaZ hT l (i+1) R2 e;have q1:pz C.P C.nt ops cB base l (i+1) (mQ σA o.dst (fP undef)) hA=some (σ',h',cs):=q1;refine⟨cB,σ',h',cs,rs',(bif Ch o.op then EA rs.σ (o.looksAt ops)else ks,ws.map (·.1))::fp',?_,q2,q3,by rw[rH]at q4;exact q4,?_,λj hj=>q6 j ah⟩
            · simp only[pz,hstep];show(match pz C.P C.nt ops cB base l (i+1) (mQ σA o.dst (fP undef)) hA with|some (σ',h',cs)=>some (σ',h',[]++cs)|none=>none)=_;rw[q1];rfl
            · simp only[yE,hstep];exact .cons ⟨λk hk=>absurd hk nU,λk hk=>absurd hk nU⟩ q5
          | true=>
            obtain⟨oi,bK,d1,d2,d3,d4,d5,d6⟩:=asA ho;rw[ho]at R1;simp only[aY]at R1;have R2:=VG (s:=s) R1 hno;rw[show on (RS.mk rs.σ h1).σ π=true from ho]at R2;simp only[aY]at R2;obtain⟨cB,σ',h',cs,rs',fp',q1,q2,q3,q4,q5,q6⟩:=aaZ hT l (i+1) R2 e;generalize ho0:aaL i oi cB=WL;have ho1:oD WL i=oi:=(by subst ho0;rcases oi with _|x;exact q6 i ah;simp[aaL,oD]);have ho2:∀j,i+1<=j->oD WL j=oD cB j:=(by intro j hj;subst ho0;rcases oi with _|x;rfl;simp only[aaL,oD];cases hb:Nat.beq i j with|true=>have:=eG hb;omega|false=>rfl);have ho3:∀j,j<i->oD WL j=none:=(by intro j hj;subst ho0;rcases oi with _|x;exact q6 j ah;simp only[aaL,oD];cases hb:Nat.beq i j with|true=>have:=eG hb;omega|false=>exact q6 j ah);have hstep:oF C.P C.nt ops WL base i o σA hA=some {r:=s,ws:=jJ ws,cs:=bK.cs,R:=readsOf (cut σA (o.looksAt ops)) o.op oi}:=(by unfold oF;simp only[hd,aY,hgv,ho,ho1];rw[d1];rw[d4]at d6;simp only[d3,d4,d6,aY]);refine⟨WL,σ',h',bK.cs++cs,rs',(bif Ch o.op then EA rs.σ (o.looksAt ops)else ks,ws.map (·.1))::fp',?_,λq hq=> ?_,q3,by rw[rH]at q4;exact q4,?_,ho3⟩
            · simp only[pz,hstep];rw[ap4 ho2,q1]
            · rcases oU.1 hq with hq|hq
              · exact d2 q hq
              · exact q2 q hq
            · simp only[yE,hstep];rw[ap6 ho2];refine .cons ⟨λk hk=> ?_,λk hk=> ?_⟩ q5
              · simp only at hk⊢;unfold readsOf at hk;rcases hu:Ch o.op with _|_;rw[hu]at hk;simp only[aX]at hk⊢;rw[<-d5];exact hk;rw[hu]at hk;simp only[aY]at hk⊢;obtain⟨p,hp,hk⟩:=aiK.1 hk;obtain⟨h1,h2⟩:=Ve (x:=p.1) (s:=p.2) hp;obtain⟨π',s',h3⟩:=R.back p.1 p.2 h2;have h4:=R.slot p.1 π' s' h3;rw[h2]at h4;cases hon:on rs.σ π' with
                |true=>rw[hon]at h4;cases h4;exact ahi h1 h3 hk
                |false=>rw[hon]at h4;simp only[aX,lu]at h4;rw[h4,aHW]at hk;cases hk
              · simp only[keys,jJ,List.map_map]at hk⊢;exact hk
    split at e
    · rename_i gb hgb;have hgv:=aIc R hgb;cases gb with
      |true=>exact step [] none hgv (λ_=> .inl rfl) (λh=>by cases h) e
      | false=> simp only[aX]at e;cases hno:EK o.dst rs.σ rs.h []with
        |false=>rw[hno]at e;cases e
        |true=>
          rw[hno]at e;simp only[aY]at e;have hstep:∀cB,oF C.P C.nt ops cB base i o σA hA=some {r:=fP undef,ws:=[],cs:=[],R:=[]}:=(by intro cB;unfold oF;simp only[hd,aY,hgv]);have R2:=VG (s:=fP undef) R hno;simp only[show on rs.σ []=true from rfl,aY]at R2;obtain⟨cB,σ',h',cs,rs',fp',q1,q2,q3,q4,q5,q6⟩:=aaZ hT l (i+1) R2 e;refine⟨cB,σ',h',cs,rs',([],[])::fp',?_,q2,q3,by rw[rH]at q4;exact q4,?_,λj hj=>q6 j ah⟩
          · simp only[pz,hstep];show(match pz C.P C.nt ops cB base l (i+1) (mQ σA o.dst (fP undef)) hA with|some (σ',h',cs)=>some (σ',h',[]++cs)|none=>none)=_;rw[q1];rfl
          · simp only[yE,hstep];exact .cons ⟨λk hk=>absurd hk nU,λk hk=>absurd hk nU⟩ q5
    · split at e
      · cases e
      · rename_i π g hg;obtain⟨hgv,hgt,hgf⟩:=aI8 R hg;exact step π g hgv hgt hgf e
end
theorem aie:∀{σ:List (Nat×SV)} {x:Nat},rR (σ.map (λp=>(p.1,([]:Path),p.2))) x=(look σ x).map (λs=>([],s))
  | [],x=>rfl
  | (i,s)::r,x=>by simp only[mH,rR,look];cases Nat.beq i x with|true=>rfl|false=>exact aie
theorem aic:∀{h:List (Nat×TO)} {k:Nat},qG (h.map (λp=>(p.1,([]:Path),p.2))) k=none/\lookO h k=.dead\/qG (h.map (λp=>(p.1,([]:Path),p.2))) k=some ([],lookO h k)
  | [],k=> .inl ⟨rfl,rfl⟩
  | (i,s)::r,k=>by simp only[mH,qG,lookO];cases Nat.beq i k with|true=>exact .inr rfl|false=>exact aic
theorem aJs{ts:TS}(hok:ts.ok)(n:Nat):qX (ts.n+n) ⟨ts.σ.map (λp=>(p.1,[],p.2)),ts.h.map (λp=>(p.1,[],p.2))⟩ ts.σ (ts.er.h++List.replicate n .dead):=by
  refine⟨λx π s hl=> ?_,λx s hx=> ?_,by simp[TS.er,AU],λk hk=> ?_,λk hk π o hl=> ?_⟩
  · rw[aie]at hl;rcases hx:look ts.σ x with _|u;rw[hx]at hl;cases hl;rw[hx]at hl;cases hl;rfl
  · exact⟨[],s,by rw[aie,hx];rfl⟩
  · have e1:(ts.er.h++List.replicate n aU.dead)[k]? =some (lookO ts.h k).er:=by
      rcases mI k ts.n with h1|h1
      · rw[p9 (by show k<(uS ts.h ts.n).length;rw[AU];exact h1)];show(uS ts.h ts.n)[k]? =_;rw[Gn,bW h1]
      · rw[uo (by show(uS ts.h ts.n).length<=k;rw[AU];exact h1)];show(List.replicate n aU.dead)[k-(uS ts.h ts.n).length]? =_;rw[AU,Eb,bW ah,hok k h1];rfl
    rw[e1];rcases aic (h:=ts.h) (k:=k)with⟨h1,h2⟩|h1
    · rw[h1,h2];rfl
    · rw[h1];rfl
  · rcases aic (h:=ts.h) (k:=k)with⟨h1,h2⟩|h1
    · rw[h1]at hl;cases hl
    · rw[h1]at hl;cases hl;exact hok k ah
theorem ahE:∀{σ:List (Nat×Path×SV)} {x:Nat} {s:SV},look (QI σ) x=some s->rR σ x=some ([],s)
  | [],x,s,h=>by cases h
  | (i,[],u)::r,x,s,h=>by simp only[QI,look]at h;simp only[rR];cases hb:Nat.beq i x with
    |true=>rw[hb]at h;cases h;rfl
    |false=>
      rw[hb,aX,U4]at h;split at h
      · cases h
      · exact ahE h
  | (i,_::_,u)::r,x,s,h=>by
    simp only[QI]at h;rw[U4]at h;split at h
    · cases h
    · rename_i hne;simp only[rR];cases hb:Nat.beq i x with|true=>exact absurd (eG hb) hne|false=>exact ahE h
theorem aaf:∀{h:List (Nat×Path×TO)} {k:Nat},lookO (EY h) k=match qG h k with|some ([],o)=>o|_=> .dead
  | [],k=>rfl
  | (i,[],o)::r,k=>by simp only[EY,lookO,qG];cases Nat.beq i k with|true=>rfl|false=>exact aaf
  | (i,_::_,o)::r,k=>by simp only[EY,lookO,qG];cases Nat.beq i k with|true=>rfl|false=>exact aaf
theorem aJX{p:Nat}{st st':St}(hl:st'.h.length=st.h.length)(hh:∀(k:Nat),st'.h[k]? =st.h[k]? \/st'.h[k]? =some .dead)(hσ:∀x s,look st'.σ x=some s->look st.σ x=some s):Le p st st':=by
  intro X w m nt a H hs;have hlv:∀(k:Nat) (o:aU),st'.h[k]? =some o->o.live->st.h[k]? =some o:=by
    intro k o hk ho;rcases hh k with h1|h1
    · rw[<-h1];exact hk
    · rw[hk]at h1;cases h1;exact ho.elim
  have ku:∀b,iO m st'.h b->iO m st.h b:=λb ⟨k,o,l,h1,h2,h3,h4⟩=>⟨k,o,l,hlv k o h1 h2,h2,h3,h4⟩
  have hL:Later w m (MX X m st.h) w m (MX X m st'.h):=⟨λ_ _ h=>h,λb _ h1 h2=>by
    rcases h2 with h2|h2
    · exact h1 (.inl h2)
    · exact h1 (.inr (ku b h2)),λ_ _ _=>rfl,gy _⟩
  refine⟨m,⟨λk o hk=> ?_,λk k' o o' l l' b h1 h2 h3 h4=>H.inj k k' o o' l l' b (hlv k o h1 h3) (hlv k' o' h2 h4) h3 h4,λk hk=>H.used k ah,λb hb=>H.uL b (ku b hb),H.xlt⟩,⟨hs.1,λx s hx=> ?_⟩,ku,λ_ _ _ h=>h⟩
  · cases o with
    |dead=>trivial
    |ms es=>obtain⟨l,b,rows,clock,e1,e2,e3,e4⟩:=H.obj k _ (hlv k _ hk trivial);exact⟨l,b,rows,clock,e1,e2,e3,e4⟩
    |ra z n cs=>obtain⟨l,b,T,vs,e1,e2,e3,e4,e5,e6,e7,e8,e9,e10⟩:=H.obj k _ (hlv k _ hk trivial);exact⟨l,b,T,vs,e1,e2,e3,e4,e5,e6,e7,e8,e9,λi x hx=>(e10 i x hx).later hL⟩
    |box cs=>obtain⟨l,b,T,vs,e1,e2,e3,e4,e5⟩:=H.obj k _ (hlv k _ hk trivial);exact⟨l,b,T,vs,e1,e2,e3,e4.later hL,e5⟩
    |arr z n f=>obtain⟨l,e1,e2,e3,e4,e5⟩:=H.obj k _ (hlv k _ hk trivial);refine⟨l,e1,e2,e3,e4,λb hb=> ?_⟩;obtain⟨e6,T,vs,e7,e8,e9,e10⟩:=e5 b hb;exact⟨e6,T,vs,e7,e8,e9,λi hi=>⟨(e10 i hi).1,λq x hx=>((e10 i hi).2 q x hx).later hL⟩⟩
  · obtain⟨v,hv,iN⟩:=hs.2 x s (hσ x s hx);exact⟨v,hv,iN.later hL⟩
theorem CG.of:∀{l:List Prop},(∀q∈l,q)->CG l
  | [],_=>trivial
  |p::r,h=>⟨h p (qb ..),CG.of λq hq=>h q (ou _ hq)⟩
theorem aiy{β:Type}{C:Cx}(hT:∀S∈C.T,kR C.P S){p id:Nat}{ops:Array Oper}{any:Bool}{gs:List Nat}{ts:TS}{k:TS->Option β}{res:β}(hok:ts.ok)(e:uQ C gs id ops any ts k=some res):
    nL C.P C.nt p (.region id ops any) (λex st=>ex=.normal∧∃ts',k ts'=some res/\ts'.ok/\Le p st ts'.er) ts.er:=by
  unfold uQ at e;have hlen:ts.er.h.length=ts.n:=by simp[TS.er,AU]
  obtain⟨cB,σ',h',cs,rs',fp',q1,q2,q3,q4,q5,_⟩:=aaZ hT ops.toList 0 (aJs hok (64*ops.size)) e;rw[zq]at q4;cases hb: !any||(C.P.follows .mixedOrders&&GH ops fp')with
  |false=>rw[hb]at q4;cases q4
  | true=>
    rw[hb]at q4;simp only[aY]at q4;have hrun:acL C.P C.nt ops cB ts.er=some (σ',h',cs):=(by unfold acL;rw[hlen];exact q1);have hQ :(λex st=>ex=Exit.normal∧∃ts',k ts'=some res/\ts'.ok/\Le p st ts'.er) Exit.normal ⟨σ',h'⟩:=by
      refine⟨rfl,_,q4,λk hk=> ?_,aJX ?_ (λk=> ?_) (λx s hx=> ?_)⟩
      · show lookO (EY rs'.h) k=.dead;rw[aaf];split
        · rename_i o hl;exact q3.far k hk [] o hl
        · rfl
      · show(uS (EY rs'.h) (ts.n+64*ops.size)).length=h'.length;rw[AU,q3.len]
      · show(uS (EY rs'.h) (ts.n+64*ops.size))[k]? =h'[k]? \/(uS (EY rs'.h) (ts.n+64*ops.size))[k]? =some .dead;rw[Gn];by_cases hk:k<ts.n+64*ops.size
        · rw[bW hk,q3.heap k hk,aaf];rcases hl:qG rs'.h k with _|q;exact .inr rfl;obtain⟨π,o⟩:=q;rcases π with _|⟨a,b⟩;exact .inl rfl;exact .inr rfl
        · rw[dn hk,xS (by rw[q3.len];omega)];exact .inl rfl
      · have:=q3.slot x [] s (ahE hx);exact this
    rcases any with _|_;exact aHY cB hrun (CG.of q2) hQ;simp only[gI,kW,dQ]at hb;refine aEL cB hb.1 hrun (CG.of q2) ?_ hQ;unfold okR;rw[hlen];exact aHn q5 hb.2
def GY(ts:TS)(x q len:Nat)(t:Ty)(xs:List (den t)):TS:=
 ⟨mQ ts.σ (some x) (.one (.s (.own ts.n))),(ts.n,.arr t (xs.take len))::(q,.dead)::ts.h,ts.n+1⟩
def re1{β:Type}(ts:TS)(x:Nat)(k:TS->Option β):Option β:=
 match look ts.σ x with
 |some (.one (.s (.sl q lo len)))=>match lookO ts.h q with
  | .arr t xs=>bif Nat.beq lo 0 then bq (decide (len<=xs.length)) (k (GY ts x q len t xs))else k ts
  |_=>k ts
 |_=>k ts
def asg:SK->Bool
 | .c (.own _)=>true
 | .c (.ty (.l _))=>true
 |_=>false
def Xl{β:Type}:List (Nat×SK)->TS->(TS->Option β)->Option β
 | [],ts,k=>k ts
 |(x,s)::r,ts,k=>bif asg s then re1 ts x (λts'=>Xl r ts' k)else Xl r ts k
def Q6{β:Type}:List ResultVar->TS->(TS->Option β)->Option β
 | [],ts,k=>k ts
 | .tmp t::r,ts,k=>re1 ts t (λts'=>Q6 r ts' k)
 |_::r,ts,k=>Q6 r ts k
theorem Le.refl(p:Nat)(st:St):Le p st st:=λX w m nt a H hs=>⟨m,H,hs,λ_ h=>h,λ_ _ _ h=>h⟩
theorem Le.trans{p:Nat}{a b c:St}(h:Le p a b)(k:Le p b c):Le p a c:=by intro X w m nt act H hs;obtain⟨m1,H1,hs1,q1,q2⟩:=h X w m nt act H hs;obtain⟨m2,H2,hs2,r1,r2⟩:=k X w m1 nt act H1 hs1;exact⟨m2,H2,hs2,λb hb=>q1 b (r1 b hb),λj l hj hm=>r2 j l hj (q2 j l hj hm)⟩
theorem aMd{p:Nat}{ts:TS}{x q len:Nat}{t:Ty}{xs:List (den t)}(hok:ts.ok)(hx:look ts.σ x=some (.one (.s (.sl q 0 len))))(hq:lookO ts.h q= .arr t xs)(hlen:len<=xs.length):Le p ts.er (GY ts x q len t xs).er/\(GY ts x q len t xs).ok:=by
 have hqn:q<ts.n:=by
  rcases mI q ts.n with h|h
  .exact h
  .have:=hok q h;rw[hq]at this;cases this
 have hh:∀k,(ts.er.h)[k]? =if k<ts.n then some (lookO ts.h k).er else none:=λk=>Gn ts.h ts.n k;have hh':∀k,((GY ts x q len t xs).er.h)[k]? =if k=ts.n then some (.arr (wd t) len (fE t (xs.take len)))else if k=q then some .dead else(ts.er.h)[k]? :=by
  intro k;rw[show((GY ts x q len t xs).er.h)[k]? =_ from Gn _ _ k,hh];simp only[GY,lookO];by_cases h1:k=ts.n
  .subst h1;rw[bW (aiP _),bW rfl,oW];simp only[aY,TO.er,sD];rw[Cm hlen]
  .have hb:Nat.beq ts.n k=false:=(by rcases hb:Nat.beq ts.n k with _|_;rfl;exact absurd (eG hb).symm h1);rw[dn h1,hb];by_cases h2:k=q
   .subst h2;rw[bW rfl,bW ah,oW];rfl
   .have hb2:Nat.beq q k=false:=(by rcases hb:Nat.beq q k with _|_;rfl;exact absurd (eG hb).symm h2);rw[dn h2,hb2];simp only[aX];by_cases h3:k<ts.n
    .rw[bW h3,bW ah]
    .rw[dn h3,dn ah]
 refine⟨?_,?_⟩
 .intro X w m nt a H hs;have hmn:m ts.n=none:=H.used _ (by rw[show ts.er.h.length=ts.n from AU _ _];exact gy _);have hqo:(ts.er.h)[q]? =some (.arr (wd t) xs.length (fE t xs)):=by rw[hh,bW hqn,hq];rfl
  obtain⟨l,hl,hz,⟨hn,hcap⟩,hb0,hbb⟩:=H.obj q _ hqo;obtain⟨m',hm'⟩:∃m':gV,m'=λj=>if j=ts.n then some {l with n:=len}else m j:=⟨_,rfl⟩;have em:∀j,j≠ts.n->m' j=m j:=λj hj=>by rw[hm'];simp[hj]
  have en:m' ts.n=some {l with n:=len}:=by rw[hm'];simp
  have hext:∀k l,m k=some l->m' k=some l:=by intro k l' h;rw[em k (by rintro rfl;rw[hmn]at h;cases h)];exact h
  have ku:∀b,iO m' (GY ts x q len t xs).er.h b->iO m ts.er.h b:=by
   rintro b ⟨k,o,lk,hk,ho,hmk,hbk⟩;rw[hh']at hk;by_cases h1:k=ts.n
   .subst h1;rw[en]at hmk;cases hmk;exact⟨q,_,l,hqo,trivial,hl,hbk⟩
   .rw[dn h1]at hk;by_cases h2:k=q
    .rw[bW h2]at hk;cases hk;exact ho.elim
    .rw[dn h2]at hk;rw[em k h1]at hmk;exact⟨k,o,lk,hk,ho,hmk,hbk⟩
  have hL:Later w m (MX X m ts.er.h) w m' (MX X m' (GY ts x q len t xs).er.h):=by
   refine⟨hext,λb _ hM hM'=> ?_,λ_ _ _=>rfl,gy _⟩;rcases hM' with h|h
   .exact hM (.inl h)
   .exact hM (.inr (ku b h))
  refine⟨m',⟨λk o hk=> ?_,λk k' o o' lk lk' b hk hk' ho ho' hmk hmk' hbk hbk'=> ?_,λk hk=> ?_,λb hb=>H.uL b (ku b hb),H.xlt⟩,⟨hs.1,λy s hy=> ?_⟩,ku,λj l' _ h=>hext j l' h⟩
  .rw[hh']at hk;by_cases h1:k=ts.n
   .subst h1;rw[bW rfl]at hk;cases hk;refine⟨{l with n:=len},en,hz,⟨rfl,by show len<=l.cap;omega⟩,hb0,λb hb=> ?_⟩;obtain⟨e6,T,vs,e7,e8,e9,e10⟩:=hbb b hb;refine⟨e6,T,vs,e7,e8,e9,λi hi=> ?_⟩;have hfe:fE t (xs.take len) i=fE t xs i:=(by unfold fE;simp only[fD,tq];rw[bW hi]);rw[hfe];exact⟨(e10 i ah).1,λj y hy=>((e10 i ah).2 j y hy).later hL⟩
   .rw[dn h1]at hk;by_cases h2:k=q
    .rw[bW h2]at hk;cases hk;trivial
    .rw[dn h2]at hk;have ho:=H.obj k o hk;cases o with
     |dead=>trivial
     |ms es=>obtain⟨l',b,rows,clock,e1,e2,e3,e4⟩:=ho;exact⟨l',b,rows,clock,hext _ _ e1,e2,e3,e4⟩
     |ra z n cs=>obtain⟨l',b,T,vs,e1,e2,e3,e4,e5,e6,e7,e8,e9,e10⟩:=ho;exact⟨l',b,T,vs,hext _ _ e1,e2,e3,e4,e5,e6,e7,e8,e9,λi x hx=>(e10 i x hx).later hL⟩
     |box cs=>obtain⟨l',b,T,vs,e1,e2,e3,e4,e5⟩:=ho;exact⟨l',b,T,vs,hext _ _ e1,e2,e3,e4.later hL,e5⟩
     |arr z n f=>obtain⟨l',e1,e2,e3,e4,e5⟩:=ho;refine⟨l',hext _ _ e1,e2,e3,e4,λb hb=> ?_⟩;obtain⟨e6,T,vs,e7,e8,e9,e10⟩:=e5 b hb;exact⟨e6,T,vs,e7,e8,e9,λi hi=>⟨(e10 i hi).1,λj y hy=>((e10 i hi).2 j y hy).later hL⟩⟩
  .rw[hh']at hk hk'
   have back:∀{k:Nat} {o:aU} {lk:Loc},(if k=ts.n then some (aU.arr (wd t) len (fE t (xs.take len)))else if k=q then some .dead else(ts.er.h)[k]?)=some o->o.live->m' k=some lk->lk.blk=some b→
     ∃k0 o0 l0,(ts.er.h)[k0]? =some o0/\o0.live/\m k0=some l0/\l0.blk=some b/\((k=ts.n/\k0=q)\/(k≠ts.n/\k≠q/\k0=k)):=by
    intro k o lk h1 h2 h3 h4;by_cases e1:k=ts.n
    .subst e1;rw[en]at h3;cases h3;exact⟨q,_,l,hqo,trivial,hl,h4,.inl ⟨rfl,rfl⟩⟩
    .rw[dn e1]at h1;by_cases e2:k=q
     .rw[bW e2]at h1;cases h1;exact h2.elim
     .rw[dn e2]at h1;rw[em k e1]at h3;exact⟨k,o,lk,h1,h2,h3,h4,.inr ⟨e1,e2,rfl⟩⟩
   obtain⟨k0,o0,l0,a1,a2,a3,a4,a5⟩:=back hk ho hmk hbk;obtain⟨k1,o1,l1,b1,b2,b3,b4,b5⟩:=back hk' ho' hmk' hbk';have:=H.inj k0 k1 o0 o1 l0 l1 b a1 b1 a2 b2 a3 b3 a4 b4;rcases a5 with⟨c1,c2⟩|⟨c1,c2,c3⟩<;>rcases b5 with⟨d1,d2⟩|⟨d1,d2,d3⟩
   .rw[c1,d1]
   .exact absurd (by rw[<-d3,<-this,c2]) d2
   .exact absurd (by rw[<-c3,this,d2]) c2
   .rw[<-c3,<-d3];exact this
  .have hk:ts.n+1<=k:=(by rw[show(GY ts x q len t xs).er.h.length=ts.n+1 from AU _ _]at hk;exact hk);rw[em k ah];exact H.used k (by rw[show ts.er.h.length=ts.n from AU _ _];omega)
  .replace hy:look (mQ ts.σ (some x) (.one (.s (.own ts.n)))) y=some s:=hy;rw[uW]at hy;by_cases e:(some x:Option Nat)=some y
   .rw[bW e]at hy;have e:=rM e;subst e;have hy:=rM hy;subst hy;obtain⟨v,hv,iN⟩:=hs.2 x _ hx;refine⟨v,hv,?_⟩;change dU w m _ (.sl q 0 len) v at iN;show dU w m' _ (.own ts.n) v;cases iN with|sl _ _ _ l2 a c hk h0 h1 h2 h3=>rw[hl]at hk;cases hk;obtain⟨rfl,rfl⟩:=h0 rfl;exact dU.own ts.n {l with n:=len} en
   .rw[dn e]at hy;obtain⟨v,hv,iN⟩:=hs.2 y s hy;exact⟨v,hv,iN.later hL⟩
 .intro k hk;have hk:ts.n+1<=k:=hk;show lookO ((ts.n,.arr t (xs.take len))::(q,.dead)::ts.h) k=.dead;simp only[lookO];have hb:Nat.beq ts.n k=false:=by rcases hb:Nat.beq ts.n k with _|_;rfl;have:=eG hb;omega
  have hb2:Nat.beq q k=false:=by rcases hb:Nat.beq q k with _|_;rfl;have:=eG hb;omega
  rw[hb,hb2];exact hok k ah
theorem ap1{β:Type}{p:Nat}{ts:TS}{x:Nat}{k:TS->Option β}{r:β}(hok:ts.ok)(h:re1 ts x k=some r):∃ts',ts'.ok/\Le p ts.er ts'.er/\k ts'=some r:=by
 unfold re1 at h;split at h
 .rename_i q lo len hx;split at h
  .rename_i t xs hq;rcases hb:Nat.beq lo 0 with _|_;rw[hb]at h;exact⟨ts,hok,Le.refl p _,h⟩;rw[hb]at h;have:=eG hb;subst this;obtain⟨hlen,h⟩:=LV h;obtain⟨h1,h2⟩:=aMd (p:=p) hok hx hq hlen;exact⟨_,h2,h1,h⟩
  .exact⟨ts,hok,Le.refl p _,h⟩
 .exact⟨ts,hok,Le.refl p _,h⟩
theorem ahK{β:Type}{p:Nat}{k:TS->Option β}{r:β}:∀{l:List (Nat×SK)} {ts:TS},ts.ok->Xl l ts k=some r→∃ts',ts'.ok/\Le p ts.er ts'.er/\k ts'=some r
 | [],ts,hok,h=>⟨ts,hok,Le.refl p _,h⟩
 | (x,s)::l,ts,hok,h=>by simp only[Xl]at h;rcases hw:asg s with _|_;rw[hw]at h;exact ahK hok h;rw[hw]at h;simp only[aY]at h;obtain⟨t1,a1,a2,a3⟩:=ap1 (p:=p) hok h;obtain⟨t2,b1,b2,b3⟩:=ahK (p:=p) a1 a3;exact⟨t2,b1,a2.trans b2,b3⟩
theorem ahJ{β:Type}{p:Nat}{k:TS->Option β}{r:β}:∀{l:List ResultVar} {ts:TS},ts.ok->Q6 l ts k=some r→∃ts',ts'.ok/\Le p ts.er ts'.er/\k ts'=some r
 | [],ts,hok,h=>⟨ts,hok,Le.refl p _,h⟩
 | .tmp t::l,ts,hok,h=>by simp only[Q6]at h;obtain⟨t1,a1,a2,a3⟩:=ap1 (p:=p) hok h;obtain⟨t2,b1,b2,b3⟩:=ahJ (p:=p) a1 a3;exact⟨t2,b1,a2.trans b2,b3⟩
 | .cell a T::l,ts,hok,h=>by simp only[Q6]at h;exact ahJ (l:=l) hok h
def GX(ts:TS)(kb off:Nat)(cs:List SC)(q len:Nat)(t:Ty)(xs:List (den t)):TS:=
 ⟨ts.σ,(ts.n,.arr t (xs.take len))::(kb,.box (cs.set off (.own ts.n)))::(q,.dead)::ts.h,ts.n+1⟩
def akA{β:Type}(ts:TS)(kb off:Nat)(k:TS->Option β):Option β:=
 match lookO ts.h kb with
 | .box cs=>match cs[off]? with
  |some (.sl q lo len)=>match lookO ts.h q with
   | .arr t xs=>bif Nat.beq lo 0 then bq (decide (len<=xs.length)) (k (GX ts kb off cs q len t xs))else none
   |_=>none
  |_=>none
 |_=>none
def Mi{β:Type}:List (Nat×Nat)->TS->(TS->Option β)->Option β
 | [],ts,k=>k ts
 |(kb,off)::r,ts,k=>akA ts kb off (λts'=>Mi r ts' k)
theorem aMc{p:Nat}{ts:TS}{kb off q len:Nat}{cs:List SC}{t:Ty}{xs:List (den t)}(hok:ts.ok)(hbx:lookO ts.h kb= .box cs)(hx:cs[off]? =some (.sl q 0 len))(hq:lookO ts.h q= .arr t xs)(hlen:len<=xs.length):Le p ts.er (GX ts kb off cs q len t xs).er/\(GX ts kb off cs q len t xs).ok:=by
 have hqn:q<ts.n:=by
  rcases mI q ts.n with h|h
  .exact h
  .have:=hok q h;rw[hq]at this;cases this
 have hbn:kb<ts.n:=by
  rcases mI kb ts.n with h|h
  .exact h
  .have:=hok kb h;rw[hbx]at this;cases this
 have hne:kb≠q:=by rintro rfl;rw[hbx]at hq;cases hq
 have hh:∀k,(ts.er.h)[k]? =if k<ts.n then some (lookO ts.h k).er else none:=λk=>Gn ts.h ts.n k;have hh':∀k,((GX ts kb off cs q len t xs).er.h)[k]? =if k=ts.n then some (.arr (wd t) len (fE t (xs.take len)))else if k=kb then some (.box (cs.set off (.own ts.n)))else if k=q then some .dead else(ts.er.h)[k]? :=by
  intro k;rw[show((GX ts kb off cs q len t xs).er.h)[k]? =_ from Gn _ _ k,hh];simp only[GX,lookO];by_cases h1:k=ts.n
  .subst h1;rw[bW (aiP _),bW rfl,oW];simp only[aY,TO.er,sD];rw[Cm hlen]
  .have hb:Nat.beq ts.n k=false:=(by rcases hb:Nat.beq ts.n k with _|_;rfl;exact absurd (eG hb).symm h1);rw[dn h1,hb];by_cases h0:k=kb
   .subst h0;rw[bW rfl,bW ah,oW];rfl
   have hb0:Nat.beq kb k=false:=(by rcases hb:Nat.beq kb k with _|_;rfl;exact absurd (eG hb).symm h0);rw[dn h0,hb0];by_cases h2:k=q
   .subst h2;rw[bW rfl,bW ah,oW];rfl
   .have hb2:Nat.beq q k=false:=(by rcases hb:Nat.beq q k with _|_;rfl;exact absurd (eG hb).symm h2);rw[dn h2,hb2];simp only[aX];by_cases h3:k<ts.n
    .rw[bW h3,bW ah]
    .rw[dn h3,dn ah]
 refine⟨?_,?_⟩
 .intro X w m nt a H hs;have hmn:m ts.n=none:=H.used _ (by rw[show ts.er.h.length=ts.n from AU _ _];exact gy _);have hqo:(ts.er.h)[q]? =some (.arr (wd t) xs.length (fE t xs)):=by rw[hh,bW hqn,hq];rfl
  obtain⟨l,hl,hz,⟨hn,hcap⟩,hb0,hbb⟩:=H.obj q _ hqo;have hbo:(ts.er.h)[kb]? =some (.box cs):=by rw[hh,bW hbn,hbx];rfl
  obtain⟨m',hm'⟩:∃m':gV,m'=λj=>if j=ts.n then some {l with n:=len}else m j:=⟨_,rfl⟩;have em:∀j,j≠ts.n->m' j=m j:=λj hj=>by rw[hm'];simp[hj]
  have en:m' ts.n=some {l with n:=len}:=by rw[hm'];simp
  have hext:∀k l,m k=some l->m' k=some l:=by intro k l' h;rw[em k (by rintro rfl;rw[hmn]at h;cases h)];exact h
  have ku:∀b,iO m' (GX ts kb off cs q len t xs).er.h b->iO m ts.er.h b:=by
   rintro b ⟨k,o,lk,hk,ho,hmk,hbk⟩;rw[hh']at hk;by_cases h1:k=ts.n
   .subst h1;rw[en]at hmk;cases hmk;exact⟨q,_,l,hqo,trivial,hl,hbk⟩
   .rw[dn h1]at hk;rw[em k h1]at hmk;by_cases h0:k=kb
    .subst h0;exact⟨k,_,lk,hbo,trivial,hmk,hbk⟩
    rw[dn h0]at hk;by_cases h2:k=q
    .rw[bW h2]at hk;cases hk;exact ho.elim
    .rw[dn h2]at hk;exact⟨k,o,lk,hk,ho,hmk,hbk⟩
  have hL:Later w m (MX X m ts.er.h) w m' (MX X m' (GX ts kb off cs q len t xs).er.h):=by
   refine⟨hext,λb _ hM hM'=> ?_,λ_ _ _=>rfl,gy _⟩;rcases hM' with h|h
   .exact hM (.inl h)
   .exact hM (.inr (ku b h))
  refine⟨m',⟨λk o hk=> ?_,λk k' o o' lk lk' b hk hk' ho ho' hmk hmk' hbk hbk'=> ?_,λk hk=> ?_,λb hb=>H.uL b (ku b hb),H.xlt⟩,⟨hs.1,λy s hy=> ?_⟩,ku,λj l' _ h=>hext j l' h⟩
  .rw[hh']at hk;by_cases h1:k=ts.n
   .subst h1;rw[bW rfl]at hk;cases hk;refine⟨{l with n:=len},en,hz,⟨rfl,by show len<=l.cap;omega⟩,hb0,λb hb=> ?_⟩;obtain⟨e6,T,vs,e7,e8,e9,e10⟩:=hbb b hb;refine⟨e6,T,vs,e7,e8,e9,λi hi=> ?_⟩;have hfe:fE t (xs.take len) i=fE t xs i:=(by unfold fE;simp only[fD,tq];rw[bW hi]);rw[hfe];exact⟨(e10 i ah).1,λj y hy=>((e10 i ah).2 j y hy).later hL⟩
   .rw[dn h1]at hk;by_cases h0:k=kb
    .subst h0;rw[bW rfl]at hk;cases hk;obtain⟨l',b,T,vs,e1,e2,e3,e4,e5⟩:=H.obj k _ hbo;refine⟨l',b,T,vs,hext _ _ e1,e2,e3,⟨by rw[oQ];exact e4.1,λi y hy=> ?_⟩,e5⟩;rw[xU]at hy;by_cases hi:off=i
     .subst hi;rw[bW rfl]at hy;have hlt:off<cs.length:=by
       rcases mI off cs.length with h|h
       .exact h
       .rw[xS h]at hx;cases hx
      rw[bW hlt]at hy;cases hy;have iN:=e4.2 off _ hx;generalize vs.getD off undef=v at iN;cases iN with|sl _ _ _ l2 a c hk h0 h1 h2 h3=>rw[hl]at hk;cases hk;obtain⟨rfl,rfl⟩:=h0 rfl;exact dU.own ts.n {l with n:=len} en
     .rw[dn hi]at hy;exact(e4.2 i y hy).later hL
    rw[dn h0]at hk;by_cases h2:k=q
    .rw[bW h2]at hk;cases hk;trivial
    .rw[dn h2]at hk;have ho:=H.obj k o hk;cases o with
     |dead=>trivial
     |ms es=>obtain⟨l',b,rows,clock,e1,e2,e3,e4⟩:=ho;exact⟨l',b,rows,clock,hext _ _ e1,e2,e3,e4⟩
     |ra z n cs=>obtain⟨l',b,T,vs,e1,e2,e3,e4,e5,e6,e7,e8,e9,e10⟩:=ho;exact⟨l',b,T,vs,hext _ _ e1,e2,e3,e4,e5,e6,e7,e8,e9,λi x hx=>(e10 i x hx).later hL⟩
     |box cs=>obtain⟨l',b,T,vs,e1,e2,e3,e4,e5⟩:=ho;exact⟨l',b,T,vs,hext _ _ e1,e2,e3,e4.later hL,e5⟩
     |arr z n f=>obtain⟨l',e1,e2,e3,e4,e5⟩:=ho;refine⟨l',hext _ _ e1,e2,e3,e4,λb hb=> ?_⟩;obtain⟨e6,T,vs,e7,e8,e9,e10⟩:=e5 b hb;exact⟨e6,T,vs,e7,e8,e9,λi hi=>⟨(e10 i hi).1,λj y hy=>((e10 i hi).2 j y hy).later hL⟩⟩
  .rw[hh']at hk hk'
   have back:∀{k:Nat} {o:aU} {lk:Loc},(if k=ts.n then some (aU.arr (wd t) len (fE t (xs.take len)))else if k=kb then some (.box (cs.set off (.own ts.n)))else if k=q then some .dead else(ts.er.h)[k]?)=some o->o.live->m' k=some lk->lk.blk=some b→
     ∃k0 o0 l0,(ts.er.h)[k0]? =some o0/\o0.live/\m k0=some l0/\l0.blk=some b/\((k=ts.n/\k0=q)\/(k≠ts.n/\k≠q/\k0=k)):=by
    intro k o lk h1 h2 h3 h4;by_cases e1:k=ts.n
    .subst e1;rw[en]at h3;cases h3;exact⟨q,_,l,hqo,trivial,hl,h4,.inl ⟨rfl,rfl⟩⟩
    .rw[dn e1]at h1;rw[em k e1]at h3;by_cases e0:k=kb
     .subst e0;exact⟨k,_,lk,hbo,trivial,h3,h4,.inr ⟨e1,hne,rfl⟩⟩
     rw[dn e0]at h1;by_cases e2:k=q
     .rw[bW e2]at h1;cases h1;exact h2.elim
     .rw[dn e2]at h1;exact⟨k,o,lk,h1,h2,h3,h4,.inr ⟨e1,e2,rfl⟩⟩
   obtain⟨k0,o0,l0,a1,a2,a3,a4,a5⟩:=back hk ho hmk hbk;obtain⟨k1,o1,l1,b1,b2,b3,b4,b5⟩:=back hk' ho' hmk' hbk';have:=H.inj k0 k1 o0 o1 l0 l1 b a1 b1 a2 b2 a3 b3 a4 b4;rcases a5 with⟨c1,c2⟩|⟨c1,c2,c3⟩<;>rcases b5 with⟨d1,d2⟩|⟨d1,d2,d3⟩
   .rw[c1,d1]
   .exact absurd (by rw[<-d3,<-this,c2]) d2
   .exact absurd (by rw[<-c3,this,d2]) c2
   .rw[<-c3,<-d3];exact this
  .have hk:ts.n+1<=k:=(by rw[show(GX ts kb off cs q len t xs).er.h.length=ts.n+1 from AU _ _]at hk;exact hk);rw[em k ah];exact H.used k (by rw[show ts.er.h.length=ts.n from AU _ _];omega)
  .obtain⟨v,hv,iN⟩:=hs.2 y s hy;exact⟨v,hv,iN.later hL⟩
 .intro k hk;have hk:ts.n+1<=k:=hk;show lookO ((ts.n,.arr t (xs.take len))::(kb,.box (cs.set off (.own ts.n)))::(q,.dead)::ts.h) k=.dead;simp only[lookO];have hb:Nat.beq ts.n k=false:=by rcases hb:Nat.beq ts.n k with _|_;rfl;have:=eG hb;omega
  have hb2:Nat.beq q k=false:=by rcases hb:Nat.beq q k with _|_;rfl;have:=eG hb;omega
  have hb3:Nat.beq kb k=false:=by rcases hb:Nat.beq kb k with _|_;rfl;have:=eG hb;omega
  rw[hb,hb3,hb2];exact hok k ah
theorem aIt{β:Type}{p:Nat}{ts:TS}{kb off:Nat}{k:TS->Option β}{r:β}(hok:ts.ok)(h:akA ts kb off k=some r):∃ts',ts'.ok/\Le p ts.er ts'.er/\k ts'=some r:=by
 unfold akA at h;split at h
 .rename_i cs hbx;split at h
  .rename_i q lo len hx;split at h
   .rename_i t xs hq;rcases hb:Nat.beq lo 0 with _|_;rw[hb]at h;cases h;rw[hb]at h;have:=eG hb;subst this;obtain⟨hlen,h⟩:=LV h;obtain⟨h1,h2⟩:=aMc (p:=p) hok hbx hx hq hlen;exact⟨_,h2,h1,h⟩
   .cases h
  .cases h
 .cases h
theorem ahe{β:Type}{p:Nat}{k:TS->Option β}{r:β}:∀{l:List (Nat×Nat)} {ts:TS},ts.ok->Mi l ts k=some r→∃ts',ts'.ok/\Le p ts.er ts'.er/\k ts'=some r
 | [],ts,hok,h=>⟨ts,hok,Le.refl p _,h⟩
 |(kb,off)::l,ts,hok,h=>by simp only[Mi]at h;obtain⟨t1,a1,a2,a3⟩:=aIt (p:=p) hok h;obtain⟨t2,b1,b2,b3⟩:=ahe (p:=p) a1 a3;exact⟨t2,b1,a2.trans b2,b3⟩
end Go.AM
namespace Go.AM
open Go Go.RowKit Go.CP
section
variable {ts:TS}{kd:IntKind}{s:SV}{v:AV}
inductive An(β:Type) where
 |z
 |two (a b:An β)
 |one (a:An β)
 |cut (sh:Shape) (J:sh.V->Option β) (a b:An β)
 |lp (sh:Shape) (L:Nat->sh.V->Option β) (a:(sh.V->Option β)->An β)
 |sp (t n:Nat)
 |sn (t n:Nat)
 |rw (l:List (Nat×Nat))
 |GJ (t n:Nat)
 |un (a b:An β)
 |sb (t off n:Nat)
 |ab (t off n:Nat)
 |sm (l:List (Nat×Nat×Nat))
 |gs (l:List Nat)
 |ct (a:An β)
 |cf (a:An β)
def An.l{β:Type}:An β->An β
 | .two a _=>a
 | .one a=>a
 |_=> .z
def An.r{β:Type}:An β->An β
 | .two _ b=>b
 |_=> .z
def An.zz{β:Type}:Nat->An β->An β
 |0,a=>a
 |n+1,a=> .two .z (An.zz n a)
def rP{β:Type}(n:TS->Option β)(k:Exit->TS->Option β):Exit->TS->Option β
 | .normal,ts=>n ts
 |e,ts=>k e ts
def Qh{β:Type}(id:Nat)(k:Exit->TS->Option β):Exit->TS->Option β
 | .exit j,ts=>bif Nat.beq j id then k .normal ts else k (.exit j) ts
 |e,ts=>k e ts
def Br{β:Type}(p:Nat)(sh:Shape)(J:sh.V->Option β)(ts:TS):Option β:=Xl sh.slots ts λts=>(dec sh p ts).bind J
def boolT(ts:TS)(c:Operand):Option Bool:=
 match j3 ts.σ c with
 |some s=>Ab s
 |none=>none
def spl{β:Type}(v:Int):Nat->(Nat->Option β)->Option β
 |0,_=>none
 |n+1,f=>bif v==(n:Int)then f n else spl v n f
def Mk(ts:TS)(t:Nat)(kd:IntKind)(j:Nat):TS:=⟨mQ ts.σ (some t) (fP (.int kd (j:Int))),ts.h,ts.n⟩
def akC{β:Type}(ts:TS)(t n:Nat)(f:TS->Option β):Option β:=
 match look ts.σ t with
 |some (.one (.s (.c (.val (.int kd v)))))=>spl v n λj=>f (Mk ts t kd j)
 |_=>none
def akB(ts:TS)(t:Nat)(kd:IntKind):TS:=⟨mQ ts.σ (some t) (fP (.int kd (-1))),ts.h,ts.n⟩
def akD{β:Type}(ts:TS)(t n:Nat)(f:TS->Option β):Option β:=
 match look ts.σ t with
 |some (.one (.s (.c (.val (.int kd v)))))=>bif v== -1 then f (akB ts t kd)else spl v n λj=>f (Mk ts t kd j)
 |_=>none
def aMT(ts:TS)(t:Nat)(s:SV):TS:=⟨mQ ts.σ (some t) s,ts.h,ts.n⟩
def WO(ts:TS)(k o:Nat)(cs:List SC)(kd:IntKind)(j:Nat):TS:=⟨ts.σ,(k,.box (cs.set o (.c (.val (.int kd (j:Int))))))::ts.h,ts.n⟩
def JF{β:Type}(ts:TS)(t off n:Nat)(f:TS->Option β):Option β:=
 match look ts.σ t with
 |some (.one (.s (.pb k o)))=>match lookO ts.h k with
  | .box cs=>match cs[o+off]? with
   |some (.c (.val (.int kd v)))=>spl v n λj=>f (WO ts k (o+off) cs kd j)
   |_=>none
  |_=>none
 |_=>none
def WQ{β:Type}(f:TS->Option β):List (Nat×Nat×Nat)->TS->Option β
 | [],ts=>f ts
 |(t,off,n)::r,ts=>JF ts t off n (WQ f r)
def asB{β:Type}(ts:TS)(t off n:Nat)(f:TS->Option β):Option β:=
 match look ts.σ t with
 |some (.one (.s (.pb k o)))=>match lookO ts.h k with
  | .box cs=>match cs[o+off]? with
   |some (.c (.val (.int kd v)))=>bif v==(n:Int)then f (WO ts k (o+off) cs kd n)else none
   |_=>none
  |_=>none
 |_=>none
def asT{β:Type}(ts:TS)(t n:Nat)(f:TS->Option β):Option β:=
 match look ts.σ t with
 |some (.one (.s (.c (.val (.int kd v)))))=>bif v==(n:Int)then f (Mk ts t kd n)else none
 |_=>none
def MI{β:Type}(ex:An β->TS->(Exit->TS->Option β)->Option β)(k:Exit->TS->Option β):An β->TS->Option β
 | .un a b,ts=>ex a ts (rP (λts'=>MI ex k b ts') k)
 |_,_=>none
def JW{β:Type}(ex:An β->TS->(Exit->TS->Option β)->Option β)(va:An β->(Exit->TS->Option β)->Prop)(k:Exit->TS->Option β):An β->Prop
 | .un a b=>va a (rP (λts'=>MI ex k b ts') k)/\JW ex va k b
 | .z=>True
 |_=>False
def unD{β:Type}:An β->Nat
 | .un _ b=>unD b+1
 |_=>0
variable [Fuel]
section
variable {β:Type} (C:Cx) (p:Nat)
def exec:Code->An β->TS->(Exit->TS->Option β)->Option β
 | .skip,_,ts,k=>k .normal ts
 | .region id ops any,.sp t n,ts,k=>akC ts t n λts'=>uQ C [] id ops any ts' (k .normal)
 | .region id ops any,.sn t n,ts,k=>akD ts t n λts'=>uQ C [] id ops any ts' (k .normal)
 | .region id ops any,.sb t off n,ts,k=>JF ts t off n λts'=>uQ C [] id ops any ts' (k .normal)
 | .region id ops any,.ab t off n,ts,k=>asB ts t off n λts'=>uQ C [] id ops any ts' (k .normal)
 | .region id ops any,.sm l,ts,k=>WQ (λts'=>uQ C [] id ops any ts' (k .normal)) l ts
 | .region id ops any,.gs l,ts,k=>uQ C l id ops any ts (k .normal)
 | .region id ops any,.rw l,ts,k=>uQ C [] id ops any ts λts'=>Mi l ts' (k .normal)
 | .region id ops any,.GJ t n,ts,k=>asT ts t n λts'=>uQ C [] id ops any ts' (k .normal)
 | .region id ops any,_,ts,k=>uQ C [] id ops any ts (k .normal)
 | .seq x y,.cut sh J a b,ts,k=>exec x a ts (rP (Br p sh J) k)
 | .seq x y,an,ts,k=>exec x an.l ts (rP (λts'=>exec y an.r ts' k) k)
 | .cond c x _,.ct a,ts,k=>match boolT ts c with
  |some b=>bif b then exec x a ts k else none
  |none=>none
 | .cond c _ y,.cf a,ts,k=>match boolT ts c with
  |some b=>bif b then none else exec y a ts k
  |none=>none
 | .cond c x y,an,ts,k=>match boolT ts c with
  |some b=>bif b then exec x an.l ts k else exec y an.r ts k
  |none=>none
 | .block id c,an,ts,k=>exec c an.l ts (Qh id k)
 | .loop c,.lp sh L a,ts,k=>Br p sh (L fuel) ts
 | .loop c,.un a b,ts,k=>MI (λa ts k=>exec c a ts k) k (.un a b) ts
 | .exit id,_,ts,k=>k (.exit id) ts
 | .ret,.rw l,ts,k=>Mi l ts λts'=>k .ret ts'
 | .ret,_,ts,k=>k .ret ts
 |_,_,_,_=>none
def valid:Code->An β->(Exit->TS->Option β)->Prop
 |_,.z,_=>True
 | .region _ _ _,.sp _ _,_=>True
 | .region _ _ _,.sn _ _,_=>True
 | .region _ _ _,.GJ _ _,_=>True
 | .region _ _ _,.sb _ _ _,_=>True
 | .region _ _ _,.ab _ _ _,_=>True
 | .region _ _ _,.sm _,_=>True
 | .region _ _ _,.gs _,_=>True
 | .region _ _ _,.rw _,_=>True
 | .ret,.rw _,_=>True
 | .seq x y,.cut sh J a b,k=>valid x a (rP (Br p sh J) k)/\valid y b k∧∀v,J v=exec C p y b (enc sh v) k
 | .seq x y,.two a b,k=>valid x a (rP (λts'=>exec C p y b ts' k) k)/\valid y b k
 | .cond _ x y,.two a b,k=>valid x a k/\valid y b k
 | .cond _ x _,.ct a,k=>valid x a k
 | .cond _ _ y,.cf a,k=>valid y a k
 | .block id c,.one a,k=>valid c a (Qh id k)
 | .loop c,.lp sh L a,k=>(∀v,L 0 v=none)∧∀n,valid c (a (L n)) (rP (Br p sh (L n)) k)∧∀v,L (n+1) v=exec C p c (a (L n)) (enc sh v) (rP (Br p sh (L n)) k)
 | .loop c,.un a b,k=>JW (λa ts k=>exec C p c a ts k) (λa k=>valid c a k) k (.un a b)
 |_,_,_=>False
end
def Post{β:Type}(p:Nat)(k:Exit->TS->Option β)(res:β):Exit->St->Prop:=λe st=>∃ts',k e ts'=some res/\ts'.ok/\Le p st ts'.er
theorem ahp{c:Operand}{b:Bool}(h:boolT ts c=some b):abp ts.er c=some b:=by
 unfold boolT at h;split at h
 .rename_i s hs;have:=Uk h;subst this;unfold abp;rw[show j3 ts.er.σ c=some (fP (.bool b))from hs];rfl
 .cases h
theorem ag5{β:Type}{p:Nat}{sh:Shape}{J:sh.V->Option β}{r:β}(hok:ts.ok)(h:Br p sh J ts=some r):∃v,Le p ts.er (enc sh v).er/\J v=some r:=by obtain⟨t1,a1,a2,a3⟩:=ahK (p:=p) hok h;obtain⟨v,b1,b2⟩:=DT a3;exact⟨v,a2.trans (aKS a1 b1),b2⟩
section
variable {β:Type} {C:Cx} {p:Nat}
theorem aaB{β:Type}{v:Int}{f:Nat->Option β}{r:β}:∀{n:Nat},spl v n f=some r→∃j:Nat,v=(j:Int)/\f j=some r
 |0,h=>by cases h
 |n+1,h=>by rw[spl]at h;cases hb:(v==(n:Int))with|true=>rw[hb]at h;exact⟨n,aD hb,h⟩|false=>rw[hb]at h;exact aaB h
theorem ais{p:Nat}{t:Nat}{j:Nat}(h:look ts.σ t=some (.one (.s (.c (.val (.int kd (j:Int))))))):Le p ts.er (Mk ts t kd j).er:=by
 intro X w m nt a H hs;refine⟨m,H,?_,λ_ h=>h,λ_ _ _ h=>h⟩;refine⟨hs.1,λx s hx=>hs.2 x s ?_⟩;have hy:look (mQ ts.σ (some t) (fP (.int kd (j:Int)))) x=some s:=hx;rw[uW]at hy;by_cases q:some t=some x
 .rw[bW q]at hy;have q':t=x:=aD q
  have hy':fP (.int kd (j:Int))=s:=aD hy
  rw[<-hy',<-q'];exact h
 .rw[dn q]at hy;exact hy
theorem aLo{p:Nat}{t:Nat}{s':SV}(h:look ts.σ t=some s)(hc:∀w m M v,eZ w m M s v->eZ w m M s' v):Le p ts.er (aMT ts t s').er:=by
 intro X w m nt a H hs;refine⟨m,H,?_,λ_ h=>h,λ_ _ _ h=>h⟩;refine⟨hs.1,λx s2 hx=> ?_⟩;have hy:look (mQ ts.σ (some t) s') x=some s2:=hx;rw[uW]at hy;by_cases q:some t=some x
 .rw[bW q]at hy;have q':t=x:=aD q
  have hy':s'=s2:=aD hy
  obtain⟨v,hv,iN⟩:=hs.2 t s h;rw[<-hy',<-q'];exact⟨v,hv,hc _ _ _ _ iN⟩
 .rw[dn q]at hy;exact hs.2 x s2 hy
theorem aKC{p:Nat}{t:Nat}(h:look ts.σ t=some (.one (.s (.c (.val (.int kd (-1))))))):Le p ts.er (akB ts t kd).er:=
 aLo h λw m M v h=>h
theorem ahl{β:Type}{p:Nat}{ts:TS}{t off n:Nat}{f:TS->Option β}{r:β}(hok:ts.ok)(e:JF ts t off n f=some r):∃ts',Le p ts.er ts'.er/\ts'.ok/\f ts'=some r:=by
 unfold JF at e;split at e
 .rename_i k o hl;split at e
  .rename_i cs ho;split at e
   .rename_i kd v hv;obtain⟨j,hj,e2⟩:=aaB e;subst hj;have hcs:cs.set (o+off) (.c (.val (.int kd (j:Int))))=cs:=by
     apply Ea;intro i;rw[xU];by_cases h1:o+off=i
     .subst h1;rw[bW rfl];have hlt:=iF hv;rw[bW hlt,hv]
     .rw[dn h1]
    have hlk:∀i,lookO (WO ts k (o+off) cs kd j).h i=lookO ts.h i:=(by intro i;show(bif Nat.beq k i then _ else lookO ts.h i)=_;rw[hcs];cases hb:Nat.beq k i with|true=>have:=eG hb;subst this;rw[ho];rfl|false=>rfl);refine⟨_,?_,λi hi=>by rw[hlk];exact hok i hi,e2⟩;have:(WO ts k (o+off) cs kd j).er=ts.er:=(by show(⟨ts.σ,uS (WO ts k (o+off) cs kd j).h ts.n⟩:St)=⟨ts.σ,uS ts.h ts.n⟩;congr 1;unfold uS;exact aiI λi _=>by rw[hlk]);rw[this];exact Le.refl p _
   .cases e
  .cases e
 .cases e
theorem aJM{β:Type}{t off n:Nat}{f:TS->Option β}{r:β}(e:asB ts t off n f=some r):JF ts t off (n+1) f=some r:=by
 unfold asB at e;unfold JF;split at e
 .rename_i k o hl;split at e
  .rename_i cs ho;split at e
   .rename_i kd v hv;cases hb:(v==(n:Int))with
    |false=>rw[hb]at e;cases e
    |true=>rw[hb]at e;simp only[spl,hb,aY];exact e
   .cases e
  .cases e
 .cases e
theorem apr{β:Type}{p:Nat}{f:TS->Option β}{r:β}:∀{l:List (Nat×Nat×Nat)} {ts:TS},ts.ok->WQ f l ts=some r→∃ts',Le p ts.er ts'.er/\ts'.ok/\f ts'=some r
 | [],ts,hok,e=>⟨ts,Le.refl p _,hok,e⟩
 |(t,off,n)::l,ts,hok,e=>by obtain⟨ts1,h1,h2,h3⟩:=ahl (p:=p) hok (show JF ts t off n (WQ f l)=some r from e);obtain⟨ts2,h4,h5,h6⟩:=apr h2 h3;exact⟨ts2,h1.trans h4,h5,h6⟩
theorem yN(hT:∀S∈C.T,kR C.P S):∀(c:Code) {an:An β} {ts:TS} {k:Exit->TS->Option β} {res:β},valid C p c an k->ts.ok->exec C p c an ts k=some res->nL C.P C.nt p c (Post p k res) ts.er
 | .skip,an,ts,k,res,_,hok,e=>aJK ⟨ts,by simpa[exec]using e,hok,Le.refl p _⟩
 | .exit id,an,ts,k,res,_,hok,e=>aJI ⟨ts,by simpa[exec]using e,hok,Le.refl p _⟩
 | .ret,an,ts,k,res,_,hok,e=>by cases an with
  |rw l=>have e:Mi l ts (λts'=>k .ret ts')=some res:=e;obtain⟨ts',h1,h2,h3⟩:=ahe (p:=p) hok e;exact arh ⟨ts',h3,h1,h2⟩
  |_=>exact arh ⟨ts,e,hok,Le.refl p _⟩
 | .region id ops any,an,ts,k,res,_,hok,e=>by
  have plain:∀{ts:TS},ts.ok->uQ C [] id ops any ts (k .normal)=some res->nL C.P C.nt p (.region id ops any) (Post p k res) ts.er:=
   λhok e=>D5 (aiy hT hok e) (λex st h=>by obtain⟨rfl,h⟩:=h;exact h)
  cases an with
  |sp t n=>
   have e:akC ts t n (λts'=>uQ C [] id ops any ts' (k .normal))=some res:=e;unfold akC at e;split at e
   .rename_i kd v hl;obtain⟨j,rfl,h2⟩:=aaB e;exact Bc (ais hl) (plain (ts:=Mk ts t kd j) hok h2)
   .cases e
  |sn t n=>
   have e:akD ts t n (λts'=>uQ C [] id ops any ts' (k .normal))=some res:=e;unfold akD at e;split at e
   .rename_i kd v hl;cases hb:(v== -1)with|true=>rw[hb]at e;have hv:v= -1:=(aD hb);subst hv;exact Bc (aKC hl) (plain (ts:=akB ts t kd) hok e)|false=>rw[hb]at e;obtain⟨j,rfl,h2⟩:=aaB e;exact Bc (ais hl) (plain (ts:=Mk ts t kd j) hok h2)
   .cases e
  |GJ t n=>
   have e:asT ts t n (λts'=>uQ C [] id ops any ts' (k .normal))=some res:=e;unfold asT at e;split at e
   .rename_i kd v hl;cases hb:(v==(n:Int))with
    |false=>rw[hb]at e;cases e
    |true=>rw[hb]at e;have hv:v=(n:Int):=(aD hb);subst hv;exact Bc (ais hl) (plain (ts:=Mk ts t kd n) hok e)
   .cases e
  |sb t off n=>have e:JF ts t off n (λts'=>uQ C [] id ops any ts' (k .normal))=some res:=e;obtain⟨ts',h1,h2,h3⟩:=ahl (p:=p) hok e;exact Bc h1 (plain (ts:=ts') h2 h3)
  |ab t off n=>have e:asB ts t off n (λts'=>uQ C [] id ops any ts' (k .normal))=some res:=e;obtain⟨ts',h1,h2,h3⟩:=ahl (p:=p) hok (aJM e);exact Bc h1 (plain (ts:=ts') h2 h3)
  |sm l=>have e:WQ (λts'=>uQ C [] id ops any ts' (k .normal)) l ts=some res:=e;obtain⟨ts',h1,h2,h3⟩:=apr (p:=p) hok e;exact Bc h1 (plain (ts:=ts') h2 h3)
  |gs l=>exact D5 (aiy hT hok e) (λex st h=>by obtain⟨rfl,h⟩:=h;exact h)
  |rw l=>have e:uQ C [] id ops any ts (λts'=>Mi l ts' (k .normal))=some res:=e;refine D5 (aiy hT hok e) (λex st h=> ?_);obtain⟨rfl,ts1,h1,h2,h3⟩:=h;obtain⟨ts2,b1,b2,b3⟩:=ahe (p:=p) h2 h1;exact⟨ts2,b3,b1,h3.trans b2⟩
  |un a b=>exact plain hok e
  |ct a=>exact plain hok e
  |cf a=>exact plain hok e
  |z=>exact plain hok e
  |two a b=>exact plain hok e
  |one a=>exact plain hok e
  |cut sh J a b=>exact plain hok e
  |lp sh L a=>exact plain hok e
 | .cond c x y,an,ts,k,res,hv,hok,e=>by
  have ct:∀a,an=.ct a->nL C.P C.nt p (.cond c x y) (Post p k res) ts.er:=by
   intro a ha;subst ha;simp only[exec]at e;split at e
   .rename_i b hb;cases b with
    |true=>exact ahW (ahp hb) (λ_=>yN hT x hv hok e) (λhf=>by cases hf)
    |false=>cases e
   .cases e
  have cf:∀a,an=.cf a->nL C.P C.nt p (.cond c x y) (Post p k res) ts.er:=by
   intro a ha;subst ha;simp only[exec]at e;split at e
   .rename_i b hb;rcases b with _|_;exact ahW (ahp hb) (λhf=>by cases hf) (λ_=>yN hT y hv hok e);cases e
   .cases e
  by_cases h1:∃a,an=.ct a
  .obtain⟨a,ha⟩:=h1;exact ct a ha
  by_cases h2:∃a,an=.cf a
  .obtain⟨a,ha⟩:=h2;exact cf a ha
  clear ct cf
  rw[show exec C p (.cond c x y) an ts k=(match boolT ts c with
   |some b=>bif b then exec C p x an.l ts k else exec C p y an.r ts k
   |none=>none)by cases an<;>first|rfl|exact absurd ⟨_,rfl⟩ h1|exact absurd ⟨_,rfl⟩ h2]at e
  split at e
  .rename_i b hb;have hva:valid C p x an.l k/\valid C p y an.r k:=by cases an with
    |z=>exact⟨by cases x<;>trivial,by cases y<;>trivial⟩
    |two a b=>exact hv
    |ct a=>exact absurd ⟨_,rfl⟩ h1
    |cf a=>exact absurd ⟨_,rfl⟩ h2
    |_=>exact hv.elim
   refine ahW (ahp hb) (λht=> ?_) (λhf=> ?_)
   .subst ht;exact yN hT x hva.1 hok e
   .subst hf;exact yN hT y hva.2 hok e
  .cases e
 | .block id c,an,ts,k,res,hv,hok,e=>by
  have hva:valid C p c an.l (Qh id k):=by cases an with
   |z=>cases c<;>trivial
   |one a=>exact hv
   |_=>exact hv.elim
  have e:exec C p c an.l ts (Qh id k)=some res:=by simpa[exec]using e
  refine aIM (D5 (yN hT c hva hok e) (λex st h=> ?_));obtain⟨ts',h1,h2,h3⟩:=h;cases ex with
  |exit j=>simp only[Qh]at h1;simp only[aiV];cases hb:Nat.beq j id with|true=>rw[hb]at h1;rw[bW (eG hb)];exact⟨ts',h1,h2,h3⟩|false=>rw[hb]at h1;rw[dn (λh=>by subst h;rw[oW]at hb;cases hb)];exact⟨ts',h1,h2,h3⟩
  |_=>exact⟨ts',h1,h2,h3⟩
 | .seq x y,an,ts,k,res,hv,hok,e=>by
  have plain:valid C p x an.l (rP (λts'=>exec C p y an.r ts' k) k)->valid C p y an.r k->exec C p x an.l ts (rP (λts'=>exec C p y an.r ts' k) k)=some res->nL C.P C.nt p (.seq x y) (Post p k res) ts.er:=by intro v1 v2 e;refine aa0 (D5 (yN hT x v1 hok e) (λex st h=> ?_));obtain⟨ts',h1,h2,h3⟩:=h;cases ex with|normal=>exact Bc h3 (yN hT y v2 h2 h1)|_=>exact⟨ts',h1,h2,h3⟩
  cases an with
  |z=>exact plain (by cases x<;>trivial) (by cases y<;>trivial) e
  |two a b=>have hv:valid C p x a (rP (λts'=>exec C p y b ts' k) k)/\valid C p y b k:=hv;exact plain hv.1 hv.2 e
  |one a=>exact hv.elim
  |lp sh L a=>exact hv.elim
  |sp t n=>exact hv.elim
  |sn t n=>exact hv.elim
  |rw l=>exact hv.elim
  |GJ t n=>exact hv.elim
  |un a b=>exact hv.elim
  |sb t off n=>exact hv.elim
  |ab t off n=>exact hv.elim
  |sm l=>exact hv.elim
  |gs l=>exact hv.elim
  |ct a=>exact hv.elim
  |cf a=>exact hv.elim
  |cut sh J a b=>have hv:valid C p x a (rP (Br p sh J) k)/\valid C p y b k∧∀v,J v=exec C p y b (enc sh v) k:=hv;obtain⟨v1,v2,v3⟩:=hv;have e:exec C p x a ts (rP (Br p sh J) k)=some res:=e;refine aa0 (D5 (yN hT x v1 hok e) (λex st h=> ?_));obtain⟨ts',h1,h2,h3⟩:=h;cases ex with
   |normal=>obtain⟨v,h4,h5⟩:=ag5 h2 h1;rw[v3 v]at h5;exact Bc (h3.trans h4) (yN hT y v2 (abr sh v) h5)
   |_=>exact⟨ts',h1,h2,h3⟩
 | .loop c,an,ts,k,res,hv,hok,e=>by cases an with
  |lp sh L a=>obtain⟨v0,vn⟩:=hv;have e:Br p sh (L fuel) ts=some res:=e;obtain⟨v,h1,h2⟩:=ag5 hok e;refine aJJ (λn s=>∃v,L n v=some res/\Le p s (enc sh v).er) (n:=fuel) ⟨v,h2,h1⟩ (λn s hI=> ?_);obtain⟨v,h1,h2⟩:=hI;cases n with
   |zero=>rw[v0 v]at h1;cases h1
   |succ n=>obtain⟨w1,w2⟩:=vn n;rw[w2 v]at h1;refine Bc h2 (D5 (yN hT c w1 (abr sh v) h1) (λex st h=> ?_));obtain⟨ts',h3,h4,h5⟩:=h;cases ex with
    |normal=>obtain⟨v',h6,h7⟩:=ag5 h4 h3;exact⟨n,aiP n,v',h7,h5.trans h6⟩
    |_=>exact⟨ts',h3,h4,h5⟩
  | un a b=>
   have main:∀(an:An β) (ts:TS),JW (λa ts k=>exec C p c a ts k) (λa k=>valid C p c a k) k an->ts.ok->MI (λa ts k=>exec C p c a ts k) k an ts=some res→
     ∀Df X w0 M0 m0 a w,Rel Df X w0 M0 m0 p C.nt ts.er a w->Code.rounds C.P c (λe a' w'=>∃st',Post p k res e st'/\Rel Df X w0 M0 m0 p C.nt st' a' w') (unD an) a w:=by
    intro an
    have:∀n,unD an=n→∀(ts:TS),JW (λa ts k=>exec C p c a ts k) (λa k=>valid C p c a k) k an->ts.ok->MI (λa ts k=>exec C p c a ts k) k an ts=some res→
     ∀Df X w0 M0 m0 a w,Rel Df X w0 M0 m0 p C.nt ts.er a w->Code.rounds C.P c (λe a' w'=>∃st',Post p k res e st'/\Rel Df X w0 M0 m0 p C.nt st' a' w') n a w:=by
     intro n;induction n generalizing an with
     |zero=>intro hn ts _ _ e;cases an with
      |un a b=>cases hn
      |_=>cases e
     |succ n ih=>intro hn ts hv hok e Df X w0 M0 m0 a w R;cases an with
      |un a1 b1=>obtain⟨v1,v2⟩:=hv;have hn:unD b1=n:=Nat.succ.inj hn;have e:exec C p c a1 ts (rP (λts'=>MI (λa ts k=>exec C p c a ts k) k b1 ts') k)=some res:=e;refine wp_mono (yN hT c v1 hok e Df X w0 M0 m0 a w R) (λex a' w' h=> ?_);obtain⟨s,⟨ts',h3,h4,h5⟩,r⟩:=h;cases ex with|normal=>exact ih b1 hn ts' v2 h4 h3 Df X w0 M0 m0 a' w' (r.le h5)|_=>exact⟨s,⟨ts',h3,h4,h5⟩,r⟩
      |_=>cases hn
    exact this _ rfl
   intro Df X w0 M0 m0 a' w R;exact wp_loop_rounds _ (main (.un a b) ts hv hok e Df X w0 M0 m0 a' w R)
  |_=>simp[exec]at e
end
def ajL(P:Program)(ts:TS):ResultVar->Option AV
 | .tmp t=>match look ts.σ t with
  |some (.one v)=>some v
  |_=>none
 | .cell a T=>match look ts.σ a with
  |some (.one (.s (.pb k off)))=>match lookO ts.h k with
   | .box cs=>yu P T cs off
   |_=>none
  |_=>none
def acK(P:Program)(ts:TS):List ResultVar->Option (List AV)
 | []=>some []
 |x::r=>match ajL P ts x,acK P ts r with
  |some v,some l=>some (v::l)
  |_,_=>none
def L9:Nat->List AV->List (Nat×SV)
 |_,[]=> []
 |i,v::r=>(i,.one v)::L9 (i+1) r
def vY{β:Type}(P:Program)(p:Nat)(rs:Shape)(res:List ResultVar)(u:rs.V->β):Exit->TS->Option β:=λe ts=>
 bif(match e with| .normal=>true| .ret=>true|_=>false)then Q6 res ts λts=>
  match acK P ts res with
  |some l=>bif Nat.beq l.length rs.slots.length then(dec rs p ⟨L9 0 l,ts.h,ts.n⟩).bind λv=>some (u v)else none
  |none=>none
 else none
theorem aJu{P:Program}(hok:ts.ok){x:ResultVar}(e:ajL P ts x=some v):PW P ts.er x=some v:=by cases x with
 |tmp t=>exact e
 |cell a T=>
  simp only[ajL]at e;simp only[PW];split at e
  .rename_i k off hl;rw[show look ts.er.σ a=some (.one (.s (.pb k off)))from hl];split at e
   .rename_i cs hb;simp only;rw[ajd hok k (by rw[hb];intro h;cases h),hb];exact e
   .cases e
  .cases e
theorem aq2{P:Program}{ts:TS}(hok:ts.ok):∀{l:List ResultVar} {vs:List AV},acK P ts l=some vs->G5 P ts.er l=some vs
 | [],vs,e=>e
 |x::l,vs,e=>by
  simp only[acK]at e;simp only[G5];split at e
  .rename_i v l' h1 h2;rw[aJu hok h1,aq2 hok h2];exact e
  .cases e
theorem ao4:∀{l:List AV} {i x:Nat} {s:SV},look (L9 i l) x=some s→∃v,l[x-i]? =some v/\s=.one v/\i<=x
 | [],i,x,s,h=>by cases h
 |v::r,i,x,s,h=>by simp only[L9,look]at h;cases hb:Nat.beq i x with
  |true=>rw[hb]at h;cases h;have:=eG hb;subst this;exact⟨v,aj,rfl,gy _⟩
  |false=>rw[hb]at h;obtain⟨v',h1,h2,h3⟩:=ao4 h;refine⟨v',?_,h2,ah⟩;have:x-i=(x-(i+1))+1:=ah;rw[this,Lj];exact h1
theorem apz:∀{ks:List (Nat×SK)} {i:Nat} (v:Hg ks),sZ i ks=true->qQ i ((kN ks v).map (·.2))=kN ks v
 | [],i,v,_=>rfl
 |(x,k)::r,i,v,h=>by simp only[sZ,dQ]at h;have:=eG h.1;subst this;simp only[kN,mH,qQ];rw[apz v.2 h.2]
theorem aqH{g:Nat->aU}{h':List aU}{src:List (Option Nat)}{Z:Nat->Prop}(h:CJ g h' src Z (.one v) s):Qe g h' src Z v (Jw s):=by cases s with|one a=>exact h|mY as'=>cases h
theorem aJl{g:Nat->aU}{h':List aU}{src:List (Option Nat)}{Z:Nat->Prop}{l:List AV}{r0:SV}{ps:List (Nat×SV)}(hl:l.length=ps.length)(hr:(match some l with|some [v]=>some (SV.one v)|some vs=>some (.mY vs)|none=>none)=some r0)
  (hf:∀(i:Nat) s,(ps.map (·.2))[i]? =some s→∃v,l[i]? =some v/\CJ g h' src Z (.one v) s):CJ g h' src Z r0 (Ez ps):=by
 match l,ps,hl with
 | [],[],_=>simp at hr;subst hr;exact⟨rfl,λi y hy=>by simp at hy⟩
 | [v],[(x,s)],_=>simp at hr;subst hr;obtain⟨v',h1,h2⟩:=hf 0 s rfl;simp at h1;subst h1;exact aqH h2
 |v::v2::l,p1::p2::ps,hl=>simp at hr;subst hr;refine⟨by simpa[Ez]using hl,λi y hy=> ?_⟩;have hy:((p1::p2::ps).map λp=>Jw p.2)[i]? =some y:=hy;rw[mW]at hy;rcases hp:(p1::p2::ps)[i]? with _|q;rw[hp]at hy;cases hy;rw[hp]at hy;cases hy;obtain⟨v',h1,h2⟩:=hf i q.2 (by rw[mW,hp];rfl);exact⟨v',h1,aqH h2⟩
theorem aJv{C:Cx}{S:aS}{fn:Func}{u:S.rs.V->S.β}(n4:sZ 0 S.rs.slots=true)(hu:∀v,kN S.rs.slots (S.g (u v)).1=kN S.rs.slots v.1/\gY S.rs.objs (S.g (u v)).2=gY S.rs.objs v.2)
  {r:S.β} {e:Exit} {st:St} {ts:TS} (h1:vY C.P S.ps.objs.length S.rs fn.results.toList u e ts=some r) (h2:ts.ok) (h3:Le S.ps.objs.length st ts.er):
  aue C.P S.ps.objs.length fn (λr' h'=>r'=Ez (kN S.rs.slots (S.g r).1)/\h'=(gY S.rs.objs (S.g r).2).map TO.er) e st:=by
 unfold vY at h1;cases he:(match e with| .normal=>true| .ret=>true|_=>false)with
 |false=>rw[he]at h1;cases h1
 |true=>
  rw[he]at h1;simp only[aY]at h1;have he':e=.normal\/e=.ret:=by cases e<;>first|(exact .inl rfl)|(exact .inr rfl)|cases he
  obtain⟨ts1,k1,k2,k3⟩:=ahJ (p:=S.ps.objs.length) h2 h1;have k4:=h3.trans k2;clear h1 h2 h3 k2;clear ts;revert ts1;intro ts h2 h1 h3;split at h1
  .rename_i l hl;rcases hle:Nat.beq l.length S.rs.slots.length with _|_;rw[hle]at h1;cases h1;rw[hle]at h1;simp only[aY]at h1;have hle:=eG hle;obtain⟨o,h4,h5⟩:=DT h1;cases h5;have hres:=aq2 h2 hl;obtain⟨F,FH,hs⟩:=ah1 (ts:=⟨L9 0 l,ts.h,ts.n⟩) (g:=eB ts.er.h) (λk _ hk=>ajd h2 k hk) h4;obtain⟨r0,hr0⟩:∃r0,QK C.P ts.er fn.results.toList=some r0:=by
    unfold QK;rw[hres]
    match l with
    | []=>exact⟨_,rfl⟩
    | [v]=>exact⟨_,rfl⟩
    |v::v2::l=>exact⟨_,rfl⟩
   refine⟨he',ts.er,h3,r0,Ez (kN S.rs.slots (S.g (u o)).1),(gY S.rs.objs (S.g (u o)).2).map TO.er,Ak (qV S.rs S.ps.objs.length ⟨L9 0 l,ts.h,ts.n⟩).om 0 S.rs.objs.length,(· ∈(qV S.rs S.ps.objs.length ⟨L9 0 l,ts.h,ts.n⟩).fz),hr0,?_,?_,rfl,rfl⟩
   .rw[(hu o).2];exact FH
   .rw[(hu o).1,(hu o).2];refine aJl (l:=l) (by rw[aaP];exact hle) (by rw[<-hr0];unfold QK;rw[hres];rfl) (λi s hi=> ?_);have:=ah2 o.1 n4 i s hi;rw[nM]at this;obtain⟨s0,q1,q2⟩:=aaN F hs i s this;obtain⟨w,q3,rfl,_⟩:=ao4 q1;exact⟨w,aD q3,q2⟩
  .cases h1
theorem aqI{C:Cx}{S:aS}{fn:Func}{c:Code}{u:S.rs.V->S.β}
  (hgo:∀(vs:Array Value) (w:World),(callFunc S.f vs).run C.P w=.ok (.enter S.f vs) w) (hf:C.P.funcs[S.f]? =some fn) (hb:fn.body=some c)
  (hn:(Nat.beq C.nt fn.ntmps&&Nat.ble S.ps.slots.length fn.ntmps&&sZ 0 S.ps.slots&&sZ 0 S.rs.slots)=true) (hu:∀v,kN S.rs.slots (S.g (u v)).1=kN S.rs.slots v.1/\gY S.rs.objs (S.g (u v)).2=gY S.rs.objs v.2)
  (hw:∀v r,S.F v=some r->nL C.P C.nt S.ps.objs.length c (Post S.ps.objs.length (vY C.P S.ps.objs.length S.rs fn.results.toList u) r) (enc S.ps v).er):kR C.P S:=by
 simp only[dQ]at hn;obtain⟨⟨⟨n1,n2⟩,n3⟩,n4⟩:=hn;have n1:=eG n1;refine⟨hgo,λv r hF=> ?_⟩;have hw:=hw v r hF;rw[arC,<-apz v.1 n3,n1]at hw;have hlen:((gY S.ps.objs v.2).map TO.er).length=S.ps.objs.length:=by simp[Gl]
 refine aFA hf hb (by rw[kQ,aaP];exact n2) ?_;rw[hlen];refine D5 hw (λe st h=> ?_);obtain⟨ts,h1,h2,h3⟩:=h;exact aJv n4 hu h1 h2 h3
theorem aLY{C:Cx}{S:aS}{fn:Func}{c:Code}{u:S.rs.V->S.β}(an:An S.β)(hT:∀S∈C.T,kR C.P S)
  (hgo:∀(vs:Array Value) (w:World),(callFunc S.f vs).run C.P w=.ok (.enter S.f vs) w) (hf:C.P.funcs[S.f]? =some fn) (hb:fn.body=some c)
  (hn:(Nat.beq C.nt fn.ntmps&&Nat.ble S.ps.slots.length fn.ntmps&&sZ 0 S.ps.slots&&sZ 0 S.rs.slots)=true) (hu:∀v,kN S.rs.slots (S.g (u v)).1=kN S.rs.slots v.1/\gY S.rs.objs (S.g (u v)).2=gY S.rs.objs v.2)
  (hv:valid C S.ps.objs.length c an (vY C.P S.ps.objs.length S.rs fn.results.toList u))
  (hm:∀v,S.F v=exec C S.ps.objs.length c an (enc S.ps v) (vY C.P S.ps.objs.length S.rs fn.results.toList u)):kR C.P S:=
 aqI hgo hf hb hn hu (λv r hF=>yN hT c hv (abr S.ps v) (by rw[<-hm v];exact hF))
end
end Go.AM
namespace Go.AM
open Go Go.RowKit Go.CP
variable [Fuel]
section
variable {P:Program}{c:Code}{ops:Array Oper}{any:Bool}{x y:Code}{sh:Shape}
theorem ok0:∀S∈([]:List aS),kR P S:=λ_ h=>absurd h nU
section
variable {β:Type} {C:Cx} {p:Nat} {k:Exit->TS->Option β}
theorem vZ:valid C p c .z k:=by cases c<;>trivial
theorem vJ{id:Nat}{t n:Nat}:valid C p (.region id ops any) (.sn t n) k:=trivial
theorem vP{id:Nat}{t n:Nat}:valid C p (.region id ops any) (.sp t n) k:=trivial
theorem vR{id:Nat}{l:List (Nat×Nat)}:valid C p (.region id ops any) (.rw l) k:=trivial
theorem vS{a b:An β}(h1:valid C p x a (rP (λts'=>exec C p y b ts' k) k))(h2:valid C p y b k):valid C p (.seq x y) (.two a b) k:=⟨h1,h2⟩
theorem vD{c:Operand}{a b:An β}(h1:valid C p x a k)(h2:valid C p y b k):valid C p (.cond c x y) (.two a b) k:=⟨h1,h2⟩
theorem vB{id:Nat}{a:An β}(h:valid C p c a (Qh id k)):valid C p (.block id c) (.one a) k:=h
theorem vC{J:sh.V->Option β}{a b:An β}(h1:valid C p x a (rP (Br p sh J) k))(h2:valid C p y b k)(h3:∀v,J v=exec C p y b (enc sh v) k:=by intro v;kernel_rfl):valid C p (.seq x y) (.cut sh J a b) k:=⟨h1,h2,h3⟩
theorem vL{L:Nat->sh.V->Option β}{a:(sh.V->Option β)->An β}(h1:∀n,valid C p c (a (L n)) (rP (Br p sh (L n)) k))
  (h0:∀v,L 0 v=none:=by intro v;kernel_rfl) (h2:∀n v,L (n+1) v=exec C p c (a (L n)) (enc sh v) (rP (Br p sh (L n)) k):=by intro n v;kernel_rfl):valid C p (.loop c) (.lp sh L a) k:=⟨h0,λn=>⟨h1 n,h2 n⟩⟩
theorem vA{id:Nat}{t n:Nat}:valid C p (.region id ops any) (.GJ t n) k:=trivial
theorem vO{id:Nat}{t off n:Nat}:valid C p (.region id ops any) (.sb t off n) k:=trivial
theorem vE{id:Nat}{t off n:Nat}:valid C p (.region id ops any) (.ab t off n) k:=trivial
theorem vM{id:Nat}{l:List (Nat×Nat×Nat)}:valid C p (.region id ops any) (.sm l) k:=trivial
theorem vG{id:Nat}{l:List Nat}:valid C p (.region id ops any) (.gs l) k:=trivial
theorem vT{c:Operand}{a:An β}(h:valid C p x a k):valid C p (.cond c x y) (.ct a) k:=h
theorem vF{c:Operand}{a:An β}(h:valid C p y a k):valid C p (.cond c x y) (.cf a) k:=h
theorem vU{a b:An β}(h:JW (λa ts k=>exec C p c a ts k) (λa k=>valid C p c a k) k (.un a b)):valid C p (.loop c) (.un a b) k:=h
theorem vV{a b:An β}(h1:valid C p c a (rP (λts'=>MI (λa ts k=>exec C p c a ts k) k b ts') k))(h2:JW (λa ts k=>exec C p c a ts k) (λa k=>valid C p c a k) k b):
  JW (λa ts k=>exec C p c a ts k) (λa k=>valid C p c a k) k (.un a b):=⟨h1,h2⟩
theorem vX:JW (λa ts k=>exec C p c a ts k) (λa k=>valid C p c a k) k (.z:An β):=trivial
end
theorem aMv{P:Program}{S:aS}{F2:S.ps.V->Option S.β}(h1:kR P S)(h2:kR P {S with F:=F2,ro:=none,hr:=λ_ h=>by cases h}):kR P {S with F:=λv=>(S.F v).orElse λ_=>F2 v,ro:=none,hr:=λ_ h=>by cases h}:=by refine⟨h1.1,λv r h=> ?_⟩;cases hS:S.F v with
 |some x=>have h:(S.F v).orElse (λ_=>F2 v)=some r:=h;rw[hS]at h;exact h1.2 v r (by rw[hS];exact h)
 |none=>have h:(S.F v).orElse (λ_=>F2 v)=some r:=h;rw[hS]at h;exact h2.2 v r h
theorem fnI{S:aS}(nt:Nat)(tm:List (Nat×Ty))(T:List aS)(V:List (Nat×Nat×Nat)){fn:Func}(hf:P.funcs[S.f]? =some fn)(u:S.rs.V->S.β)(an:An S.β)(hT:∀S∈T,kR P S)
  (hv:valid ⟨P,nt,tm,T,V⟩ S.ps.objs.length c an (vY P S.ps.objs.length S.rs fn.results.toList u))
  (hb:fn.body=some c:=by rfl) (hgo:∀(vs:Array Value) (w:World),(callFunc S.f vs).run P w=.ok (.enter S.f vs) w:=by intro vs w;rfl)
  (hn:(Nat.beq nt fn.ntmps&&Nat.ble S.ps.slots.length fn.ntmps&&sZ 0 S.ps.slots&&sZ 0 S.rs.slots)=true:=by kernel_rfl) (hu:∀v,kN S.rs.slots (S.g (u v)).1=kN S.rs.slots v.1/\gY S.rs.objs (S.g (u v)).2=gY S.rs.objs v.2:=by intro v;exact⟨au,au⟩)
  (hm:∀v,S.F v=exec ⟨P,nt,tm,T,V⟩ S.ps.objs.length c an (enc S.ps v) (vY P S.ps.objs.length S.rs fn.results.toList u):=by intro v;kernel_rfl):kR P S:=
 aLY (C:=⟨P,nt,tm,T,V⟩) an hT hgo hf hb hn hu hv hm
end
theorem aDC{P:Program}(w:World)(d:Nat){T e:TypeId}(a:Option Addr)(n c:Nat)(hT:P.underlying T=some (.slice e)):
  (Op.equalIn (d+1) T (.slice a n c) (.slice none 0 0)).run P w=.ok a.isNone w:=by
 have hu:=run_underlying (P:=P) (w:=w) hT;rcases a with _|a;simp[Op.equalIn,hu];simp[Op.equalIn,hu]
theorem aHH{P:Program}{w:World}{T e:TypeId}{xo yo:Operand}{a:Option Addr}{n c:Nat}(hT:P.underlying T=some (.slice e)):
  (do eqGuard .eql T xo yo (.slice a n c) (.slice none 0 0);binOp .eql T (.slice a n c) (.slice none 0 0):Sem Value).run P w=.ok (.bool a.isNone) w:=by
 have hq:=aDC (P:=P) w 9999 a n c hT;have hg:(eqGuard .eql T xo yo (.slice a n c) (.slice none 0 0)).run P w=.ok () w:=by simp[eqGuard]
 rw[Sem.run_bind,hg];simp[binOp,Op.equal,Op.maxDepth,hq]
def aja(ops:Array Oper):Option (Nat×Nat×Nat×TypeId):=
 match ops.toList with
 | [⟨some d0,.move (.tmp x),_,_,_,none⟩,⟨some d1,.binOp .eql T (.tmp y) (.const (.slice none 0 0)) _,_,_,_,none⟩]=>bif Nat.beq y d0 then some (x,d0,d1,T)else none
 |_=>none
theorem aHX{P:Program}{nt p:Nat}{Q:Exit->St->Prop}{st:St}{id:Nat}{ops:Array Oper}(x d0 d1:Nat)(T:TypeId){e:TypeId}{t:Ty}{xs:List (den t)}{y:Code}
  (hops:aja ops=some (x,d0,d1,T))
  (hT:P.underlying T=some (.slice e)) (hx:look st.σ x=some (SV.one (.s (.c (.ls t xs))))) (hd:(Nat.blt d0 nt&&Nat.blt d1 nt)=true)
  (hy:∀b,(b=true->xs=[])->nL P nt p y Q ⟨mQ (mQ st.σ (some d0) (SV.one (.s (.c (.ls t xs))))) (some d1) (fP (.bool b)),st.h⟩):
  nL P nt p (.seq (.region id ops false) y) Q st:=by
 obtain⟨o0,o1,u,hl,h0,h0d,h0g,h1,h1d,h1g⟩:∃(o0 o1:Oper) (u:TypeId),ops.toList=[o0,o1]/\o0.op=.move (.tmp x)/\o0.dst=some d0/\o0.guard=none∧
   o1.op=.binOp .eql T (.tmp d0) (.const (.slice none 0 0)) u/\o1.dst=some d1/\o1.guard=none:=by
  unfold aja at hops;split at hops
  .rename_i e0 x0 t0 q0 af0 e1 T1 y1 u1 t1 q1 af1 hl;rcases hb:Nat.beq y1 e0 with _|_;rw[hb]at hops;cases hops;rw[hb]at hops;cases hops;have:=eG hb;subst this;exact⟨_,_,u1,hl,rfl,rfl,rfl,rfl,rfl,rfl⟩
  .cases hops
 simp only[dQ]at hd;intro Df X w0 M0 m0 a w R;obtain⟨m,H,hs,hm,hj⟩:=R.ex;obtain⟨v,hv,iN⟩:=hs.2 x _ hx;obtain⟨ad,c,rfl,hnil⟩:∃ad c,v=.slice ad xs.length c/\(ad.isNone=true->xs=[]):=by cases iN with
  |c h=>cases h with
   |ls _ _ _ h=>generalize hn:xs.length=n at h;generalize fE t xs=f at h;cases h with
    |qm _ _ ad cap=>exact⟨ad,cap,rfl,λ_=>Jf hn⟩
    |rd _ _ _ b off cap=>exact⟨_,cap,rfl,λh=>by cases h⟩
 refine wp_seq (wp_region_list ?_);rw[hl];have hev:a.eval (.tmp x)=.slice ad xs.length c:=by show a.tmps.getD x undef=_;simp[hv]
 refine wpList_step (λK hK=> ?_);rw[bW (by simp[Region.wanted,h0g])];have hr0:(execOp a.eval o0).run P w=.ok (.value (.slice ad xs.length c)) w:=by obtain⟨dst,op,type,pos,after,guard⟩:=o0;simp only at h0;subst h0;simp[execOp,hev]
 unfold Oper.wp;rw[hr0];simp only[Oper.upon];refine hK _ _ ?_;rw[h0d];have hs1:Slots w m (MX X m st.h) nt (mQ st.σ (some d0) (SV.one (.s (.c (.ls t xs))))) (a.put (some d0) (.slice ad xs.length c)):=
  aak hs (by simp only[Es];exact hd.1) Later.refl iN
 obtain⟨v1,hv1,_⟩:=hs1.2 d0 (SV.one (.s (.c (.ls t xs)))) (by rw[uW];simp);refine wpList_step (λK hK=> ?_);rw[bW (by simp[Region.wanted,h1g])];have akf:(a.put (some d0) (.slice ad xs.length c)).eval (.tmp d0)=.slice ad xs.length c:=by
  have hlt:d0<a.tmps.size:=by rw[hs.1];exact(aD hd.1)
  show((a.put (some d0) (.slice ad xs.length c)).tmps).getD d0 undef=_;simp[Act.put,hlt]
 have hr1:(execOp (a.put (some d0) (.slice ad xs.length c)).eval o1).run P w=.ok (.value (.bool ad.isNone)) w:=by obtain⟨dst,op,type,pos,after,guard⟩:=o1;simp only at h1;subst h1;have:=aHH (P:=P) (w:=w) (xo:=.tmp d0) (yo:=.const (.slice none 0 0)) (a:=ad) (n:=xs.length) (c:=c) hT;simp only[execOp,akf];show(Next.value<$>(do eqGuard .eql T (.tmp d0) (.const (.slice none 0 0)) (.slice ad xs.length c) (.slice none 0 0);binOp .eql T (.slice ad xs.length c) (.slice none 0 0):Sem Value)).run P w=_;rw[Sem.run_map,this];rfl
 unfold Oper.wp;rw[hr1];simp only[Oper.upon];refine hK _ _ (wpList_nil ?_);rw[h1d];have hs2:=aak (d:=some d1) (r:=fP (.bool ad.isNone)) (v:=.bool ad.isNone) hs1 (by simp only[Es];exact hd.2) Later.refl (.c (.val _));have L6:Rel Df X w0 M0 m0 p nt ⟨mQ (mQ st.σ (some d0) (SV.one (.s (.c (.ls t xs))))) (some d1) (fP (.bool ad.isNone)),st.h⟩ ((a.put (some d0) (.slice ad xs.length c)).put (some d1) (.bool ad.isNone)) w:=
  ⟨R.defers,R.frame,m,H,hs2,hm,hj⟩
 exact hy ad.isNone hnil Df X w0 M0 m0 _ w L6
def acB:Exit->TS->Option TS
 | .normal,ts=>some ts
 |_,_=>none
def WU(ts:TS)(d0 d1:Nat)(s:SV)(b:Bool):TS:=⟨mQ (mQ ts.σ (some d0) s) (some d1) (fP (.bool b)),ts.h,ts.n⟩
def Hy(C:Cx)(p:Nat)(r0:Code)(ts:TS):TS:=(exec C p r0 .z ts acB).getD ⟨[],[],0⟩
theorem D8{P:Program}{S:aS}(nt:Nat)(tm:List (Nat×Ty)){fn:Func}(hf:P.funcs[S.f]? =some fn)(u:S.rs.V->S.β)(x d0 d1:Nat)(T:TypeId){e:TypeId}{id:Nat}{ops:Array Oper}{r0 c1 rest:Code}
  {t:Ty} (xs:S.ps.V->List (den t)) (e0:S.β)
  (hb:fn.body=some (.seq r0 (.seq (.seq (.region id ops false) c1) rest)))
  (hops:aja ops=some (x,d0,d1,T)) (hTy:P.underlying T=some (.slice e))
  (h0:∀v,exec ⟨P,nt,tm,[],[]⟩ S.ps.objs.length r0 .z (enc S.ps v) acB=some (Hy ⟨P,nt,tm,[],[]⟩ S.ps.objs.length r0 (enc S.ps v)))
  (hx:∀v,look (Hy ⟨P,nt,tm,[],[]⟩ S.ps.objs.length r0 (enc S.ps v)).σ x=some (SV.one (.s (.c (.ls t (xs v)))))) (hd:(Nat.blt d0 nt&&Nat.blt d1 nt)=true)
  (hgo:∀(vs:Array Value) (w:World),(callFunc S.f vs).run P w=.ok (.enter S.f vs) w)
  (hn:(Nat.beq nt fn.ntmps&&Nat.ble S.ps.slots.length fn.ntmps&&sZ 0 S.ps.slots&&sZ 0 S.rs.slots)=true) (hu:∀v,kN S.rs.slots (S.g (u v)).1=kN S.rs.slots v.1/\gY S.rs.objs (S.g (u v)).2=gY S.rs.objs v.2)
  (hm1:∀v,S.F v=exec ⟨P,nt,tm,[],[]⟩ S.ps.objs.length c1 .z (WU (Hy ⟨P,nt,tm,[],[]⟩ S.ps.objs.length r0 (enc S.ps v)) d0 d1 (SV.one (.s (.c (.ls t (xs v))))) false) (rP (λts'=>exec ⟨P,nt,tm,[],[]⟩ S.ps.objs.length rest .z ts' (vY P S.ps.objs.length S.rs fn.results.toList u)) (vY P S.ps.objs.length S.rs fn.results.toList u)))
  (hm2:∀v,exec ⟨P,nt,tm,[],[]⟩ S.ps.objs.length c1 .z (WU (Hy ⟨P,nt,tm,[],[]⟩ S.ps.objs.length r0 (enc S.ps v)) d0 d1 (SV.one (.s (.c (.ls t (xs v))))) true) (rP (λts'=>exec ⟨P,nt,tm,[],[]⟩ S.ps.objs.length rest .z ts' (vY P S.ps.objs.length S.rs fn.results.toList u)) (vY P S.ps.objs.length S.rs fn.results.toList u))=some e0)
  (he:∀v r,xs v=[]->S.F v=some r->r=e0):kR P S:=by
 refine aqI (C:=⟨P,nt,tm,[],[]⟩) hgo hf hb hn hu (λv r hF=> ?_);have hw0:=yN (C:=⟨P,nt,tm,[],[]⟩) ok0 r0 vZ (abr S.ps v) (h0 v);refine aa0 (D5 hw0 (λex st h=> ?_));obtain⟨ts,k1,k2,k3⟩:=h;cases ex with
 |normal=>
  have:ts=(Hy ⟨P,nt,tm,[],[]⟩ S.ps.objs.length r0 (enc S.ps v)):=by simpa[acB]using k1
  subst this;refine Bc k3 (aa0 ?_);refine aHX (st:=(Hy ⟨P,nt,tm,[],[]⟩ S.ps.objs.length r0 (enc S.ps v)).er) x d0 d1 T hops hTy (hx v) hd (λb hb=> ?_)
  have fin:∀{b:Bool},exec ⟨P,nt,tm,[],[]⟩ S.ps.objs.length c1 .z (WU (Hy ⟨P,nt,tm,[],[]⟩ S.ps.objs.length r0 (enc S.ps v)) d0 d1 (SV.one (.s (.c (.ls t (xs v))))) b) (rP (λts'=>exec ⟨P,nt,tm,[],[]⟩ S.ps.objs.length rest .z ts' (vY P S.ps.objs.length S.rs fn.results.toList u)) (vY P S.ps.objs.length S.rs fn.results.toList u))=some r→
    nL P nt S.ps.objs.length c1 (ajP (nL P nt S.ps.objs.length rest (Post S.ps.objs.length (vY P S.ps.objs.length S.rs fn.results.toList u) r)) (Post S.ps.objs.length (vY P S.ps.objs.length S.rs fn.results.toList u) r)) (WU (Hy ⟨P,nt,tm,[],[]⟩ S.ps.objs.length r0 (enc S.ps v)) d0 d1 (SV.one (.s (.c (.ls t (xs v))))) b).er:=by
   intro b hE;refine D5 (yN (C:=⟨P,nt,tm,[],[]⟩) (ts:=WU (Hy ⟨P,nt,tm,[],[]⟩ S.ps.objs.length r0 (enc S.ps v)) d0 d1 (SV.one (.s (.c (.ls t (xs v))))) b) ok0 c1 vZ k2 hE) (λex st h=> ?_);obtain⟨ts',h1,h2,h3⟩:=h;cases ex with|normal=>exact Bc h3 (yN (C:=⟨P,nt,tm,[],[]⟩) ok0 rest vZ h2 h1)|_=>exact⟨ts',h1,h2,h3⟩
  rcases b with _|_;exact fin (by rw[<-hm1 v];exact hF);exact fin (by rw[hm2 v,he v r (hb rfl) hF])
 |_=>simp[acB]at k1
theorem DU{α:Type}{b:Bool}{xs r:List α}(h:xs=[])(hF:bq b (some (([]:List α)++xs))=some r):r=[]:=by subst h;obtain⟨_,h⟩:=OY hF;exact(rM h).symm
end Go.AM
namespace Go.AM
open Go Go.RowKit Go.CP Go.Sort Go.Proofs Go.Shelf
variable [Fuel]
theorem aom{W w':World}(hos:w'.os=W.os)(htp:w'.tape=W.tape)(hout: @oG GD W w')(hs:W.heap.size<=w'.heap.size)(hk:∀b,b<W.heap.size->w'.heap[b]? =W.heap[b]?):∃q os',w'=grow (W.drewN q) os':=by
 refine⟨w'.drawn-W.drawn,w'.heap.extract W.heap.size w'.heap.size,?_⟩;have h1:w'.heap=W.heap++w'.heap.extract W.heap.size w'.heap.size:=by
  apply asW;intro i;by_cases hi:i<W.heap.size
  .rw[Qd hi];exact hk i hi
  .rw[Array.getElem?_append_right ah];rw[asi];by_cases h2:i<w'.heap.size
   .rw[bW ah];congr 1;omega
   .rw[dn ah,VJ ah]
 have hout:w'.output=W.output/\(True->W.drawn<=w'.drawn):=hout;have hd:=hout.2 trivial;cases w' with|mk heap tape drawn os output=>cases W with|mk aP0 aP1 aPY os0 aPX=>have e1:=hos;have e2:=htp;have e3:=hout.1;simp only at e1 e2 e3 h1 hd hs;subst e1;subst e2;subst e3;simp only[grow,World.drewN,World.mk.injEq,and_true,sI];exact⟨h1,ah⟩
theorem jY.two{α β:Type}{R:α->β->Prop}{a b:α}{vs:List β}(h:jY R [a,b] vs):∃x y,vs=[x,y]/\R a x/\R b y:=by cases h with|cons h1 h2=>cases h2 with|cons h3 h4=>cases h4 with|nil=>exact⟨_,_,rfl,h1,h3⟩
section
variable {P:Program} {ρ:Ren}
theorem aG5(L:SlLaysF.n6 P ρ){n:N}{c:T n}{g:Nat}{xs:List Int}(cf:Int->Int->Int)(hO:Wh (ltOf cf) xs)(hlen:xs.length<4611686018427387904)
  (eg:∀args w,(callFunc g args).run P w=.ok (.enter g args) w)
  (hg:∀x∈xs,∀y∈xs, @qx GD P g [fP (.int .i64 x),fP (.int .i64 y),.one (.s (.rp (jI n c)))] [] (λr h=>r=fP (.int .i64 (cf x y))/\h=[])):
  qx P (ρ.f 6) [.one (.s (.own 0)),.one (.s (.fn g [1]))] [.arr 1 xs.length (fE (.i .i64) xs),.box ((jI n c).map .c)]
   (λr h=>r=.mY []/\h=[.arr 1 xs.length (fE (.i .i64) (xs.mergeSort λx y=> !ltOf cf y x)),.box ((jI n c).map .c)]):=by
 intro X w m vs H ha;obtain⟨v0,v1,rfl,h0,h1⟩:=ha.two;change dU w m _ (.own 0) v0 at h0;change dU w m _ (.fn g [1]) v1 at h1
 obtain⟨l,z0,⟨ln,lc⟩,lb,hblk⟩:∃l,m 0=some l/\(l.n=xs.length/\xs.length<=l.cap)/\(l.blk=none->l.cap=0)∧∀b,l.blk=some b->l.base=some ⟨b,0,none⟩∧
   ∃T vs,w.heap[b]? =some (.cells vs T (0,0))/\vs.size=l.cap*1/\(∀i,i<vs.size->(vs.getD i undef).oneCell'=true)∧
    ∀i,i<xs.length->(fE (.i .i64) xs i).length=1∧∀(j:Nat) x,(fE (.i .i64) xs i)[j]? =some x->lC w (MX X m [.arr 1 xs.length (fE (.i .i64) xs),.box ((jI n c).map .c)]) x (vs.getD (i*1+j) undef):=by
  obtain⟨l,a1,a2,a3,a4,a5⟩:=H.obj 0 _ rfl;exact⟨l,a1,a3,a4,a5⟩
 cases h0 with
 |own _ l' hl'=>rw[z0]at hl';cases hl';cases h1 with
 |fn _ _ cb hcs hcap=>
 obtain⟨l1,b1,m1,Ht,hcb⟩:=hcap 0 1 rfl;have akb:cb= #[.pointer (some ⟨b1,0,none⟩)]:=by
  apply asW;intro i
  match i with
  |0=>exact hcb
  |i+1=>rw[VJ (by rw[hcs];simp)];simp
 subst akb;show Calls P (ρ.f 6) #[_,_] w _;rw[ln];cases xs with
 |nil=>
  have e0:(([]:List Int).mergeSort λx y=> !ltOf cf y x)=[]:=aj
  rw[e0];refine(AnyF.slices_SortFunc_none (P:=P) (ρ:=ρ) {L with} l.base l.cap _ w).mono ?_;rintro e w' ⟨rfl,rfl⟩;exact⟨.tuple #[],.mY [],_,m,rfl,⟨rfl,rfl⟩,H,⟨#[],rfl,rfl,λi a h=>by simp at h⟩,⟨rfl,rfl,oG.same _,gy _,λ_ _ _=>rfl⟩,λb hb=> .inl hb,λj l _ h=>h⟩
 |cons x0 xr=>
 generalize hxs:x0::xr=xs at*;have hne:xs≠ []:=by rw[<-hxs];simp
 have hpos:0<xs.length:=aiH.2 hne;obtain⟨b,hlb⟩:∃b,l.blk=some b:=by cases hq:l.blk with|some b=>exact⟨b,rfl⟩|none=>have:=lb hq;omega
 obtain⟨hbase,Tb,bs,hb,hbs,hone,hcell⟩:=hblk b hlb;rw[hbase];have hbl:b<w.heap.size:=lt_of_block hb;have hval:∀i,i<xs.length->bs.getD i undef=.int .i64 (xs.getD i aG):=by intro i hi;have:=(hcell i hi).2 0 _ rfl;rw[Gt,vk]at this;generalize bs.getD i undef=u at this;cases this with|val v=>rfl
 haveI:Inhabited {x:Int // x∈xs}:=⟨⟨x0,by rw[<-hxs];simp⟩⟩
 obtain⟨en,hen⟩:∃en:{x:Int // x∈xs}->Value,en=λx=> .int .i64 x.1:=⟨_,rfl⟩;obtain⟨cf',hcf⟩:∃cf':{x:Int // x∈xs}->{x:Int // x∈xs}->Int,cf'=λx y=>cf x.1 y.1:=⟨_,rfl⟩;obtain⟨d,hd⟩:∃d:Array {x:Int // x∈xs},d=xs.attach.toArray:=⟨_,rfl⟩;have CU:∀x y,ltOf cf' x y=ltOf cf x.1 y.1:=λx y=>by rw[hcf];rfl
 have hds:d.size=xs.length:=by rw[hd];simp
 have hdi:∀j,j<xs.length->(d[j]!).1=xs.getD j aG:=by intro j hj;rw[AY d j (by rw[hds];exact hj)];subst hd;simp[fD,hj]
 have hO':SWO (ltOf cf'):=⟨λx=>by rw[CU];exact hO.QX x.1 x.2,λx y z=>by simp only[CU];exact hO.tr x.1 x.2 y.1 y.2 z.1 z.2,λx y z=>by simp only[CU];exact hO.nt x.1 x.2 y.1 y.2 z.1 z.2⟩;have hT':∀x y,ltOf cf' x y=false->ltOf cf' y x=false->x=y:=λx y h1 h2=>by rw[CU]at h1 h2;exact Subtype.ext (hO.tot x.1 x.2 y.1 y.2 h1 h2)
 have Bu:∀x,en x=.int .i64 x.1:=λx=>by rw[hen]
 have hH:Holds en w b 0 d:=by
  intro j hj;rw[hds]at hj;have hj2:j<bs.size:=ah
  constructor
  .unfold World.cell?;simp only[hb,nM];have e1:=hval j hj;rw[Jo hj2];have e2:bs.getD j undef=bs[j]:=(by simp[Array.getD,hj2]);rw[e2]at e1;rw[Bu,e1,hdi j hj];rfl
  .unfold World.frozen?;simp[hb]
 have ku:∀bb,iO m [.arr 1 xs.length (fE (.i .i64) xs),.box ((jI n c).map .c)] bb ↔ bb=b\/bb=b1:=by
  intro bb;constructor
  .rintro⟨k,o,lk,hk,ho,hm,hbk⟩
   match k,hk with
   |0,hk=>rw[z0]at hm;cases hm;rw[hlb]at hbk;cases hbk;exact .inl rfl
   |1,hk=>rw[m1]at hm;cases hm;rw[Ht]at hbk;cases hbk;exact .inr rfl
   |k+2,hk=>simp at hk
  .rintro(rfl|rfl)
   .exact⟨0,_,l,rfl,trivial,z0,hlb⟩
   .exact⟨1,_,l1,rfl,trivial,m1,Ht⟩
 have aj8:b1≠b:=by intro e;have:=H.inj 0 1 _ _ l l1 b rfl rfl trivial trivial z0 m1 hlb (by rw[Ht,e]);cases this
 obtain⟨l1',b1',T1,bs1,q1,q2,hbx,hsl,P9⟩:yc w m (MX X m [.arr 1 xs.length (fE (.i .i64) xs),.box ((jI n c).map .c)]) 1 (.box ((jI n c).map .c)):=H.obj 1 _ rfl;rw[m1]at q1;cases q1;rw[Ht]at q2;cases q2;have aj9:b1<w.heap.size:=lt_of_block hbx;have VD:∀(mm:Nat) (os:Array Obj) (dk:Array {x:Int // x∈xs}) (bb:Nat),bb<w.heap.size->bb≠b->(sortWorld en w b 0 mm dk os).heap[bb]? =w.heap[bb]? :=by intro mm os dk bb hbb hne';show((mapBlock (Sort.ahead w mm) b _).heap++os)[bb]? =_;rw[Qd (by simpa[mapBlock,Sort.ahead]using hbb)];simp[mapBlock,Sort.ahead,PY,Ne.symm hne']
 have hszW:∀(mm:Nat) (os:Array Obj) (dk:Array {x:Int // x∈xs}),w.heap.size<=(sortWorld en w b 0 mm dk os).heap.size:=by intro mm os dk;show _<=((mapBlock (Sort.ahead w mm) b _).heap++os).size;simp[mapBlock,Sort.ahead]
 let X':Mu:=λbb=>X bb\/bb=b
 have hL:∀(mm:Nat) (os:Array Obj) (dk:Array {x:Int // x∈xs}),Later w m (MX X m [.arr 1 xs.length (fE (.i .i64) xs),.box ((jI n c).map .c)]) (sortWorld en w b 0 mm dk os) m X':=by
  intro mm os dk;refine⟨λ_ _ h=>h,λbb _ hM hX=> ?_,λbb hbb hM=> ?_,hszW mm os dk⟩
  .rcases hX with hX|rfl
   .exact hM (.inl hX)
   .exact hM (.inr ((ku _).2 (.inl rfl)))
  .exact VD mm os dk bb hbb (λe=>hM (.inr ((ku _).2 (.inl e))))
 have hcmp:CmpLays1 P g #[.pointer (some ⟨b1,0,none⟩)] en cf' b 0 d.size w:=by
  intro mm os dk _ x y
  have hW:=hg x.1 x.2 y.1 y.2 X' (sortWorld en w b 0 mm dk os) (λ_=>none) [.int .i64 x.1,.int .i64 y.1,.pointer (some ⟨b1,0,none⟩)]
   ⟨λk o hk=>by simp at hk,λk k' o o' l l' b hk=>by simp at hk,λ_ _=>rfl,λbb ⟨k,o,l,hk,_⟩=>by simp at hk,λbb hbb=>by
    rcases hbb with h|rfl
    .exact xX (H.xlt bb h) (hszW mm os dk)
    .exact xX hbl (hszW mm os dk)⟩
   (by
    have hnX:¬X' b1:=by
     rintro(h|h)
     .exact H.uL b1 ((ku b1).2 (.inr rfl)) h
     .exact aj8 h
    have hMX:∀bb,MX X' (λ_=>none) [] bb ↔ X' bb:=λbb=>⟨λh=>by rcases h with h|⟨k,o,l,hk,_⟩;exact h;simp at hk,.inl⟩
    have aMw:MX X' (λ_=>none) ([]:List aU)=X':=(by funext bb;exact propext (hMX bb));refine .cons (.c (.val _)) (.cons (.c (.val _)) (.cons ?_ .nil));rw[aMw];have hlen1:bs1.size=(jI n c).length:=(by have:=hsl.1;simpa using this);refine dU.rp (jI n c) b1 0 (λj=>bs1.getD j undef) hnX (xX aj9 (hszW mm os dk)) (λj hj=> ?_) (λj z hz=> ?_)
    .have hk:=VD mm os dk b1 aj9 aj8;unfold World.cell?;rw[hk,hbx];have hj2:j<bs1.size:=ah;simp[Array.getD,hj2]
    .have hs:=hsl.2 j (.c z) (by rw[mW,hz];rfl);cases hs with
     |c hs=>exact hs.later (hL mm os dk))
  have ea:(#[en x,en y]++ #[.pointer (some ⟨b1,0,none⟩)]:Array Value)=[Value.int .i64 x.1,.int .i64 y.1,.pointer (some ⟨b1,0,none⟩)].toArray:=by rw[Bu,Bu];rfl
  rw[ea];refine Calls.mono hW ?_;rintro e w' ⟨v,r,h',m',rfl,⟨rfl,rfl⟩,_,iN,⟨f1,f2,f3,f4,f5⟩,_⟩;refine⟨?_,aom f1 f2 f3 f4 (λbb hbb=>f5 bb hbb (by rintro⟨k,o,l,hk,_⟩;simp at hk))⟩;change dU _ _ _ (.c (.val (.int .i64 (cf x.1 y.1)))) v at iN;cases iN with|c h=>cases h with|val _=>rw[hcf]
 have hS:=Any.slices_SortFunc_total L en (λx=>by rw[Bu];rfl) cf' hO' g #[.pointer (some ⟨b1,0,none⟩)] b 0 l.cap d w eg hcmp hH hbl (by rw[hds];exact hlen) hT';rw[hds]at hS;refine hS.mono ?_;rintro e w' ⟨rfl,mm,os,rfl⟩;have hmap:((d.toList.mergeSort λx y=> !ltOf cf' y x).map (·.1))=xs.mergeSort λx y=> !ltOf cf y x:=by rw[aiJ (r:=λx y=> !ltOf cf' y x) (s:=λx y=> !ltOf cf y x) (f:=λx:{x:Int // x∈xs}=>x.1) (λa _ b _=>by rw[CU])];congr 1;rw[hd];simp
 generalize hd':(d.toList.mergeSort λx y=> !ltOf cf' y x).toArray=d' at*;have ake:d'.toList.map (·.1)=xs.mergeSort λx y=> !ltOf cf y x:=by rw[<-hd'];simpa using hmap
 have Qq:d'.size=xs.length:=by rw[<-hd'];simp[hds]
 have at5:(xs.mergeSort λx y=> !ltOf cf y x).length=xs.length:=aj
 have hdv:∀i,i<xs.length->(d'[i]!).1=(xs.mergeSort λx y=> !ltOf cf y x).getD i aG:=by intro i hi;rw[<-ake,AY d' i ah];simp[fD,show i<d'.size by omega]
 have hWb:(sortWorld en w b 0 mm d' os).heap[b]? =some (.cells (putCells en 0 d' bs) Tb (0,0)):=by have e1:(sortWorld en w b 0 mm d' os).heap=(putRow en (Sort.ahead w mm) b 0 d').heap++os:=rfl;rw[e1,Qd (by simpa[putRow,mapBlock,Sort.ahead]using hbl)];simp only[putRow,mapBlock,Sort.ahead,PY,l5,hb];rfl
 generalize hW':sortWorld en w b 0 mm d' os=W at*;have atT:MX X m [.arr 1 xs.length (fE (.i .i64) (xs.mergeSort λx y=> !ltOf cf y x)),.box ((jI n c).map .c)]=MX X m [.arr 1 xs.length (fE (.i .i64) xs),.box ((jI n c).map .c)]:=by
  funext bb;apply propext;have:∀(f:Nat->List CV),iO m [.arr 1 xs.length f,.box ((jI n c).map .c)] bb ↔ bb=b\/bb=b1:=by
   intro f;constructor
   .rintro⟨k,o,lk,hk,ho,hm,hbk⟩
    match k,hk with
    |0,hk=>rw[z0]at hm;cases hm;rw[hlb]at hbk;cases hbk;exact .inl rfl
    |1,hk=>rw[m1]at hm;cases hm;rw[Ht]at hbk;cases hbk;exact .inr rfl
    |k+2,hk=>simp at hk
   .rintro(rfl|rfl)
    .exact⟨0,_,l,rfl,trivial,z0,hlb⟩
    .exact⟨1,_,l1,rfl,trivial,m1,Ht⟩
  unfold MX;rw[this,this]
 have hkp:∀bb,bb<w.heap.size->bb≠b->W.heap[bb]? =w.heap[bb]? :=λbb h1 h2=>by rw[<-hW'];exact VD mm os d' bb h1 h2
 have hsz2:w.heap.size<=W.heap.size:=by rw[<-hW'];exact hszW mm os d'
 have kG:Later w m (MX X m [.arr 1 xs.length (fE (.i .i64) xs),.box ((jI n c).map .c)]) W m (MX X m [.arr 1 xs.length (fE (.i .i64) xs),.box ((jI n c).map .c)]):=
  ⟨λ_ _ h=>h,λ_ _ h=>h,λbb hbb hM=>hkp bb hbb (λe=>hM (.inr ((ku _).2 (.inl e)))),hsz2⟩
 refine⟨.tuple #[],.mY [],_,m,rfl,⟨rfl,rfl⟩,⟨λk o hk=> ?_,λk k' o o' lk lk' bb hk hk' ho ho' hm hm' hbk hbk'=> ?_,λk hk=>H.used k (aD hk),λbb hbb=> ?_,λbb hbb=>xX (H.xlt bb hbb) hsz2⟩,⟨#[],rfl,rfl,λi a h=>by simp at h⟩,⟨?_,?_,?_,hsz2,λbb hbb hM=>hkp bb hbb (λe=>hM ((ku _).2 (.inl e)))⟩,λbb hbb=> .inl ?_,λj l _ h=>h⟩
 .rw[atT]
  match k,hk with
  | 0, hk=>
   cases hk;refine⟨l,z0,?_,⟨ln,lc⟩,lb,λbb hbb=> ?_⟩
   .obtain⟨l2,a1,a2,_⟩:=H.obj 0 _ rfl;rw[z0]at a1;cases a1;exact a2
   .rw[hlb]at hbb;cases hbb;refine⟨hbase,Tb,_,hWb,?_,λi hi=> ?_,λi hi=>⟨rfl,λj z hz=> ?_⟩⟩
    .simp[putCells];omega
    .have hi2:i<bs.size:=(by simpa[putCells]using hi);have:(putCells en 0 d' bs).getD i undef=if i<d'.size then en d'[i]! else bs[i]:=(by simp[putCells,Array.getD,hi2]);rw[this];split
     .rw[Bu];rfl
     .have:=hone i hi2;simpa[Array.getD,hi2]using this
    .match j,hz with
     | 0,hz=>cases hz;have hi2:i<bs.size:=ah;have:(putCells en 0 d' bs).getD (i*1+0) undef=en d'[i]! :=(by rw[Gt,vk];simp[putCells,Array.getD,hi2,show i<d'.size by omega]);rw[this,Bu,hdv i hi];exact .val _
     |j+1,hz=>simp[fE,w9,abS]at hz
  |1,hk=>cases hk;exact⟨l1,b1,T1,bs1,m1,Ht,by rw[hkp b1 aj9 aj8];exact hbx,hsl.later kG,P9⟩
  |k+2,hk=>simp at hk
 .have as3:∀(k:Nat) (o:aU),[aU.arr 1 xs.length (fE (.i .i64) (xs.mergeSort λx y=> !ltOf cf y x)),.box ((jI n c).map .c)][k]? =some o→∃o',[aU.arr 1 xs.length (fE (.i .i64) xs),.box ((jI n c).map .c)][k]? =some o'/\o'.live:=by
   intro k o hk
   match k,hk with
   |0,hk=>exact⟨_,rfl,trivial⟩
   |1,hk=>exact⟨_,rfl,trivial⟩
   |k+2,hk=>simp at hk
  obtain⟨p,p1,p2⟩:=as3 k o hk;obtain⟨p',p1',p2'⟩:=as3 k' o' hk';exact H.inj k k' p p' lk lk' bb p1 p1' p2 p2' hm hm' hbk hbk'
 .have:=atT;refine H.uL bb ?_;have h2:iO m [.arr 1 xs.length (fE (.i .i64) (xs.mergeSort λx y=> !ltOf cf y x)),.box ((jI n c).map .c)] bb:=hbb;obtain⟨k,o,lk,hk,ho,hm,hbk⟩:=h2
  match k,hk with
  |0,hk=>rw[z0]at hm;cases hm;rw[hlb]at hbk;cases hbk;exact(ku _).2 (.inl rfl)
  |1,hk=>rw[m1]at hm;cases hm;rw[Ht]at hbk;cases hbk;exact(ku _).2 (.inr rfl)
  |k+2,hk=>simp at hk
 .rw[<-hW'];rfl
 .rw[<-hW'];rfl
 .rw[<-hW'];exact⟨rfl,λ_=>abf _ _⟩
 .obtain⟨k,o,lk,hk,ho,hm,hbk⟩:=hbb
  match k,hk with
  |0,hk=>rw[z0]at hm;cases hm;rw[hlb]at hbk;cases hbk;exact(ku _).2 (.inl rfl)
  |1,hk=>rw[m1]at hm;cases hm;rw[Ht]at hbk;cases hbk;exact(ku _).2 (.inr rfl)
  |k+2,hk=>simp at hk
def aLw(f g:Nat)(n:N)(cmp:T n->Int->Int->Option Int):aS:=
 {f:=f,ps:=⟨[(0,.c (.own 0)),(1,.c (.fn g [1]))],[.ar (.i .i64),.bs n]⟩,rs:=⟨[],[.ar (.i .i64),.bs n]⟩,β:=List Int×T n,F:=λv=>(EC (cmp v.2.2.1) v.2.1).bind λl=>some (l,v.2.2.1),g:=λr=>((),(r.1,(r.2,()))),d:=λv=>(v.2.1,v.2.2.1),dk:=true,hd:=λ_ _=>rfl}
theorem aHR(L:SlLaysF.n6 P ρ){g:Nat}{n:N}{cmp:T n->Int->Int->Option Int}(eg:∀(vs:Array Value) (w:World),(callFunc g vs).run P w=.ok (.enter g vs) w)
  (hg:∀c x y r,cmp c x y=some r-> @qx GD P g [fP (.int .i64 x),fP (.int .i64 y),.one (.s (.rp (jI n c)))] [] (λr' h'=>r'=fP (.int .i64 r)/\h'=[])) (xs l:List Int) (c:T n) (h1:EC (cmp c) xs=some l):
  qx P (ρ.f 6) [.one (.s (.own 0)),.one (.s (.fn g [1]))] [.arr 1 xs.length (fE (.i .i64) xs),.box ((jI n c).map .c)]
   (λr h=>r=.mY []/\h=[.arr 1 l.length (fE (.i .i64) l),.box ((jI n c).map .c)]):=by
 obtain⟨a1,a2,hO,rfl⟩:=aoC h1
 have key:=aG5 L (n:=n) (c:=c) (g:=g) (xs:=xs) (λx y=>(cmp c x y).getD 0) hO a1 eg (λx hx y hy=>by
  obtain⟨q,hq⟩:=a2 x hx y hy;have:=hg c x y q hq;rw[hq]
  exact this)
 refine qx.mono key ?_;rintro r' h' ⟨rfl,rfl⟩;refine⟨rfl,?_⟩;rw[aiG];rfl
theorem aqj(L:SlLaysF.n6 P ρ){f g:Nat}{n:N}{cmp:T n->Int->Int->Option Int}(hf:ρ.f 6=f)
  (hgo:∀(vs:Array Value) (w:World),(callFunc f vs).run P w=.ok (.enter f vs) w) (eg:∀(vs:Array Value) (w:World),(callFunc g vs).run P w=.ok (.enter g vs) w)
  (hg:∀c x y r,cmp c x y=some r-> @qx GD P g [fP (.int .i64 x),fP (.int .i64 y),.one (.s (.rp (jI n c)))] [] (λr' h'=>r'=fP (.int .i64 r)/\h'=[])):kR P (aLw f g n cmp):=by
 refine⟨hgo,λv r hF=> ?_⟩;obtain⟨v1,xs,c,u⟩:=v;change ((EC (cmp c) xs).bind λl=>some (l,c))=some r at hF;obtain⟨l,h1,h2⟩:=DT hF;obtain rfl:=rM h2;have key:=aHR L eg hg xs l c h1;rw[hf]at key;exact key
theorem aIX(xs:List Int):Lib.compact xs=jU xs:=by
 have key:∀m,m<=xs.length->Lib.compactUpTo xs.toArray m=GA xs m:=by intro m;induction m with|zero=>intro _;rfl|succ m ih=>intro hm;rw[Lib.compactUpTo_succ,ih ah,GA];have g:∀j,j<xs.length->xs.toArray[j]! =xs.getD j aG:=(by intro j hj;rw[AY xs.toArray j (aD hj)];simp[fD,hj]);congr 1;have hk:Lib.keeps xs.toArray m=(Nat.beq m 0||(xs.getD m aG !=xs.getD (m-1) aG)):=(by unfold Lib.keeps;rw[g m ah,g (m-1) ah,PZ];simp only[ow,pO,AX,Nat.beq_eq]);rw[hk,g m ah];cases (Nat.beq m 0||(xs.getD m aG !=xs.getD (m-1) aG))<;>rfl
 exact key xs.length (gy _)
theorem aGq(L:Lays2.n20 P ρ)(xs:List Int)(hlen:xs.length<4611686018427387904):
  qx P (ρ.f 20) [.one (.s (.own 0))] [.arr 1 xs.length (fE (.i .i64) xs)] (λr h=>r=.one (.s (.own 1))/\h=[.dead,.arr 1 (jU xs).length (fE (.i .i64) (jU xs))]):=by
 intro X w m vs H ha;cases ha with
 |cons h0 h1=>cases h1 with
 |nil=>
 rename_i v0;change dU w m _ (.own 0) v0 at h0
 obtain⟨l,z0,hz,⟨ln,lc⟩,lb,hblk⟩:∃l,m 0=some l/\l.z=1/\(l.n=xs.length/\xs.length<=l.cap)/\(l.blk=none->l.cap=0)∧∀b,l.blk=some b->l.base=some ⟨b,0,none⟩∧
   ∃T vs,w.heap[b]? =some (.cells vs T (0,0))/\vs.size=l.cap*1/\(∀i,i<vs.size->(vs.getD i undef).oneCell'=true)∧
    ∀i,i<xs.length->(fE (.i .i64) xs i).length=1∧∀(j:Nat) x,(fE (.i .i64) xs i)[j]? =some x->lC w (MX X m [.arr 1 xs.length (fE (.i .i64) xs)]) x (vs.getD (i*1+j) undef):=H.obj 0 _ rfl
 cases h0 with
 |own _ l' hl'=>
 rw[z0]at hl';cases hl';show Calls P (ρ.f 20) #[_] w _;rw[ln];have hcl:(jU xs).length<=xs.length:=ag2 xs xs.length;have ku:∀bb,iO m [.arr 1 xs.length (fE (.i .i64) xs)] bb ↔ l.blk=some bb:=by
  intro bb;constructor
  .rintro⟨k,o,lk,hk,ho,hm,hbk⟩
   match k,hk with
   |0,hk=>rw[z0]at hm;cases hm;exact hbk
   |k+1,hk=>simp at hk
  .intro hb;exact⟨0,_,l,rfl,trivial,z0,hb⟩
 let m':gV:=λk=>if k=1 then some {l with n:=(jU xs).length}else m k
 have ajE:∀bb,iO m' [.dead,.arr 1 (jU xs).length (fE (.i .i64) (jU xs))] bb ↔ l.blk=some bb:=by
  intro bb;constructor
  .rintro⟨k,o,lk,hk,ho,hm,hbk⟩
   match k,hk with
   |0,hk=>cases hk;exact ho.elim
   |1,hk=>have hm:some {l with n:=(jU xs).length}=some lk:=hm;cases hm;exact hbk
   |k+2,hk=>simp at hk
  .intro hb;exact⟨1,_,{l with n:=(jU xs).length},rfl,trivial,rfl,hb⟩
 have hMX:MX X m' [.dead,.arr 1 (jU xs).length (fE (.i .i64) (jU xs))]=MX X m [.arr 1 xs.length (fE (.i .i64) xs)]:=by funext bb;apply propext;unfold MX;rw[ku,ajE]
 -- what holds of a world in which the row holds what is kept
 have fin:∀W:World,(∀bb,bb<w.heap.size->l.blk≠some bb->W.heap[bb]? =w.heap[bb]?)->W.heap.size=w.heap.size->W.os=w.os->W.tape=w.tape->oG w W→
   (∀b,l.blk=some b->l.base=some ⟨b,0,none⟩∧∃T vs,W.heap[b]? =some (.cells vs T (0,0))/\vs.size=l.cap*1/\(∀i,i<vs.size->(vs.getD i undef).oneCell'=true)∧∀i,i<(jU xs).length->vs.getD i undef=.int .i64 ((jU xs).getD i aG))→
   ∃v r h' m',Ending.returned (.slice l.base (jU xs).length l.cap)=.returned v/\(r=SV.one (.s (.own 1))/\h'=[aU.dead,.arr 1 (jU xs).length (fE (.i .i64) (jU xs))])/\fJ X W m' h'/\eZ W m' (MX X m' h') r v/\abl w (iO m [.arr 1 xs.length (fE (.i .i64) xs)]) W/\(∀b,iO m' h' b->iO m [.arr 1 xs.length (fE (.i .i64) xs)] b\/w.heap.size<=b)∧∀j l,j<1->m j=some l->m' j=some l:=by
  intro W hk hs ho ht hout hc;refine⟨_,_,_,m',rfl,⟨rfl,rfl⟩,⟨λk o hk2=> ?_,λk k' o o' lk lk' bb e1 e2 e3 e4 e5 e6 e7 e8=> ?_,λk hk2=> ?_,λbb hbb=> ?_,λbb hbb=>by rw[hs];exact H.xlt bb hbb⟩,?_,⟨ho,ht,hout,by rw[hs];exact gy _,λbb hbb hM=>hk bb hbb (λe=>hM ((ku bb).2 e))⟩,λbb hbb=> .inl ((ku bb).2 ((ajE bb).1 hbb)),λj lj hj hm=> ?_⟩
  .match k,hk2 with
   |0,hk2=>cases hk2;exact trivial
   |1,hk2=>
    cases hk2;refine⟨{l with n:=(jU xs).length},rfl,hz,⟨rfl,by show _<=l.cap;omega⟩,lb,λb hb=> ?_⟩;obtain⟨q1,T,vs,q2,q3,q4,q5⟩:=hc b hb;refine⟨q1,T,vs,q2,q3,q4,λi hi=>⟨rfl,λj x hx=> ?_⟩⟩
    match j,hx with
    |0,hx=>cases hx;rw[Gt,vk,q5 i hi];exact .val _
    |j+1,hx=>simp[fE,w9,abS]at hx
   |k+2,hk2=>simp at hk2
  .match k,k',e1,e2 with
   |0,_,e1,_=>cases e1;exact e3.elim
   |1,0,_,e2=>cases e2;exact e4.elim
   |1,1,_,_=>rfl
   |1,k+2,_,e2=>simp at e2
   |k+2,_,e1,_=>simp at e1
  .have:k≠1:=(by simp at hk2;omega);show(if k=1 then _ else m k)=none;rw[dn this];exact H.used k (by simp at hk2⊢;omega)
  .exact H.uL bb ((ku bb).2 ((ajE bb).1 hbb))
  .exact dU.own 1 {l with n:=(jU xs).length} rfl
  .have:j=0:=ah;subst this;exact hm
 cases xs with
 |nil=>
  refine(Any.slices_Compact_int_empty L l.base l.cap w).mono ?_;rintro e w' ⟨rfl,rfl⟩
  exact fin w' (λ_ _ _=>rfl) rfl rfl rfl (oG.same _) (λb hb=>by
   obtain⟨q1,T,vs,q2,q3,q4,q5⟩:=hblk b hb
   exact⟨q1,T,vs,q2,q3,q4,λi hi=>absurd hi (kJ _)⟩)
 |cons x0 xr=>
 generalize hxs:x0::xr=xs at*;have hpos:0<xs.length:=by rw[<-hxs];simp
 obtain⟨b,hlb⟩:∃b,l.blk=some b:=by cases hq:l.blk with|some b=>exact⟨b,rfl⟩|none=>have:=lb hq;omega
 obtain⟨hbase,Tb,bs,hb,hbs,hone,hcell⟩:=hblk b hlb;have hbl:b<w.heap.size:=lt_of_block hb;have hval:∀i,i<xs.length->bs.getD i undef=.int .i64 (xs.getD i aG):=by intro i hi;have:=(hcell i hi).2 0 _ rfl;rw[Gt,vk]at this;generalize bs.getD i undef=u at this;cases this with|val v=>rfl
 have hH:Holds (Value.int .i64) w b 0 xs.toArray:=by
  intro j hj;have hj:j<xs.length:=aD hj
  have hj2:j<bs.size:=ah
  constructor
  .unfold World.cell?;simp only[hb,nM];have e1:=hval j hj;rw[Jo hj2];have e2:bs.getD j undef=bs[j]:=(by simp[Array.getD,hj2]);rw[e2]at e1;rw[e1,AY xs.toArray j (aD hj)];simp[fD,hj]
  .unfold World.frozen?;simp[hb]
 rw[hbase];refine(Any.slices_Compact_int L b 0 l.cap xs w hH ah lc).mono ?_;rintro e w' ⟨rfl,q,rfl⟩;rw[aIX,<-hbase];refine fin _ (λbb hbb hne=> ?_) ?_ rfl rfl ⟨rfl,λ_=>abf _ _⟩ (λb' hb'=> ?_)
 .have hne':b≠bb:=λe=>hne (e▸hlb);show((Sort.ahead w q).heap.modify b _)[bb]? =_;simp[Sort.ahead,PY,hne']
 .show((Sort.ahead w q).heap.modify b _).size=_;simp[Sort.ahead]
 .rw[hlb]at hb';cases hb';refine⟨hbase,Tb,putCells (Value.int .i64) 0 (jU xs++List.replicate (xs.length-(jU xs).length) 0).toArray bs,?_,by simp[putCells];omega,λi hi=> ?_,λi hi=> ?_⟩
  .show((Sort.ahead w q).heap.modify b _)[b]? =_;simp only[Sort.ahead,PY,l5,hb];rfl
  .have hi2:i<bs.size:=(by simpa[putCells]using hi);have:(putCells (Value.int .i64) 0 (jU xs++List.replicate (xs.length-(jU xs).length) 0).toArray bs).getD i undef=if i<(jU xs++List.replicate (xs.length-(jU xs).length) 0).toArray.size then .int .i64 ((jU xs++List.replicate (xs.length-(jU xs).length) 0).toArray[i]!)else bs[i]:=(by simp[putCells,Array.getD,hi2]);rw[this];split
   .rfl
   .have:=hone i hi2;simpa[Array.getD,hi2]using this
  .have hi2:i<bs.size:=ah;have hsz:i<(jU xs++List.replicate (xs.length-(jU xs).length) 0).toArray.size:=ay;have:(putCells (Value.int .i64) 0 (jU xs++List.replicate (xs.length-(jU xs).length) 0).toArray bs).getD i undef=.int .i64 ((jU xs++List.replicate (xs.length-(jU xs).length) 0).toArray[i]!):=(by have e:(putCells (Value.int .i64) 0 (jU xs++List.replicate (xs.length-(jU xs).length) 0).toArray bs).getD i undef=if i<(jU xs++List.replicate (xs.length-(jU xs).length) 0).toArray.size then .int .i64 ((jU xs++List.replicate (xs.length-(jU xs).length) 0).toArray[i]!)else bs[i]:=(by simp[putCells,Array.getD,hi2]);rw[e,bW hsz]);rw[this,AY _ i hsz];congr 1;simp[fD,hi,List.getElem_append_left]
def aLv(f:Nat):aS:=
 {f:=f,ps:=⟨[(0,.c (.own 0))],[.ar (.i .i64)]⟩,rs:=⟨[(0,.c (.own 1))],[.dd,.ar (.i .i64)]⟩,β:=List Int,F:=λv=>bq (decide (v.2.1.length<4611686018427387904)) (some (jU v.2.1)),g:=λr=>(((),()),((),(r,()))),d:=λ_=>aG}
theorem aIW(L:Lays2.n20 P ρ){f:Nat}(hf:ρ.f 20=f)(hgo:∀(vs:Array Value) (w:World),(callFunc f vs).run P w=.ok (.enter f vs) w):kR P (aLv f):=by refine⟨hgo,λv r hF=> ?_⟩;obtain⟨v1,xs,u⟩:=v;change bq (decide (List.length xs<4611686018427387904)) (some (jU xs))=some r at hF;obtain⟨a1,h1⟩:=LV hF;obtain rfl:=rM h1;have key:=aGq L xs a1;rw[hf]at key;exact key
end
def plV:CV->Value
 | .val v=>v
 |_=>undef
def sU(m:N)(x:T m):List Value:=(jI m x).map plV
theorem Po(m:N)(x:T m):(sU m x).length=gW m:=by unfold sU;rw[kQ,aao]
section
variable {P:Program} {ρ:Ren}
theorem aG6(L:SlLaysF0.n6 P ρ){m:N}(hm0:0<gW m)(aE:∀w,(isAgg (ρ.t 24)).run P w= .ok true w)(zE:∀w,(Go.sizeOf (ρ.t 24)).run P w= .ok (gW m) w)(hpl:∀x:T m,jI m x=(sU m x).map .val)(P9:∀x:T m,∀v∈sU m x,v.oneCell'=true)
  {g:Nat} {xs:List (T m)} (cf:T m->T m->Int) (hO:Wh (ltOf cf) xs) (hlen:xs.length<4611686018427387904)
  (eg:∀args w,(callFunc g args).run P w=.ok (.enter g args) w)
  (hg:∀x∈xs,∀y∈xs, @qx GD P g [.one (.agg ((jI m x).map .c)),.one (.agg ((jI m y).map .c))] [] (λr h=>r=fP (.int .i64 (cf x y))/\h=[])):
  qx P (ρ.f 6) [.one (.s (.own 0)),.one (.s (.fn g []))] [.arr (gW m) xs.length (fE (.n m) xs)]
   (λr h=>r=.mY []/\h=[.arr (gW m) xs.length (fE (.n m) (xs.mergeSort λx y=> !ltOf cf y x))]):=by
 intro X w JR vs H ha;obtain⟨v0,v1,rfl,h0,h1⟩:=ha.two;change dU w JR _ (.own 0) v0 at h0;change dU w JR _ (.fn g []) v1 at h1
 obtain⟨l,z0,lz,⟨ln,lc⟩,lb,hblk⟩:∃l,JR 0=some l/\l.z=gW m/\(l.n=xs.length/\xs.length<=l.cap)/\(l.blk=none->l.cap=0)∧∀b,l.blk=some b->l.base=some ⟨b,0,none⟩∧
   ∃T vs,w.heap[b]? =some (.cells vs T (0,0))/\vs.size=l.cap*gW m/\(∀i,i<vs.size->(vs.getD i undef).oneCell'=true)∧
    ∀i,i<xs.length->(fE (.n m) xs i).length=gW m∧∀(j:Nat) x,(fE (.n m) xs i)[j]? =some x->lC w (MX X JR [.arr (gW m) xs.length (fE (.n m) xs)]) x (vs.getD (i*gW m+j) undef):=by
  obtain⟨l,a1,a2,a3,a4,a5⟩:=H.obj 0 _ rfl;exact⟨l,a1,a2,a3,a4,a5⟩
 cases h0 with
 |own _ l' hl'=>rw[z0]at hl';cases hl';cases h1 with
 |fn _ _ cb hcs hcap=>have akb:cb= #[]:=Array.size_eq_zero_iff.1 hcs;subst akb;show Calls P (ρ.f 6) #[_,_] w _;rw[ln];cases xs with
 |nil=>
  have e0:(([]:List (T m)).mergeSort λx y=> !ltOf cf y x)=[]:=aj
  rw[e0];refine(AnyF.slices_SortFunc_none (P:=P) (ρ:=ρ) L l.base l.cap _ w).mono ?_;rintro e w' ⟨rfl,rfl⟩;exact⟨.tuple #[],.mY [],_,JR,rfl,⟨rfl,rfl⟩,H,⟨#[],rfl,rfl,λi a h=>by simp at h⟩,⟨rfl,rfl,oG.same _,gy _,λ_ _ _=>rfl⟩,λb hb=> .inl hb,λj l _ h=>h⟩
 |cons x0 xr=>
 generalize hxs:x0::xr=xs at*;have hne:xs≠ []:=by rw[<-hxs];simp
 have hpos:0<xs.length:=aiH.2 hne;obtain⟨b,hlb⟩:∃b,l.blk=some b:=by cases hq:l.blk with|some b=>exact⟨b,rfl⟩|none=>have:=lb hq;omega
 obtain⟨hbase,Tb,bs,hb,hbs,hone,hcell⟩:=hblk b hlb;rw[hbase];have hbl:b<w.heap.size:=lt_of_block hb;have hget:∀i (hi:i<xs.length),xs.getD i aG=xs[i]:=λi hi=>by simp[fD,hi]
 have hval:∀i j,i<xs.length->j<gW m->bs.getD (i*gW m+j) undef=(sU m (xs.getD i aG))[j]! :=by
  intro i j hi hj;have hl:=Po m (xs.getD i aG);have e1:(fE (.n m) xs i)[j]? =some (.val ((sU m (xs.getD i aG))[j]!)):=by show(jI m (xs.getD i aG))[j]? =_;rw[hpl,mW,jR ah];rw[AY _ _ ah];rfl
  have:=(hcell i hi).2 j _ e1;generalize bs.getD (i*gW m+j) undef=u at this;cases this with|val v=>rfl
 haveI:Inhabited {x:T m // x∈xs}:=⟨⟨x0,by rw[<-hxs];simp⟩⟩
 obtain⟨en,hen⟩:∃en:{x:T m // x∈xs}->List Value,en=λx=>sU m x.1:=⟨_,rfl⟩;obtain⟨cf',hcf⟩:∃cf':{x:T m // x∈xs}->{x:T m // x∈xs}->Int,cf'=λx y=>cf x.1 y.1:=⟨_,rfl⟩;obtain⟨d,hd⟩:∃d:Array {x:T m // x∈xs},d=xs.attach.toArray:=⟨_,rfl⟩;have CU:∀x y,ltOf cf' x y=ltOf cf x.1 y.1:=λx y=>by rw[hcf];rfl
 have hds:d.size=xs.length:=by rw[hd];simp
 have hdi:∀j,j<xs.length->(d[j]!).1=xs.getD j aG:=by intro j hj;rw[AY d j (by rw[hds];exact hj)];subst hd;simp[fD,hj]
 have hO':SWO (ltOf cf'):=⟨λx=>by rw[CU];exact hO.QX x.1 x.2,λx y z=>by simp only[CU];exact hO.tr x.1 x.2 y.1 y.2 z.1 z.2,λx y z=>by simp only[CU];exact hO.nt x.1 x.2 y.1 y.2 z.1 z.2⟩;have hT':∀x y,ltOf cf' x y=false->ltOf cf' y x=false->x=y:=λx y h1 h2=>by rw[CU]at h1 h2;exact Subtype.ext (hO.tot x.1 x.2 y.1 y.2 h1 h2)
 have Bu:∀x,en x=sU m x.1:=λx=>by rw[hen]
 have hkk:∀x,(en x).length=gW m:=λx=>by rw[Bu,Po]
 have hk1:∀x,∀v∈en x,v.oneCell'=true:=λx=>by rw[Bu];exact P9 x.1
 have hdm:∀t,t<xs.length*gW m->t / gW m<xs.length/\t%gW m<gW m/\t / gW m*gW m+t%gW m=t:=by intro t ht;refine⟨Nat.div_lt_of_lt_mul (by rw[Ec];exact ht),uw _ hm0,?_⟩;rw[Ec];exact Nat.div_add_mod t (gW m)
 have ajD:∀(dk:Array {x:T m // x∈xs}),dk.size=xs.length→∀i j,i<xs.length->j<gW m->(flatK en (gW m) dk)[i*gW m+j]! =(sU m (dk[i]!).1)[j]! :=by
  intro dk hdk i j hi hj;have ht:i*gW m+j<dk.size*gW m:=by rw[hdk];have:i*gW m+gW m<=xs.length*gW m:=(by rw[<-pK];exact jS _ hi);omega
  rw[get_flatK en (gW m) dk _ ht,Bu];have e1:(i*gW m+j) / gW m=i:=by rw[Ec,Nat.mul_add_div hm0,Nat.div_eq_of_lt hj];omega
  have e2:(i*gW m+j)%gW m=j:=by rw[Ec,abh,PG hj]
  rw[e1,e2]
 have hH:HoldsK en (gW m) w b 0 d:=by
  intro t ht;rw[size_flatK,hds]at ht;obtain⟨q1,q2,q3⟩:=hdm t ht;have ht2:t<bs.size:=by rw[hbs];have:xs.length*gW m<=l.cap*gW m:=jS _ lc;omega
  constructor
  .unfold World.cell?;simp only[hb,nM];have e1:=hval _ _ q1 q2;rw[q3]at e1;have e3:=ajD d hds _ _ q1 q2;rw[q3,hdi _ q1]at e3;rw[Jo ht2];have e2:bs.getD t undef=bs[t]:=(by simp[Array.getD,ht2]);rw[e2]at e1;rw[e1,<-e3];rfl
  .unfold World.frozen?;simp[hb]
 have ku:∀bb,iO JR [.arr (gW m) xs.length (fE (.n m) xs)] bb ↔ bb=b:=by
  intro bb;constructor
  .rintro⟨k,o,lk,hk,ho,hm,hbk⟩
   match k,hk with
   |0,hk=>rw[z0]at hm;cases hm;rw[hlb]at hbk;cases hbk;rfl
   |k+1,hk=>simp at hk
  .rintro rfl;exact⟨0,_,l,rfl,trivial,z0,hlb⟩
 have VD:∀(mm:Nat) (os:Array Obj) (dk:Array {x:T m // x∈xs}) (bb:Nat),bb<w.heap.size->bb≠b->(sortWorldK en (gW m) w b 0 mm dk os).heap[bb]? =w.heap[bb]? :=by intro mm os dk bb hbb hne';show((mapBlock (Sort.ahead w mm) b _).heap++os)[bb]? =_;rw[Qd (by simpa[mapBlock,Sort.ahead]using hbb)];simp[mapBlock,Sort.ahead,PY,Ne.symm hne']
 have hszW:∀(mm:Nat) (os:Array Obj) (dk:Array {x:T m // x∈xs}),w.heap.size<=(sortWorldK en (gW m) w b 0 mm dk os).heap.size:=by intro mm os dk;show _<=((mapBlock (Sort.ahead w mm) b _).heap++os).size;simp[mapBlock,Sort.ahead]
 let X':Mu:=λbb=>X bb\/bb=b
 have asD:∀(W:World) (M:Mu) (x:T m),nY W (λ_=>none) M ((jI m x).map .c) (sU m x).toArray:=by
  intro W M x;refine⟨by simp[Po,aao],λi y hy=> ?_⟩;rw[hpl,List.map_map,mW]at hy;rcases hq:(sU m x)[i]? with _|v;rw[hq]at hy;cases hy;rw[hq]at hy;cases hy;have hi:=iF hq;have:((sU m x).toArray).getD i undef=v:=by rw[wG,hq];rfl
  rw[this];exact .c (.val v)
 have hcmp:CmpLays P g #[] en (gW m) cf' b 0 d.size w:=by
  intro mm os dk _ x y
  have hW:=hg x.1 x.2 y.1 y.2 X' (sortWorldK en (gW m) w b 0 mm dk os) (λ_=>none) [.agg (sU m x.1).toArray,.agg (sU m y.1).toArray]
   ⟨λk o hk=>by simp at hk,λk k' o o' l l' b hk=>by simp at hk,λ_ _=>rfl,λbb ⟨k,o,l,hk,_⟩=>by simp at hk,λbb hbb=>by
    rcases hbb with h|rfl
    .exact xX (H.xlt bb h) (hszW mm os dk)
    .exact xX hbl (hszW mm os dk)⟩
   (.cons ⟨_,rfl,asD _ _ _⟩ (.cons ⟨_,rfl,asD _ _ _⟩ .nil))
  have ea:(#[Value.agg (en x).toArray,.agg (en y).toArray]++ #[]:Array Value)=[Value.agg (sU m x.1).toArray,.agg (sU m y.1).toArray].toArray:=by rw[Bu,Bu];rfl
  rw[ea];refine Calls.mono hW ?_;rintro e w' ⟨v,r,h',m',rfl,⟨rfl,rfl⟩,_,iN,⟨f1,f2,f3,f4,f5⟩,_⟩;refine⟨?_,aom f1 f2 f3 f4 (λbb hbb=>f5 bb hbb (by rintro⟨k,o,l,hk,_⟩;simp at hk))⟩;change dU _ _ _ (.c (.val (.int .i64 (cf x.1 y.1)))) v at iN;cases iN with|c h=>cases h with|val _=>rw[hcf]
 have hS:=AnyQ.slices_SortFunc_total L (gW m) aE zE en hkk hk1 cf' hO' g #[] b 0 l.cap d w eg hcmp hH hbl (by rw[hds];exact hlen) hT';rw[hds]at hS;refine hS.mono ?_;rintro e w' ⟨rfl,mm,os,rfl⟩;have hmap:((d.toList.mergeSort λx y=> !ltOf cf' y x).map (·.1))=xs.mergeSort λx y=> !ltOf cf y x:=by rw[aiJ (r:=λx y=> !ltOf cf' y x) (s:=λx y=> !ltOf cf y x) (f:=λx:{x:T m // x∈xs}=>x.1) (λa _ b _=>by rw[CU])];congr 1;rw[hd];simp
 generalize hd':(d.toList.mergeSort λx y=> !ltOf cf' y x).toArray=d' at*;have ake:d'.toList.map (·.1)=xs.mergeSort λx y=> !ltOf cf y x:=by rw[<-hd'];simpa using hmap
 have Qq:d'.size=xs.length:=by rw[<-hd'];simp[hds]
 have hdv:∀i,i<xs.length->(d'[i]!).1=(xs.mergeSort λx y=> !ltOf cf y x).getD i aG:=by intro i hi;rw[<-ake,AY d' i ah];simp[fD,show i<d'.size by omega]
 have hWb:(sortWorldK en (gW m) w b 0 mm d' os).heap[b]? =some (.cells (putCells id 0 (flatK en (gW m) d') bs) Tb (0,0)):=by have e1:(sortWorldK en (gW m) w b 0 mm d' os).heap=(putRow id (Sort.ahead w mm) b 0 (flatK en (gW m) d')).heap++os:=rfl;rw[e1,Qd (by simpa[putRow,mapBlock,Sort.ahead]using hbl)];simp only[putRow,mapBlock,Sort.ahead,PY,l5,hb];rfl
 have atZ:=VD mm os d';have hsz0:=hszW mm os d';have hos0:(sortWorldK en (gW m) w b 0 mm d' os).os=w.os/\(sortWorldK en (gW m) w b 0 mm d' os).tape=w.tape/\oG w (sortWorldK en (gW m) w b 0 mm d' os):=⟨rfl,rfl,rfl,λ_=>abf _ _⟩;generalize sortWorldK en (gW m) w b 0 mm d' os=W at hWb atZ hsz0 hos0⊢;have LB:∀(f:Nat->List CV) bb,iO JR [.arr (gW m) xs.length f] bb ↔ bb=b:=by
  intro f bb;constructor
  .rintro⟨k,o,lk,hk,ho,hm,hbk⟩
   match k,hk with
   |0,hk=>rw[z0]at hm;cases hm;rw[hlb]at hbk;cases hbk;rfl
   |k+1,hk=>simp at hk
  .rintro rfl;exact⟨0,_,l,rfl,trivial,z0,hlb⟩
 refine⟨.tuple #[],.mY [],_,JR,rfl,⟨rfl,rfl⟩,⟨λk o hk=> ?_,λk k' o o' lk lk' bb hk hk' ho ho' hm hm' hbk hbk'=> ?_,λk hk=>H.used k (aD hk),λbb hbb=> ?_,λbb hbb=>xX (H.xlt bb hbb) hsz0⟩,⟨#[],rfl,rfl,λi a h=>by simp at h⟩,⟨hos0.1,hos0.2.1,hos0.2.2,hsz0,λbb hbb hM=>atZ bb hbb (λe=>hM ((ku _).2 e))⟩,λbb hbb=> .inl ?_,λj l _ h=>h⟩
 .match k,hk with
  | 0,hk=>
   cases hk;refine⟨l,z0,lz,⟨ln,lc⟩,lb,λbb hbb=> ?_⟩;rw[hlb]at hbb;cases hbb;refine⟨hbase,Tb,_,hWb,?_,λi hi=> ?_,λi hi=>⟨?_,λj z hz=> ?_⟩⟩
   .simp[putCells];omega
   .have hi2:i<bs.size:=(by simpa[putCells]using hi);have:(putCells id 0 (flatK en (gW m) d') bs).getD i undef=if i<d'.size*gW m then(flatK en (gW m) d')[i]! else bs[i]:=(by simp[putCells,Array.getD,hi2]);rw[this];split
    .rename_i hq;rw[Qq]at hq;obtain⟨q1,q2,q3⟩:=hdm i hq;have e3:=ajD d' Qq _ _ q1 q2;rw[q3]at e3;rw[e3];have hl:=Po m (d'[i / gW m]!).1;rw[AY _ _ ah];exact P9 _ _ (zo _)
    .have:=hone i hi2;simpa[Array.getD,hi2]using this
   .exact aao m _
   .have hz':(jI m ((xs.mergeSort λx y=> !ltOf cf y x).getD i aG))[j]? =some z:=hz;rw[hpl,mW]at hz';rcases hq:(sU m ((xs.mergeSort λx y=> !ltOf cf y x).getD i aG))[j]? with _|v;rw[hq]at hz';cases hz';rw[hq]at hz';cases hz';have hj:j<gW m:=(by have:=iF hq;rw[Po]at this;exact this);have hlt:i*gW m+j<d'.size*gW m:=(by rw[Qq];have:i*gW m+gW m<=xs.length*gW m:=(by rw[<-pK];exact jS _ hi);omega);have hi2:i*gW m+j<bs.size:=(by rw[hbs];have:xs.length*gW m<=l.cap*gW m:=jS _ lc;rw[Qq]at hlt;omega);have:(putCells id 0 (flatK en (gW m) d') bs).getD (i*gW m+j) undef=(flatK en (gW m) d')[i*gW m+j]! :=(by simp[putCells,Array.getD,hi2,hlt]);rw[this,ajD d' Qq i j hi hj,hdv i hi];have hv:(sU m ((xs.mergeSort λx y=> !ltOf cf y x).getD i aG))[j]! =v:=(by have hl:=Po m ((xs.mergeSort λx y=> !ltOf cf y x).getD i aG);rw[AY _ _ ah];rw[jR ah]at hq;exact rM hq);rw[hv];exact .val v
  |k+1,hk=>simp at hk
 .match k,k',hk,hk' with
  |0,0,_,_=>rfl
  |k+1,_,hk,_=>simp at hk
  |_,k'+1,_,hk'=>simp at hk'
 .exact H.uL bb ((ku _).2 ((LB _ _).1 hbb))
 .exact(ku _).2 ((LB _ _).1 hbb)
def aLx(f g:Nat)(m:N)(cmp:T m->T m->Option Int):aS:=
 {f:=f,ps:=⟨[(0,.c (.own 0)),(1,.c (.fn g []))],[.ar (.n m)]⟩,rs:=⟨[],[.ar (.n m)]⟩,β:=List (T m),F:=λv=>V8 cmp v.2.1,g:=λr=>((),(r,())),d:=λv=>v.2.1,dk:=true,hd:=λ_ _=>rfl}
theorem aJC(L:SlLaysF0.n6 P ρ){f g:Nat}{m:N}{cmp:T m->T m->Option Int}(hm0:0<gW m)(aE:∀w,(isAgg (ρ.t 24)).run P w=.ok true w)(zE:∀w,(Go.sizeOf (ρ.t 24)).run P w=.ok (gW m) w)(hpl:∀x:T m,jI m x=(sU m x).map .val)(P9:∀x:T m,∀v∈sU m x,v.oneCell'=true)(hf:ρ.f 6=f)
  (hgo:∀(vs:Array Value) (w:World),(callFunc f vs).run P w=.ok (.enter f vs) w) (eg:∀(vs:Array Value) (w:World),(callFunc g vs).run P w=.ok (.enter g vs) w)
  (hg:∀x y r,cmp x y=some r-> @qx GD P g [.one (.agg ((jI m x).map .c)),.one (.agg ((jI m y).map .c))] [] (λr' h'=>r'=fP (.int .i64 r)/\h'=[])):kR P (aLx f g m cmp):=by
 refine⟨hgo,λv r hF=> ?_⟩;obtain⟨v1,xs,u⟩:=v;change V8 cmp xs=some r at hF;obtain⟨a1,a2,hO,rfl⟩:=aHS hF
 have key:=aG6 L hm0 aE zE hpl P9 (g:=g) (xs:=xs) (λx y=>(cmp x y).getD 0) hO a1 eg (λx hx y hy=>by
  obtain⟨q,hq⟩:=a2 x hx y hy;have:=hg x y q hq;rw[hq]
  exact this)
 rw[hf]at key;refine qx.mono key ?_;rintro r' h' ⟨rfl,rfl⟩;refine⟨rfl,?_⟩;have hl:List.length (α:=T m) (List.mergeSort (α:=T m) xs λx y=> !qZ cmp y x)=List.length (α:=T m) xs:=aiG _;show [aU.arr (gW m) (List.length (α:=T m) xs) (fE (.n m) (List.mergeSort (α:=T m) xs λx y=> !qZ cmp y x))]=[aU.arr (gW m) (List.length (α:=T m) (List.mergeSort (α:=T m) xs λx y=> !qZ cmp y x)) (fE (.n m) (List.mergeSort (α:=T m) xs λx y=> !qZ cmp y x))];rw[hl]
end
end Go.AM
namespace Go.AM
open Go Go.RowKit Go.CP Go.Proofs Go.Shelf
variable [Fuel]
section
variable {P:Program}{ρ:Ren}
theorem aFG(L:SlLaysW.n5 P ρ)(es:List (Value×Value)):qx P (ρ.f 5) [.one (.s (.mp 0))] [.ms es] (λr h=>r= .one (.s (.mp 1))/\h= [.ms es,.ms es]):=by intro X w m vs H ha;cases ha with
  |cons h0 h1=>cases h1 with
  |nil=>rename_i v0;change dU w m _ (.mp 0) v0 at h0;cases h0 with
  |mp _ b l hk hb=>
  obtain⟨l',b',rows,clock,e1,e2,e3,e4⟩:=H.obj 0 _ rfl;rw[hk]at e1;cases e1;rw[hb]at e2;cases e2;show Calls P (ρ.f 5) #[_] w _;refine(AnyW.maps_Clone L b rows clock w e3).mono λe w' he=> ?_;obtain⟨rfl,rfl⟩:=he;obtain⟨H1,hMX,Qp⟩:=H.more 1;have hm1:m 1=none:=H.used 1 aj;let l1:Loc:=⟨some ⟨w.heap.size,0,none⟩,0,0,some w.heap.size,0⟩
  have S:=Stp.make H1 (id:=1) rfl hm1 none l1 (.ms es) trivial (w':=w.alloc (.map rows clock)) rfl rfl ⟨rfl,λ_=>gy _⟩ aj (λb hb=> .inl (TN w _ b hb))
    (λb hb=>by cases hb;exact .inl (gy _)) (λkG=>⟨l1,w.heap.size,rows,clock,by simp[mX],rfl,UL w _,e4⟩)
  refine⟨_,_,_,mX m 1 l1,rfl,⟨rfl,rfl⟩,S.rel,dU.mp 1 w.heap.size l1 (by simp[mX]) rfl,⟨S.os,S.tape,S.output,S.later.size,λb hb hM=>S.keep b hb (λh=>hM ((Qp b).1 h))⟩,λb hb=> ?_,λj l hj hl=>S.later.ext j l hl⟩;rcases S.mt b hb with h|h
  · exact .inl ((Qp b).1 h)
  · exact .inr h
def aKA(f:Nat):aS:={f:=f,ps:=⟨[(0,.c (.mc 0))],[.ms]⟩,rs:=⟨[(0,.c (.mc 1))],[.ms,.ms]⟩,β:=List (Value×Value)×List (Value×Value),F:=λv=>some (v.2.1,v.2.1),g:=(λr=>(((),()),(r.2,(r.1,())))),d:=λ_=>aG}
theorem aIk(L:SlLaysW.n5 P ρ){f:Nat}(hf:ρ.f 5=f)(hgo:∀(vs:Array Value) (w:World),(callFunc f vs).run P w=.ok (.enter f vs) w):kR P (aKA f):=by refine⟨hgo,λv r h=> ?_⟩;subst hf;obtain⟨u,es,u'⟩:=v;have h:some (es,es)=some r:=h;cases h;exact aFG L es
theorem aHm{f:FuncId}(hD:¬Dr)(hc:∀(b0 b clock:Nat) (w:World),w.cell? ⟨b0,0,none⟩=some (.map (some b))->w.heap[b]? =some (.map #[] clock)→
      Calls P f #[.pointer (some ⟨b0,0,none⟩)] w λe w'=>e=.returned (.slice none 0 0)/\Below w.heap.size w w') (t:Ty):
    qx P f [.one (.s (.pb 0 0))] [.box [.mp 1],.ms []] (λr h=>r=.one (.s (.c (.ls t [])))/\h=[.box [.mp 1],.ms []]):=by
  intro X w m vs H ha;cases ha with
  |cons h0 h1=>cases h1 with
  |nil=>rename_i v0;change dU w m _ (.pb 0 0) v0 at h0;cases h0 with
  |pb _ _ b0 l hk hb=>
  obtain⟨l',b',T,cs,e1,e2,e3,e4,e5⟩:=H.obj 0 _ rfl;rw[hk]at e1;cases e1;rw[hb]at e2;cases e2;have hp:=e4.2 0 (.mp 1) rfl;have hz:0<cs.size:=by have:=e4.1;simp at this;omega
  generalize hv:cs.getD 0 undef=v1 at hp;cases hp with
  |mp _ b1 l1 hk1 hb1=>
  obtain⟨l',b',rows,clock,q1,q2,q3,q4⟩:=H.obj 1 _ rfl;rw[hk1]at q1;cases q1;rw[hb1]at q2;cases q2;have hr:rows= #[]:=by have:rows.toList=[]:=List.map_eq_nil_iff.1 q4;simpa using this
  subst hr;have hcell:w.cell? ⟨b0,0,none⟩=some (.map (some b1)):=by rw[cell_of_row w b0 0 cs T _ e3,<-hv];simp[Array.getD,hz]
  show Calls P f #[_] w _;refine(hc b0 b1 clock w hcell q3).mono λe w' he=> ?_;obtain⟨rfl,hB⟩:=he;have kG:Later w m (MX X m [.box [.mp 1],.ms []]) w' m (MX X m [.box [.mp 1],.ms []]):=⟨λ_ _ h=>h,λ_ _ h=>h,λb hb _=>hB.block b hb,hB.size⟩;have hblk:∀(k:Nat) o l b,[aU.box [.mp 1],.ms []][k]? =some o->m k=some l->l.blk=some b->b<w.heap.size:=by
    intro k o l b ho hm hbk
    match k,ho with
    |0,_=>rw[hk]at hm;cases hm;rw[hb]at hbk;cases hbk;exact(ajj.1 e3).1
    |1,_=>rw[hk1]at hm;cases hm;rw[hb1]at hbk;cases hbk;exact(ajj.1 q3).1
    |k+2,ho=>simp at ho
  refine⟨_,_,_,m,rfl,⟨rfl,rfl⟩,⟨λk o ho=> ?_,H.inj,H.used,H.uL,λb hb=>xX (H.xlt b hb) hB.size⟩,dU.c (.ls t [] _ (.qm _ _ none 0)),⟨hB.os,hB.tape,⟨hB.output,λd=>(hD d).elim⟩,hB.size,λb hb _=>hB.block b hb⟩,λb hb=> .inl hb,λj l _ h=>h⟩
  match k,ho with
  | 0,ho=>cases ho;exact⟨_,b0,T,cs,hk,hb,(hB.block b0 (hblk 0 _ _ _ rfl hk hb)).trans e3,e4.later kG,e5⟩
  | 1,ho=>cases ho;exact⟨_,b1, #[],clock,hk1,hb1,(hB.block b1 (hblk 1 _ _ _ rfl hk1 hb1)).trans q3,q4⟩
  |k+2,ho=>simp at ho
end
end Go.AM
namespace Go.AM
open Go Go.CP Go.RowKit
variable [Fuel]
section
variable {P:Program} {fn:Func} {h:List aU} {R:SV->List aU->Prop}
end
end Go.AM
namespace Go.AM
open Go Go.RowKit Go.CP
variable [Fuel]
inductive AnD(β:Type) where
 |two (a:An β) (b:AnD β)
 |dist (a1 a2:An β) (b1 b2:AnD β)
 |df (sh:Shape) (J:sh.V->Option β) (t k:Nat) (b:An β)
section
variable {β:Type} (C:Cx) (p:Nat) (ntg:Nat) (cg:Code) (kr:Exit->TS->Option β)
end
section
variable {β:Type} {C:Cx} {p ntg:Nat} {cg:Code} {kr:Exit->TS->Option β}
end
end Go.AM
