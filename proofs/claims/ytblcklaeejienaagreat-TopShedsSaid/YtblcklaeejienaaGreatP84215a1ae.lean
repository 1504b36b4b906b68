/- The walks, printed by tx.py. -/
import Derived.Test.YtblcklaeejienaaGreatP777222312
set_option linter.defProp false
set_option linter.unusedSectionVars false
set_option linter.unusedSimpArgs false
set_option linter.unusedVariables false
namespace Go.Proofs
open Go Go.AM Go.CP Go.RowKit
set_option maxRecDepth 100000
variable [Fuel]
def aC5:aS:=kV 349 ⟨[(0,u2)],[JC,p52]⟩ ⟨[],[JC,p52]⟩ (λv=>af2 (m0 v.2)) (λr=>((),g0 r)) (λv=>m0 v.2)
theorem aCp:aW aC5:=bN 10 aV [] Tryz.func349 (λv=>m0 v.2)
def azE:aS:=kV 303 Wo ⟨[],[CY,xk,p52,p53]⟩ (λv=>Nn (m1 v.2)) (λr=>((),g1 r)) (λv=>m1 v.2)
theorem aei:aW azE:=bN 7 aV [kO aCp] Tryz.func303 (λv=>m1 v.2)
def axr:aS:=bA 295 ⟨G8,[jV,lJ,mP,p52,p53]⟩ ⟨[],[jV,lJ,jN,.dd,p53,p52]⟩ (λv=>MZ (m3 v.2) v.1.2.1 v.1.2.2.1) (λr=>((),g11 r))
theorem adX:aW axr:=bN 18 aV [kO axb,kO aei] Tryz.func295 (λv=>m16 v.2)
def aAo:aS:=jk 343 Wo Wq (λv=>aeX (m1 v.2)) (λr=>((r.1,()),g1 r.2)) (λv=>xH (m1 v.2)) (λx v=>(x,m1 v.2)) (λ_=>azj _)
theorem azi:aW aAo:=bN 8 aV [] Tryz.func343 (λv=>(v.1.1,m1 v.2))
def aAE:aS:=jk 300 Bt Qn (λv=>afa (m3 v.2)) (λr=>((r.1,()),g2 r.2)) (λv=>nC (m3 v.2)) (λx v=>(x,m3 v.2)) (λ_=>azx _)
theorem Fx:aW aAE:=bN 8 aV [kO azi] Tryz.func300 (λv=>(v.1.1,m3 v.2))
def azV:aS:=kV 296 Bt aj2 (λv=>Nt (m3 v.2)) (λr=>((),g12 r)) (λv=>m3 v.2)
theorem amu:aW azV:=cu 26 aV [kO Fx] Tryz.func296 (λv=>m3 v.2) (.zz 2 (.one (.lp atv (λn v=>Fv v.1.2.1 n v.1.2.2.1 (m3 v.2)) λad1=>.zz 2 (.cut atv (λv=>Ih (λy1 y2=>ad1 (((),v.1.2.1,y1,()),e0 y2,((),y2.aR.gJ,y2.aR.iR,(),()),(y2.aR.bX,(),()),y2.aR.bX.data,y2.aR.bT,())) v.1.2.2.1 (m3 v.2)) (.one (.two .z (.sp 2 5))) .z)))) (v2 (vB (vL λ_=>v2 (vC (vB (vS vZ vP)) vZ))))
def axY:aS:=jk 299 ⟨G8,[jV,lJ,mP,p52,p53]⟩ ⟨[(0,u25)],[jV,lJ,mP,p52,p53]⟩ (λv=>aeo (m3 v.2) v.1.2.1 v.1.2.2.1) (λr=>((r.1,()),g2 r.2)) (λv=>yK (m3 v.2) v.1.2.1 v.1.2.2.1) (λx v=>(x,m3 v.2)) (λ_=>axj _ _ _)
theorem XJ:aW axY:=bN 16 aV [kO BM] Tryz.func299 (λv=>(v.1.1,m3 v.2))
def aA9:aS:={f:=373,ps:=Ws,rs:=⟨[(0,.st .cO),(1,u1)],[CY,xk,p52,p53]⟩,β:=(cO×Bool×fT),F:=λv=>afg (m1 v.2) v.1.2.1,g:=(λr=>((r.1,r.2.1,()),g1 r.2.2)),d:=λ_=>aG,ro:=some {R:=(cO×Bool),Fr:=λv=>FI (m1 v.2) v.1.2.1,dr:=(aG,aG),pr:=λx v=>(x.1,x.2,m1 v.2),hF:=λ_=>az7 _ _},hr:=λq h v x=>by cases h;rfl}
theorem amC:aW aA9:=bN 25 aV [] Tryz.func373 (λv=>(v.1.1,v.1.2.1,m1 v.2))
def ayh:aS:=jk 344 Ws Wq (λv=>aes (m1 v.2) v.1.2.1) (λr=>((r.1,()),g1 r.2)) (λv=>zf (m1 v.2) v.1.2.1) (λx v=>(x,m1 v.2)) (λ_=>axz _ _)
theorem Rt:aW ayh:=bN 15 aV [kO amC] Tryz.func344 (λv=>(v.1.1,m1 v.2))
def axq:aS:=jk 301 Bt Qn (λv=>aed (m3 v.2)) (λr=>((r.1,()),g2 r.2)) (λv=>Ic (m3 v.2)) (λx v=>(x,m3 v.2)) (λ_=>aw0 _)
theorem al4:aW axq:=bN 11 aV [kO Fx,kO Rt] Tryz.func301 (λv=>(v.1.1,m3 v.2))
def awT:aS:=jk 298 ⟨[(0,zS),(1,u2)],[.bx [.pb 1 0],o98,.bx [.pb 3 0,zC,zC,.own 5],QG,p52,p53]⟩ ⟨[(0,u25)],[.bx [.pb 1 0],o98,.bx [.pb 3 0,zC,zC,.own 5],QG,p52,p53]⟩ (λv=>ad2 v.1.1 (m3 v.2.2)) (λr=>((r.1,()),g13 r.2)) (λv=>J6 v.1.1 (m3 v.2.2)) (λx v=>(x,m3 v.2.2)) (λ_=>awK _ _)
theorem awJ:aW awT:=bN 15 aV [kO XJ,kO Fx,kO al4] Tryz.func298 (λv=>(v.1.1,m3 v.2.2))
def axt:aS:=jk 297 ⟨[(0,u2),(1,.c (.fn 298 [5]))],[jV,lJ,mP,p52,p53,QH]⟩ ⟨[(0,u26)],[jV,lJ,mP,p52,p53,QH]⟩ (λv=>aee (m3 v.2)) (λr=>((r.1,()),g14 r.2)) (λv=>MS (m3 v.2)) (λx v=>(x,m3 v.2)) (λ_=>aw2 _)
theorem aw1:aW axt:=cu 28 aV [kO awJ] Tryz.func297 (λv=>(v.1.1,m3 v.2)) (.zz 2 (.two (.two .z (.one (.lp atN (λn v=>MR v.1.2.2.2.1 (m3 v.2) n (dz v).1 (bD v.1).1) λadQ=>.zz 2 (.cut atN (λv=>Rm (λy1 y2=>adQ (((),(),(),v.1.2.2.2.1,y2,()),((),v.2.1.2),((),v.2.2.1.2.1,v.2.2.1.2.2.1,(),()),(m0 v.2.2.2,(),()),(m0 v.2.2.2).data,(dH v).1,((),()),y1,())) (bD v.1).1 (dz v).1) .z .z)))) .z)) (v2 (vS (v1 (vB (vL λ_=>v2 (vC vZ vZ)))) vZ))
def axp:aS:=bA 239 Bt atO (λv=>zh (m3 v.2)) (λr=>((r.1,()),g15 r.2))
theorem al3:aW axp:=bN 37 aV [kO BM,kO adX,kO amu,kO aw1] Tryz.func239 (λv=>(v.1.1,m16 v.2))
def avH:aS:=bA 294 ⟨acR,[p54]⟩ ⟨[(0,u20)],[.dd,p54]⟩ (λv=>HV v.2.1 v.1.2.1 v.1.2.2.1) (λr=>(((),()),(),r,()))
theorem Xq:aW avH:=bN 33 aV [] Tryz.func294 (λv=>v.2.2.1)
def aBj:aS:=bA 238 ⟨[(0,u2),(1,u26)],[zJ,tT,kI,l9,jN,p52,p53,p54]⟩ atD (λv=>BS (m4 v.2) v.1.2.1) (λr=>((),g16 r))
theorem amG:aW aBj:=cu 37 aV [kO Xq] Tryz.func238 (λv=>m17 v.2) (.two .z (.one (.lp ⟨[(0,u2),(6,u26),(7,zS),(8,zS)],[WC,tT,kI,l9,jN,p52,p53,.dd,p54]⟩ (λn v=>R9 v.1.2.1 v.1.2.2.1 n v.1.2.2.2.1 (m17 v.2)) λKe=>.zz 2 (.two (.one (.two .z (.cut ⟨[(0,u2),(5,.c (.pb 9 0)),(6,u26),(7,zS),(8,zS)],[WC,tT,kI,l9,jN,p52,p53,.dd,p54,p71]⟩ (λv=>aeE (λy1 y2=>Ke (((),v.1.2.2.1,v.1.2.2.2.1,y1,()),((),(),y2.lY,()),((),()),e0 (y2.aT.getD 0 aG),e2 (y2.aT.getD 0 aG).aR,((y2.aT.getD 0 aG).aR.bX,(),()),((y2.aT.getD 0 aG).aR.bX).data,(y2.aT.getD 0 aG).aR.bT,(),y2.bg,())) (bD v.1).1 (nI v).1 (m17 v.2)) .z .z))) .z)))) (v1 (vB (vL λ_=>v2 (vS (vB (v1 (vC vZ vZ))) vZ))))
def aAp:aS:=bA 345 atF ⟨[(0,zS)],[JB,xk,p52,.dd,p53]⟩ (λv=>Sm (m1 v.2) v.1.2.1 v.1.2.2.1) (λr=>((r.1,()),g17 r.2))
theorem amx:aW aAp:=bN 54 aV [kO YK,kO Rt] Tryz.func345 (λv=>(v.1.1,m18 v.2))
def aE1:aS:=bA 348 Wt Wu (λv=>Zu v.1.1) dK
theorem aD3:aW aE1:=cu 33 aV [kO afo] Tryz.func348 dx (.zz 2 (.two (.two .z (.one (.un (.two .z (.two (.ct .z) .z)) (.un (.two .z (.two (.ct .z) .z)) (.un (.two .z (.two (.ct .z) .z)) (.un (.two .z (.two (.ct .z) .z)) (.un (.two .z (.two (.ct .z) .z)) (.un (.two .z (.two (.ct .z) .z)) (.un (.two .z (.two (.ct .z) .z)) (.un (.two .z (.two (.ct .z) .z)) (.un (.two .z (.two (.ct .z) .z)) (.un (.two .z (.two (.cf .z) .z)) .z)))))))))))) .z)) (v2 (vS (v1 (vB (vU (vV (v1 (vS (vT vZ) vZ)) (vV (v1 (vS (vT vZ) vZ)) (vV (v1 (vS (vT vZ) vZ)) (vV (v1 (vS (vT vZ) vZ)) (vV (v1 (vS (vT vZ) vZ)) (vV (v1 (vS (vT vZ) vZ)) (vV (v1 (vS (vT vZ) vZ)) (vV (v1 (vS (vT vZ) vZ)) (vV (v1 (vS (vT vZ) vZ)) (vV (v1 (vS (vF vZ) vZ)) vX))))))))))))) vZ))
def ayg:aS:=bA 302 atF atQ (λv=>R3 (m1 v.2) v.1.2.1 v.1.2.2.1) (λr=>((r.1,()),g18 r.2))
theorem ama:aW ayg:=bN 23 aV [kO amx,kO aeu,kO aD3,kO aeb] Tryz.func302 (λv=>(v.1.1,m19 v.2))
def axX:aS:=kV 304 Bt aj2 (λv=>zR (m3 v.2)) (λr=>((),g12 r)) (λv=>m3 v.2)
theorem al7:aW axX:=cu 62 aV [kO Fx,kO Rt,kO BM] Tryz.func304 (λv=>m3 v.2) (.two .z (.one (.lp atL (λn v=>Ib (m3 v.2) n v.1.2.1) λBJ=>.two .z (.cut atL (λv=>Rp (λy1=>BJ (((),y1,()),((),v.2.1.2),((),v.2.2.1.2.1,v.2.2.1.2.2.1,(),()),(m0 v.2.2.2,(),()),(m0 v.2.2.2).data,(dH v).1,())) v.1.2.1) (.one (.zz 2 (.two (.two .z (.one (.lp ⟨auC,[jV,lJ,mP,p52,p53]⟩ (λn v=>BL (λy1=>BJ (((),y1,()),((),v.2.1.2),((),v.2.2.1.2.1,v.2.2.1.2.2.1,(),()),(m0 v.2.2.2,(),()),(m0 v.2.2.2).data,(dH v).1,())) v.1.2.1 v.1.2.2.2.1 (m3 v.2) n v.1.2.2.1 (bD v.1).1) λJ4=>.zz 2 (.cut ⟨auC,[jV,lJ,mP,p52,p53]⟩ (λv=>Rq (λy1 y2=>J4 (((),v.1.2.1,y1,v.1.2.2.2.1,y2,()),((),v.2.1.2),((),v.2.2.1.2.1,v.2.2.1.2.2.1,(),()),(m0 v.2.2.2,(),()),(m0 v.2.2.2).data,(dH v).1,())) (bD v.1).1 v.1.2.2.1) (.one (.two .z (.cut ⟨[(0,u2),(2,zS),(3,zS),(28,zS),(29,zS),(47,u1)],[jV,lJ,mP,p52,p53]⟩ (λv=>Ia (λy1 y2=>J4 (((),v.1.2.1,y1,v.1.2.2.2.1,y2,()),((),v.2.1.2),((),v.2.2.1.2.1,v.2.2.1.2.2.1,(),()),(m0 v.2.2.2,(),()),(m0 v.2.2.2).data,(dH v).1,())) v.1.2.2.1 (bD v.1).1 (dH v.1).1) (.sp 4 5) .z))) .z)))) .z))) .z)))) (v1 (vB (vL λ_=>v1 (vC (vB (v2 (vS (v1 (vB (vL λ_=>v2 (vC (vB (v1 (vC vP vZ))) vZ)))) vZ))) vZ))))
def aBk:aS:={f:=377,ps:=Wp,rs:=⟨[(0,.st .cO),(1,u1)],[jV,lJ,mP,p52,p53]⟩,β:=(cO×Bool×bn),F:=λv=>afk (m3 v.2) v.1.2.1,g:=(λr=>((r.1,r.2.1,()),g2 r.2.2)),d:=λ_=>aG,ro:=some {R:=(cO×Bool),Fr:=λv=>Ns (m3 v.2) v.1.2.1,dr:=(aG,aG),pr:=λx v=>(x.1,x.2,m3 v.2),hF:=λ_=>aAg _ _},hr:=λq h v x=>by cases h;rfl}
theorem aAf:aW aBk:=bN 14 aV [kO amC] Tryz.func377 (λv=>(v.1.1,v.1.2.1,m3 v.2))
def azU:aS:=jk 350 Wp ⟨[(0,u28)],[jV,lJ,mP,p52,p53]⟩ (λv=>aeR (m3 v.2) v.1.2.1) (λr=>((r.1,()),g2 r.2)) (λv=>Fy (m3 v.2) v.1.2.1) (λx v=>(x,m3 v.2)) (λ_=>ayQ _ _)
theorem amt:aW azU:=cu 25 aV [kO Fx,kO aAf] Tryz.func350 (λv=>(v.1.1,m3 v.2)) (.zz 2 (.two (.one (.lp ⟨[(0,u2),(1,zS),(5,.c (.own 5))],[jV,lJ,mP,p52,p53,p53]⟩ (λn v=>RV (m3 v.2) n v.1.2.1 (dR v).1) λaPa=> .z)) .z)) (v2 (vS (vB (vL λ_=>vZ)) vZ))
def aw4:aS:=jk 305 Wp ⟨[(0,u25)],[jV,lJ,mP,p52,p53]⟩ (λv=>ad9 (m3 v.2) v.1.2.1) (λr=>((r.1,()),g2 r.2)) (λv=>H9 (m3 v.2) v.1.2.1) (λx v=>(x,m3 v.2)) (λ_=>awR _ _)
theorem al1:aW aw4:=cu 36 aV [kO XJ,kO Rt,kO amt] Tryz.func305 (λv=>(v.1.1,m3 v.2)) (.zz 2 (.cut ⟨[(0,u2),(4,Ap),(5,u9)],[jV,lJ,mP,p52,p53,.bw .bJ [(8,.nl)],p71]⟩ (λv=>H8 (dz v).1 (m3 v.2)) (.sp 1 5) .z)) (v2 (vC vP vZ))
def awO:aS:=jk 297 ⟨[(0,u2),(1,.c (.fb 305 0 0))],[jV,lJ,mP,p52,p53]⟩ Wn (λv=>adY (m3 v.2)) (λr=>((r.1,()),g2 r.2)) (λv=>BK (m3 v.2)) (λx v=>(x,m3 v.2)) (λ_=>awE _)
theorem adR:aW awO:=cu 28 aV [kO al1] Tryz.func297 (λv=>(v.1.1,m3 v.2)) (.zz 2 (.two (.two .z (.one (.lp ⟨auj,[jV,lJ,mP,p52,p53,p54]⟩ (λn v=>MN v.1.2.2.2.1 (m3 v.2) n (dR v).1 (bD v.1).1) λadM=>.zz 2 (.cut ⟨auj,[jV,lJ,mP,p52,p53,p54]⟩ (λv=>Rj (λy1 y2=>adM (((),(),(),v.1.2.2.2.1,y2,()),((),v.2.1.2),((),v.2.2.1.2.1,v.2.2.1.2.2.1,(),()),(m0 v.2.2.2,(),()),(m0 v.2.2.2).data,(dH v).1,y1,())) (bD v.1).1 (dR v).1) .z .z)))) .z)) (v2 (vS (v1 (vB (vL λ_=>v2 (vC vZ vZ)))) vZ))
def axW:aS:=bA 240 ⟨acT,[jV,lJ,mP,p52,p53]⟩ ⟨[(0,u26),(1,zS)],[jV,acG,jN,.dd,.dd,p52,p53]⟩ (λv=>zi (m3 v.2) v.1.2.1) (λr=>((r.1,r.2.1,()),g19 r.2.2))
theorem al6:aW axW:=bN 34 aV [kO BM,kO ama,kO aei,kO al7,kO adR] Tryz.func240 (λv=>(v.1.1,v.1.2.1,m20 v.2))
def azQ:aS:=jk 241 Bt Wn (λv=>aeN (m3 v.2)) (λr=>((r.1,()),g2 r.2)) (λv=>Kl (m3 v.2)) (λx v=>(x,m3 v.2)) (λ_=>ayL _)
theorem amr:aW azQ:=bN 12 aV [kO adR] Tryz.func241 (λv=>(v.1.1,m3 v.2))
def azL:aS:=bA 242 Qm atD (λv=>Ye (m4 v.2) v.1.2.1) (λr=>((),g16 r))
theorem amo:aW azL:=bN 15 aV [kO Xq] Tryz.func242 (λv=>m17 v.2)
def azW:aS:=bA 351 ⟨[(0,u25)],[]⟩ iW (λv=>Nu v.1.1) dK
theorem ayR:aW azW:=cu 52 aV [kO YK] Tryz.func351 dx (.zz 3 (.two (.two .z (.one (.lp ⟨[(1,u2),(3,zS),(26,u28),(27,zS),(28,zS)],[p71]⟩ (λn v=>M7 v.2.1 v.1.2.2.1 v.1.2.2.2.1 n v.1.2.1 (bD v.1).1) λaPb=> .z))) .z)) (v3 (vS (v1 (vB (vL λ_=>vZ))) vZ))
def ayt:aS:=jk 306 Qo ⟨[(0,u1)],[jV,lJ,mP,p52,p53]⟩ (λv=>aey (m3 v.2) v.1.2.1) (λr=>((r.1,()),g2 r.2)) (λv=>Ig (m3 v.2) v.1.2.1) (λx v=>(x,m3 v.2)) (λ_=>axL _ _)
theorem axK:aW ayt:=cu 87 aV [kO ayR] Tryz.func306 (λv=>(v.1.1,m3 v.2)) (.zz 2 (.two (.two .z (.one (.cut ⟨[(3,Ap),(78,zS),(79,u1)],[jV,lJ,mP,p52,p53,p71]⟩ (λv=>MW (dR v).1 v.1.2.1 v.1.2.2.1 (m3 v.2)) .z .z))) .z)) (v2 (vS (v1 (vB (vC vZ vZ))) vZ))
def azG:aS:=jk 378 Wo Wq (λv=>aeG (m1 v.2)) (λr=>((r.1,()),g1 r.2)) (λv=>M9 (m1 v.2)) (λx v=>(x,m1 v.2)) (λ_=>ayD _)
theorem ayC:aW azG:=bN 7 aV [] Tryz.func378 (λv=>(v.1.1,m1 v.2))
def azT:aS:=jk 352 Bt Qn (λv=>aeQ (m3 v.2)) (λr=>((r.1,()),g2 r.2)) (λv=>Nb (m3 v.2)) (λx v=>(x,m3 v.2)) (λ_=>ayP _)
theorem ayO:aW azT:=bN 8 aV [kO ayC] Tryz.func352 (λv=>(v.1.1,m3 v.2))
def awU:aS:=bA 307 Qo atO (λv=>ad3 (m3 v.2) v.1.2.1) (λr=>((r.1,()),g15 r.2))
theorem awL:aW awU:=cu 62 aV [kO al4,kO ayO,kO Fx,kO XJ,kO BM,kO adX] Tryz.func307 (λv=>(v.1.1,m16 v.2)) (.zz 5 (.cut ⟨[(8,u9)],[jV,lJ,jN,.dd,p53,p52,p71]⟩ (λv=>XF (dz v).1 (m16 v.2)) .z .z)) (v5 (vC vZ vZ))
def awN:aS:=kV 308 Qo Wn (λv=>XI (m3 v.2) v.1.2.1) (λr=>((r.1,()),g2 r.2)) (λv=>(aG,m3 v.2))
theorem awD:aW awN:=cu 66 aV [kO BM,kO amu,kO adR] Tryz.func308 (λv=>(v.1.1,m3 v.2)) (.zz 4 (.two (.two .z (.one (.lp ⟨[(0,u2),(5,zS),(38,zS),(39,zS)],[jV,lJ,mP,p52,p53]⟩ (λn v=>XC v.1.2.2.1 (m3 v.2) n v.1.2.1 v.1.2.2.2.1) λaO3=> .z))) .z)) (v4 (vS (v1 (vB (vL λ_=>vZ))) vZ))
def ayu:aS:=jk 353 ⟨[(0,u2),(1,zS),(2,zS),(3,u1)],[jV,lJ,mP,p52,p53]⟩ Wn (λv=>aez (m3 v.2) v.1.2.1 v.1.2.2.1 v.1.2.2.2.1) (λr=>((r.1,()),g2 r.2)) (λv=>Fu (m3 v.2) v.1.2.1 v.1.2.2.1 v.1.2.2.2.1) (λx v=>(x,m3 v.2)) (λ_=>axN _ _ _ _)
theorem axM:aW ayu:=bN 19 aV [kO XJ] Tryz.func353 (λv=>(v.1.1,m3 v.2))
def aAq:aS:=bA 384 Ws ⟨[(0,zS)],[JB,xk,p52,.dd,p53]⟩ (λv=>Ym (m1 v.2) v.1.2.1) (λr=>((r.1,()),g17 r.2))
theorem amy:aW aAq:=cu 25 aV [] Tryz.func384 (λv=>(v.1.1,m18 v.2)) (.zz 2 (.two (.rw [(0,3)]) .z)) (v2 (vS vR vZ))
def aAn:aS:=bA 379 Ws atQ (λv=>amJ (m1 v.2) v.1.2.1) (λr=>((r.1,()),g18 r.2))
theorem azh:aW aAn:=bN 17 aV [kO amy,kO aeu,kO aeb] Tryz.func379 (λv=>(v.1.1,m19 v.2))
def axZ:aS:=bA 354 ⟨[(0,u2),(1,zS),(2,u28)],[jV,lJ,mP,p52,p53]⟩ ⟨[],[jV,acG,jN,.dd,.dd,p52,p53]⟩ (λv=>aep (m3 v.2) v.1.2.1 v.1.2.2.1) (λr=>((),g20 r))
theorem axk:aW axZ:=cu 39 aV [kO Fx,kO azh,kO ama,kO aei] Tryz.func354 (λv=>m20 v.2) (.cut ⟨[(0,u2),(2,u28)],[jV,akt,qD,.dd,.dd,p53,p52]⟩ (λv=>XK v.1.2.1 (m23 v.2)) .z (.two (.two .z (.one (.lp ⟨[(0,u2),(18,u28),(19,zS),(20,zS)],[jV,akt,qD,.dd,.dd,p53,p52]⟩ (λn v=>Rs v.1.2.1 v.1.2.2.1 n v.1.2.2.2.1 (m23 v.2)) λaO7=> .z))) .z)) (vC vZ (vS (v1 (vB (vL λ_=>vZ))) vZ))
def awG:aS:=bA 309 Qo atH (λv=>adU (m3 v.2) v.1.2.1) (λr=>((r.1,()),g19 r.2))
theorem awx:aW awG:=cu 128 aV [kO BM,kO axM,kO Fx,kO Rt,kO axk] Tryz.func309 (λv=>(v.1.1,m20 v.2)) (.zz 6 (.two (.one (.lp ⟨[(0,u2),(3,Ap),(5,zS)],[jV,lJ,mP,p52,p53,p71]⟩ (λn v=>MK (dR v).1 (m3 v.2) n v.1.2.2.1) λaO2=> .z)) (.cut ⟨[(0,u2),(3,.c (.pb 7 0))],[jV,akt,qD,.dd,.dd,p53,p52,p71]⟩ (λv=>Ri (fF v).1 (m23 v.2)) .z .z))) (v6 (vS (vB (vL λ_=>vZ)) (vC vZ vZ)))
def awH:aS:=kV 310 Qo Wn (λv=>adV (m3 v.2) v.1.2.1) (λr=>((r.1,()),g2 r.2)) (λv=>(aG,m3 v.2))
theorem awy:aW awH:=cu 79 aV [kO BM,kO al1,kO Fx,kO al7] Tryz.func310 (λv=>(v.1.1,m3 v.2)) (.zz 2 (.two (.two .z (.two (.cut atE (λv=>ML (dR v).1 (m3 v.2)) (.sb 3 1 5) .z) .z)) (.cut aj2 (λv=>XB (m3 v.2)) (.two .z (.two (.cut atE (λv=>J3 (dR v).1 (m3 v.2)) (.sb 3 1 5) (.cut Bt (λv=>J2 (m3 v.2)) (.sb 3 1 5) .z)) .z)) .z))) (v2 (vS (v1 (vD (vC vO vZ) vZ)) (vC (v1 (vD (vC vO (vC vO vZ)) vZ)) vZ)))
def ays:aS:=bA 243 Qo atH (λv=>nT (m3 v.2) v.1.2.1) (λr=>((r.1,()),g19 r.2))
theorem XO:aW ays:=cu 43 aV [kO axK,kO BM,kO adX,kO awL,kO awD,kO awx,kO awy] Tryz.func243 (λv=>(v.1.1,m20 v.2)) (.zz 2 (.cut ⟨[(0,u2),(3,u9)],[jV,lJ,jN,.dd,p53,p52,p71]⟩ (λv=>Ie (dz v).1 (m16 v.2)) .z .z)) (v2 (vC vZ vZ))
def aCC:aS:=bA 355 ⟨Da,[JC,p52]⟩ ⟨[],[xk,.dd,p52]⟩ (λv=>afS (m0 v.2) v.1.2.1) (λr=>((),g9 r))
theorem aB1:aW aCC:=cu 40 aV [] Tryz.func355 (λv=>m13 v.2) (.two .z (.two (.rw [(0,0)]) .z)) (v1 (vS vR vZ))
def aCB:aS:=jk 356 ⟨[(0,u2)],[JC,p52]⟩ ⟨[(0,u24)],[JC,p52]⟩ (λv=>afR (m0 v.2)) (λr=>((r.1,()),g0 r.2)) (λv=>Sz (m0 v.2)) (λx v=>(x,m0 v.2)) (λ_=>aB0 _)
theorem aBZ:aW aCB:=bN 8 aV [] Tryz.func356 (λv=>(v.1.1,m0 v.2))
def aFr:aS:=bA 397 LZ jC (λv=>agD v.1.1) dK
theorem aEK:aW aFr:=bN 13 aV [] Tryz.func397 dx
def aEw:aS:=bA 380 Wu ⟨WR,[]⟩ (λv=>OC v.1.1) (λr=>((r.1,r.2.1,r.2.2,()),()))
theorem afY:aW aEw:=cu 49 aV [kO aEK] Tryz.func380 (λv=>(v.1.1,v.1.2.1,v.1.2.2.1)) (.zz 2 (.two (.two .z (.one (.lp ⟨[(0,u24),(5,JV),(8,zS)],[]⟩ (λn v=>N9 v.1.1 n v.1.2.1 v.1.2.2.1) λaPu=> .z))) .z)) (v2 (vS (v1 (vB (vL λ_=>vZ))) vZ))
def aF0:aS:=bA 357 aj5 ⟨[(0,u24),(1,zS),(2,zS)],[]⟩ (λv=>ZT v.1.1 v.1.2.1) (λr=>((r.1,r.2.1,r.2.2,()),()))
theorem aER:aW aF0:=cu 73 aV [kO afY,kO anx] Tryz.func357 (λv=>(v.1.1,v.1.2.1,v.1.2.2.1)) (.zz 4 (.two (.two .z (.one (.lp ⟨[(0,u24),(1,zS),(7,zS),(8,zS),(10,JV),(39,zS)],[]⟩ (λn v=>Oj v.1.1 v.1.2.1 v.1.2.2.1 v.1.2.2.2.1 n (bD v.1).1 (dH v.1).1) λaPK=> .z))) .z)) (v4 (vS (v1 (vB (vL λ_=>vZ))) vZ))
def aEg:aS:=bA 382 Wu ⟨[(0,zS),(1,u24),(2,u1)],[]⟩ (λv=>Ox v.1.1) (λr=>((r.1,r.2.1,r.2.2,()),()))
theorem aDx:aW aEg:=bN 20 aV [kO afY] Tryz.func382 (λv=>(v.1.1,v.1.2.1,v.1.2.2.1))
def aFY:aS:=bA 383 Wu ⟨[(0,rC),(1,zS),(2,zS)],[]⟩ (λv=>ZR v.1.1) (λr=>((r.1,r.2.1,r.2.2,()),()))
theorem aEP:aW aFY:=cu 59 aV [kO afY,kO YK] Tryz.func383 (λv=>(v.1.1,v.1.2.1,v.1.2.2.1)) (.zz 3 (.two (.two .z (.one (.lp ⟨[(0,u24),(2,u2),(5,u8),(6,zS),(12,zS)],[p65,.bs .uY]⟩ (λn v=>wF v.1.1 n v.2.2.1 v.1.2.2.2.1 (bD v.1).1) λafJ=>.zz 2 (.two (.one (.zz 3 (.cut ⟨[(0,u24),(2,u2),(5,u8),(6,zS),(9,zS),(12,zS)],[p65,.bs .uY]⟩ (λv=>AA (λy1 y2 y3=>afJ ((v.1.1,(),(),y2,y3,()),v.2.1,y1,())) v.1.2.2.2.1 (dH v.1).1 v.2.2.1 (bD v.1).1) (.sp 7 9) .z))) .z)))) .z)) (v3 (vS (v1 (vB (vL λ_=>v2 (vS (vB (v3 (vC vP vZ))) vZ)))) vZ))
def ayi:aS:=bA 358 atP ⟨[(0,u1)],[JB,xk,p52,.dd,p53]⟩ (λv=>XV (m1 v.2) v.1.2.1) (λr=>((r.1,()),g17 r.2))
theorem axA:aW ayi:=cu 87 aV [kO aDx,kO al5,kO aEP,kO amx,kO amy] Tryz.func358 (λv=>(v.1.1,m18 v.2)) (.zz 5 (.two (.two .z (.one (.zz 3 (.two (.two .z (.cut ⟨[(4,u1)],[JB,xk,p52,.dd,p53]⟩ (λv=>ad4 v.1.1 (m18 v.2)) (.gs [8]) .z)) (.two .z (.two (.cut ⟨[(4,u1)],[JB,xk,p52,.dd,p53]⟩ (λv=>ad5 v.1.1 (m18 v.2)) (.gs [3]) .z) .z)))))) .z)) (v5 (vS (v1 (vB (v1 (vD vZ (v1 (vD (v1 (vC vG vZ)) (v1 (vD (vC vG vZ) vZ)))))))) vZ))
def aA6:aS:=bA 359 ⟨Da,[JC,p52]⟩ ⟨[(0,zS)],[xk,.dd,p52]⟩ (λv=>afe (m0 v.2) v.1.2.1) (λr=>((r.1,()),g9 r.2))
theorem az4:aW aA6:=cu 34 aV [] Tryz.func359 (λv=>(v.1.1,m13 v.2)) (.zz 2 (.two (.rw [(0,0)]) .z)) (v2 (vS vR vZ))
def ayX:aS:=bA 311 Ws ⟨[],[aub,QG,.dd,.dd,p52,p53]⟩ (λv=>X7 (m1 v.2) v.1.2.1) (λr=>((),g18 r))
theorem ax6:aW ayX:=cu 58 aV [kO aB1,kO aBZ,kO aER,kO axA,kO az4] Tryz.func311 (λv=>m19 v.2) (.zz 4 (.cut ⟨[(0,u2),(5,zS)],[JB,jN,.dd,p53,p53,p52]⟩ (λv=>RB v.1.2.1 (m22 v.2)) (.one (.lp ⟨[(0,u2),(4,u24),(5,zS)],[JB,jN,.dd,p53,p53,p52]⟩ (λn v=>J9 v.1.2.1 n v.1.2.2.1 (m22 v.2)) λadW=>.two .z (.one (.two .z (.two (.cut ⟨[(0,u2),(4,u24),(5,zS),(7,zS),(48,u1)],[JB,jN,.dd,p53,p53,p52]⟩ (λv=>RD (λy1 y2=>adW (((),v.1.2.1,y1,()),((),y2.gJ,y2.iR,(),()),(y2.bX,(),()),(),(bD v).1,y2.bT,y2.bX.data,())) v.1.2.2.1 v.1.2.2.2.1 (bD v.1).1 (m22 v.2)) (.gs [2]) .z) .z))))) .z)) (v4 (vC (vB (vL λ_=>v1 (vB (v1 (vS (vC vG vZ) vZ))))) vZ))
def ay6:aS:=bA 244 Wp ⟨[],[jV,acG,jN,.dd,.dd,p52,p53]⟩ (λv=>BQ (m3 v.2) v.1.2.1) (λr=>((),g20 r))
theorem amf:aW ay6:=bN 16 aV [kO ax6] Tryz.func244 (λv=>m20 v.2)
def ayr:aS:=jk 247 Bt Qn (λv=>aex (m3 v.2)) (λr=>((r.1,()),g2 r.2)) (λv=>oM (m3 v.2)) (λx v=>(x,m3 v.2)) (λ_=>axJ _)
theorem XM:aW ayr:=bN 7 aV [] Tryz.func247 (λv=>(v.1.1,m3 v.2))
def aAF:aS:=jk 312 Bt ⟨[(0,u28)],[jV,lJ,mP,p52,p53]⟩ (λv=>afb (m3 v.2)) (λr=>((r.1,()),g2 r.2)) (λv=>rD (m3 v.2)) (λx v=>(x,m3 v.2)) (λ_=>azy _)
theorem X4:aW aAF:=bN 5 aV [kO amt] Tryz.func312 (λv=>(v.1.1,m3 v.2))
def aBi:aS:=kV 245 aj0 ⟨[],[zJ,tT,kI,l9,jN,p52,p53,p54]⟩ (λv=>Yp (m4 v.2)) (λr=>((),g3 r)) (λv=>m4 v.2)
theorem amF:aW aBi:=cu 48 aV [kO XM,kO X4] Tryz.func245 (λv=>m4 v.2) (.two .z (.one (.un (.two .z (.two (.ct .z) (.cut ⟨auH,[zJ,tT,kI,l9,jN,p52,p53,p54]⟩ (λv=>Ar v.1.2.2.1 v.1.2.2.2.1 (m4 v.2)) (.one (.zz 3 (.two (.two .z (.one (.lp ⟨[(0,u2),(4,.c (.own 8)),(10,u20),(11,zS),(12,zS),(31,u28),(32,zS),(33,zS)],[zJ,tT,kI,l9,jN,p52,p53,p54,p72]⟩ (λn v=>Nh v.1.2.2.2.1 (bD v.1).1 (dH v.1).1 (dR v.1).1 (m4 v.2) n (l7 v).1 (dz v.1).1) λaya=> .z))) .z))) .z))) (.un (.two .z (.two (.cf .z) .z)) .z)))) (v1 (vB (vU (vV (v1 (vS (vT vZ) (vC (vB (v3 (vS (v1 (vB (vL λ_=>vZ))) vZ))) vZ))) (vV (v1 (vS (vF vZ) vZ)) vX)))))
def aCf:aS:=bA 168 atG atm (λv=>IB (m4 v.2) v.1.2.1) (λr=>((r.1,()),g21 r.2))
theorem amK:aW aCf:=cu 132 aV [kO axf,kO al3,kO amG,kO al6,kO amr,kO amo,kO XO,kO amf,kO amF] Tryz.func168 (λv=>(v.1.1,m26 v.2)) (.zz 2 (.cut ⟨[(0,u2)],[WC,tT,kI,aku,sQ,.dd,.dd,.dd,p54,p53,p52]⟩ (λv=>zU (m30 v.2)) (.two .z (.one (.two .z (.two (.sb 3 1 1) (.two .z (.two (.two (.sb 3 1 1) .z) (.two .z (.two (.sb 3 1 1) (.two .z (.two (.zz 2 (.sb 7 2 1)) (.two .z (.two (.two .z (.sb 8 2 1)) (.zz 3 (.two (.sb 3 1 1) .z)))))))))))))) .z)) (v2 (vC (v1 (vB (v1 (vD vO (v1 (vD (vS vO vZ) (v1 (vD vO (v1 (vD (v1 (vS vZ vO)) (v1 (vD (vS vZ vO) (v1 (vD vZ (v1 (vD vO vZ)))))))))))))))) vZ))
def aAz:aS:=bA 169 Qm atm (λv=>Ku (m4 v.2) v.1.2.1) (λr=>((r.1,()),g21 r.2))
theorem azs:aW aAz:=cu 58 aV [kO amo,kO XO,kO amG,kO amF] Tryz.func169 (λv=>(v.1.1,m26 v.2)) (.zz 2 (.two (.one (.lp ⟨auI,[WC,tT,kI,aku,sQ,.dd,.dd,.dd,p54,p53,p52]⟩ (λn v=>R5 v.1.2.1 n v.1.2.2.1 (m30 v.2)) λaPe=>.two .z (.one (.zz 3 (.two (.sb 6 2 1) .z))))) .z)) (v2 (vS (vB (vL λ_=>v1 (vB (v3 (vS vO vZ))))) vZ))
def azI:aS:=jk 170 Qm atw (λv=>aeH (m4 v.2) v.1.2.1) (λr=>((r.1,()),g3 r.2)) (λv=>X3 (m4 v.2) v.1.2.1) (λx v=>(λ(p1:bR) (p2:Int)=>(x,iI p1)) (m4 v.2) v.1.2.1) (λ_=>ayG _ _)
theorem ayF:aW azI:=cu 17 aV [kO aeI,kO XM] Tryz.func170 (λv=>(v.1.1,m4 v.2)) (.zz 2 (.two (.sp 1 1) .z)) (v2 (vS vP vZ))
def aBL:aS:=jk 248 Qm ⟨[(0,u28)],[zJ,tT,kI,l9,jN,p52,p53,p54]⟩ (λv=>afw (m4 v.2) v.1.2.1) (λr=>((r.1,()),g3 r.2)) (λv=>Kv (m4 v.2) v.1.2.1) (λx v=>(λ(p1:bR) (p2:Int)=>(x,iI p1)) (m4 v.2) v.1.2.1) (λ_=>aA2 _ _)
theorem aA1:aW aBL:=cu 17 aV [kO aeI,kO X4] Tryz.func248 (λv=>(v.1.1,m4 v.2)) (.zz 2 (.two (.sp 1 1) .z)) (v2 (vS vP vZ))
def aCd:aS:=jk 171 Wm ⟨[(0,zS)],[kT,CX,sS,kU,sP,qD,p52,p53,p54]⟩ (λv=>afH (m7 v.2)) (λr=>((r.1,()),g4 r.2)) (λv=>NC (m7 v.2)) (λx v=>(λ(p1:bO)=>(x,iU p1)) (m7 v.2)) (λ_=>aBz _)
theorem aBy:aW aCd:=cu 58 aV [kO ae1,kO aA1] Tryz.func171 (λv=>(v.1.1,m7 v.2)) (.zz 2 (.two (.two .z (.one (.lp aty (λn v=>Kr (bD v.1).1 (m7 v.2) n v.1.2.1 v.1.2.2.1 v.1.2.2.2.1 (dH v.1).1) λDy=>.zz 2 (.cut aty (λv=>Iq (λy1 y2 y3 y4=>Dy (((),y1,y2,y3,(bD v.1).1,y4,()),Qu v.2.1 ((),jc v.2.1),((),(),v.2.2.1.2.2.1,()),((),()),((),(bD v).1.2),((),(dH v).1.2.1,(dH v).1.2.2.1,(),()),(m0 (dR v),(),()),(m0 (dR v)).data,(fF v).1,(l7 v).1,())) v.1.2.1 v.1.2.2.1 v.1.2.2.2.1 (dH v.1).1) (.one (.zz 3 (.cut ⟨auh,[kT,CX,sS,kU,sP,qD,p52,p53,p54]⟩ (λv=>Ir (λy1 y2 y3 y4=>Dy (((),y1,y2,y3,(dz v.1).1,y4,()),Qu v.2.1 ((),jc v.2.1),((),(),v.2.2.1.2.2.1,()),((),()),((),(bD v).1.2),((),(dH v).1.2.1,(dH v).1.2.2.1,(),()),(m0 (dR v),(),()),(m0 (dR v)).data,(fF v).1,(l7 v).1,())) v.1.2.1 v.1.2.2.1 v.1.2.2.2.1 (bD v.1).1 (dH v.1).1 (dR v.1).1 (fF v.1).1) .z .z))) .z)))) .z)) (v2 (vS (v1 (vB (vL λ_=>v2 (vC (vB (v3 (vC vZ vZ))) vZ)))) vZ))
def aBf:aS:=bA 91 atz atn (λv=>Sv (m7 v.2) v.1.2.1) (λr=>((r.1,()),g22 r.2))
theorem aAd:aW aBf:=cu 66 aV [kO ayH,kO ae1,kO amK,kO azs,kO ayF,kO aBy] Tryz.func91 (λv=>(v.1.1,QY v.2)) (.two .z (.two (.two .z (.one (.lp ⟨[(0,u2),(3,u29),(6,zS)],[kT,QA,sS,kU,ET,yB,.dd,.dd,.dd,p54,p53,p52,p65]⟩ (λn v=>FB (bZ v).1 n v.1.2.2.1 (m32 v.2)) λKc=>.zz 2 (.two (.one (.two .z (.two (.cut ⟨[(0,u2),(3,u29),(5,zS),(6,zS),(26,u1)],[kT,QA,sS,kU,ET,yB,.dd,.dd,.dd,p54,p53,p52,p65]⟩ (λv=>Ko (λy1 y2=>Kc (((),(),y1,()),e3 y2,((),(),y2.bg.lY,()),((),()),e0 (y2.bg.aT.getD 0 aG),e2 (y2.bg.aT.getD 0 aG).aR,((y2.bg.aT.getD 0 aG).aR.bX,(),()),(),(),(),y2.bg.bg,(y2.bg.aT.getD 0 aG).aR.bT,((y2.bg.aT.getD 0 aG).aR.bX).data,(bZ v).1,())) v.1.2.2.2.1 v.1.2.2.1 (bD v.1).1 (m32 v.2)) (.gs [3]) .z) .z))) .z)))) .z)) (v1 (vS (v1 (vB (vL λ_=>v2 (vS (vB (v1 (vS (vC vG vZ) vZ))) vZ)))) vZ))
def aAu:aS:=bA 38 atz ⟨BG,[kT,acD,sS,kU,ET,acH,.dd,.dd,.dd,p52,p53,p54]⟩ (λv=>Ip (m7 v.2) v.1.2.1) (λr=>((r.1,r.2.1,()),g22 r.2.2))
theorem XW:aW aAu:=bN 42 aV [kO aAT,kO XQ,kO aAd] Tryz.func38 (λv=>(v.1.1,v.1.2.1,QY v.2))
def aCL:aS:=bA 27 ⟨acT,[Xf,xA,EM,Bv,xB,y7,y8,p52,p53,p54,Me,Md,Ma,p60,Mf,.ms,p57,p58,QC,p59,Mc,p60,Mg,.ms,p57,p58,QD,p59,p61]⟩ ⟨[(0,u1)],(.bx [zC,.ty (.l (.n .jA)),.ty (.l (.n .jy)),.ty (.l (.n .iG)),.ty (.l (.n .jg)),.ty (.l (.i .i64)),.ty (.l (.i .i64)),zC,zC,zC,.pb 1 0,.own 10,.own 32,.ty (.l (.n .wI)),zC]::xA:: .bx [.own 3,.own 31,.ty (.l (.n .aP))]:: [Bv,xB,.bx [.pb 6 0,zC,zC,.own 30],.bw .bQ [(0,.own 29)],.dd,.dd,.dd,Me,Md,Ma,p60,Mf,.ms,p57,p58,QC,p59,Mc,p60,Mg,.ms,p57,p58,QD,p59,.dd,p52,p53,p54,p61])⟩ (λv=>YJ (m12 v.2) v.1.2.1) (λr=>((r.1,()),g23 r.2))
theorem aCl:aW aCL:=cu 45 aV [kO XW] Tryz.func27 (λv=>(v.1.1,m38 v.2)) (.zz 3 (.cut ⟨[],(.bx [zC,.ty (.l (.n .jA)),.ty (.l (.n .jy)),.ty (.l (.n .iG)),.ty (.l (.n .jg)),.ty (.l (.i .i64)),.ty (.l (.i .i64)),zC,zC,zC,.pb 1 0,.own 10,.own 29,.ty (.l (.n .wI)),zC]::xA:: .bx [.own 3,.own 30,.ty (.l (.n .aP))]:: [Bv,xB,.bx [.pb 6 0,zC,zC,.own 31],.bw .bQ [(0,.own 32)],.dd,.dd,.dd,Me,Md,Ma,p60,Mf,.ms,p57,p58,QC,p59,Mc,p60,Mg,.ms,p57,p58,QD,p59,.dd,p61,p54,p53,p52])⟩ (λv=>afn (m44 v.2)) .z .z)) (v3 (vC vZ vZ))
def aHL:aS:=bA 9 ⟨BG,[]⟩ jC (λv=>Gh v.1.1 v.1.2.1) dK
theorem Uq:aW aHL:=bN 12 aV [] Tryz.func9 dx
def aF1:aS:=bA 117 ⟨[(0,u30)],[]⟩ iW (λv=>aon v.1.1) dK
theorem aES:aW aF1:=bN 43 aV [] Tryz.func117 dx
def aDH:aS:=bA 217 jC iW (λv=>cmp_isNaN_int v.1.1) dK
theorem aCX:aW aDH:=bN 6 aV [] Tryz.func217 dx
def aCA:aS:=bA 135 ⟨BG,[]⟩ jC (λv=>cmp_Compare_int v.1.1 v.1.2.1) dK
theorem Yo:aW aCA:=bN 20 aV [kO aCX] Tryz.func135 dx
def aFV:aS:=bA 134 yZ jC (λv=>KX v.1.1) dK
theorem Y1:aW aFV:=cu 18 aV [] Tryz.func134 dx (.zz 2 (.two (.two .z (.one (.lp ⟨[(3,zS),(6,u5),(7,zS),(8,zS)],[]⟩ (λn v=>KI v.1.2.1 v.1.1 v.1.2.2.1 n v.1.2.2.2.1) λaPJ=> .z))) .z)) (v2 (vS (v1 (vB (vL λ_=>vZ))) vZ))
def aEf:aS:=bA 119 ⟨[(0,u30),(1,u30)],[]⟩ jC (λv=>agk v.1.1 v.1.2.1) dK
theorem aDw:aW aEf:=bN 27 aV [kO Yo,kO Y1] Tryz.func119 dx
def avB:aS:=bA 118 ⟨[(0,u31),(1,u30),(2,.c (.fn 119 []))],[]⟩ ⟨[(0,zS),(1,u1)],[]⟩ (λv=>alK v.1.1 v.1.2.1) (λr=>((r.1,r.2,()),()))
theorem avy:aW avB:=cu 49 aV [kO aDw] Tryz.func118 (λv=>(v.1.1,v.1.2.1)) (.zz 3 (.two (.one (.lp ⟨[(0,u31),(2,.c (.fn 119 [])),(4,u2),(8,zS),(9,zS),(10,zS)],[.bs .iC]⟩ (λn v=>Xp v.1.1 v.2.1 v.1.2.2.2.1 n (bD v.1).1 (dH v.1).1) λaOX=> .z)) .z)) (v3 (vS (vB (vL λ_=>vZ)) vZ))
def avL:aS:=bA 120 ⟨[(0,oh),(1,zS),(2,u31)],[p59]⟩ ⟨[(0,u20)],[.dd,p59]⟩ (λv=>alS v.2.1 v.1.2.1 v.1.2.2.1) (λr=>(((),()),(),r,()))
theorem avJ:aW avL:=bN 95 aV [] Tryz.func120 (λv=>v.2.2.1)
def aDa:aS:=bA 74 ⟨[(0,u2),(1,u30)],[QF,p59]⟩ ⟨[(0,zS)],[.bw .iH [(2,.own 2)],.dd,p59]⟩ (λv=>af3 (m10 v.2) v.1.2.1) (λr=>((r.1,()),g24 r.2))
theorem aCu:aW aDa:=cu 46 aV [kO aES,kO avy,kO avJ] Tryz.func74 (λv=>(v.1.1,m45 v.2)) (.zz 4 (.cut ⟨[],[.bw .iH [(2,.own 2)],.dd,p59]⟩ (λv=>afr (m45 v.2)) .z .z)) (v4 (vC vZ vZ))
def awl:aS:=bA 110 ⟨[(0,u37)],[]⟩ ⟨[(0,u37)],[]⟩ (λv=>adN v.1.1) dK
theorem awf:kR Tryz.prog awl:=D8 (t:=.n .aP) (e:=73) 8 aV Tryz.func110 dx 0 3 4 52 dx [] rfl au au aA aA au aC au (by intro v;exact⟨au,au⟩) aA aA (λv r hx hF=>DU hx hF)
def axS:aS:=jk 69 aj0 ⟨[(0,u37)],[zJ,tT,kI,l9,jN,p52,p53,p54]⟩ (λv=>aej (m4 v.2)) (λr=>((r.1,()),g3 r.2)) (λv=>Rw (m4 v.2)) (λx v=>(λ(p1:bR)=>(x,iI p1)) (m4 v.2)) (λ_=>axe _)
theorem axd:aW axS:=bN 8 aV [kO awf] Tryz.func69 (λv=>(v.1.1,m4 v.2))
def aAt:aS:=jk 22 Wm ⟨[(0,u37)],[kT,CX,sS,kU,sP,qD,p52,p53,p54]⟩ (λv=>aeY (m7 v.2)) (λr=>((r.1,()),g4 r.2)) (λv=>X9 (m7 v.2)) (λx v=>(λ(p1:bO)=>(x,iU p1)) (m7 v.2)) (λ_=>azl _)
theorem azk:aW aAt:=bN 8 aV [kO axd] Tryz.func22 (λv=>(v.1.1,m7 v.2))
def ay7:aS:=bA 23 ⟨[(0,u0),(1,u37)],[]⟩ ⟨[(0,.sw .aN [(2,.own 0),(3,.own 1)]),(1,zS),(2,zS)],[p55,p56]⟩ (λv=>aoD v.1.1 v.1.2.1) (λr=>((({r.1 with aH:=([]:List bM),aK:=([]:List gG)},(),(),()),r.2.1,r.2.2,()),r.1.aH,r.1.aK,()))
theorem ayx:aW ay7:=cu 38 aV [kO aer,kO XQ] Tryz.func23 (λv=>({v.1.1.1 with aH:=v.2.1,aK:=v.2.2.1},v.1.2.1,v.1.2.2.1)) (.zz 2 (.two (.two .z (.one (.lp ⟨[(1,u37),(2,u2),(4,u8),(7,jO),(14,u37),(15,zS),(16,zS)],[p51,zK,.bw .aN [(2,.own 3),(3,.own 4)],p55,p56]⟩ (λn v=>af7 v.2.1 v.1.1 (bD v.1).1 (dH v.1).1 n {v.2.2.2.1.1 with aH:=(bD v).1,aK:=(dH v).1} (dR v.1).1) λaPM=> .z))) .z)) (v2 (vS (v1 (vB (vL λ_=>vZ))) vZ))
def aDF:aS:=kV 129 ⟨[(0,oh),(1,rC)],[p61]⟩ ⟨[],[p61]⟩ (λv=>anv v.2.1 v.1.2.1) (λr=>((),r,())) (λv=>v.2.1)
theorem aCV:aW aDF:=cu 47 aV [] Tryz.func129 (λv=>v.2.1) (.zz 2 (.one (.lp atI (λn v=>Yx v.2.2.1 v.1.2.2.1 n v.2.1 v.1.2.2.2.1) λae6=>.zz 2 (.cut atI (λv=>afD (λy1 y2=>ae6 (((),(),v.1.2.2.1,y2,()),y1,v.2.2.1,())) v.1.2.2.2.1 v.2.1) .z .z)))) (v2 (vB (vL λ_=>v2 (vC vZ vZ))))
def aAh:aS:=bA 131 ⟨[(0,u38)],[]⟩ iW (λv=>aeU v.1.1) dK
theorem amv:aW aAh:=bN 10 aV [] Tryz.func131 dx
def awc:aS:=bA 214 ⟨[(0,u39),(1,u40)],[]⟩ jC (λv=>alT v.1.1) dK
theorem av6:aW awc:=cu 19 aV [kO amv] Tryz.func214 dx (.two .z (.two (.two .z (.one (.lp ⟨[(0,u39),(1,u40),(7,zS),(8,zS)],[]⟩ (λn v=>adG v.1.1 v.1.2.2.1 n v.1.2.2.2.1) λaO1=> .z))) .z)) (v1 (vS (v1 (vB (vL λ_=>vZ))) vZ))
def avK:aS:=bA 130 ⟨[(0,oh),(1,u40)],[p61]⟩ ⟨[(0,u20)],[.dd,p61]⟩ (λv=>alR v.2.1) (λr=>(((),()),(),r,()))
theorem avI:aW avK:=cu 42 aV [kO av6,kO amv] Tryz.func130 (λv=>v.2.2.1) (.zz 3 (.two (.two .z (.one (.lp atM (λn v=>Xx n v.2.1 v.1.2.2.1 v.1.2.2.2.1) λadB=>.two .z (.cut atM (λv=>adD (λy1 y2 y3=>adB (((),(),y2,y3,()),y1,())) v.1.2.2.2.1 v.2.1 v.1.2.2.1) .z .z)))) .z)) (v3 (vS (v1 (vB (vL λ_=>v1 (vC vZ vZ)))) vZ))
def aAi:aS:=bA 133 ⟨[(0,u38),(1,u38)],[]⟩ jC (λv=>aeV v.1.1 v.1.2.1) dK
theorem azb:aW aAi:=bN 17 aV [kO Yo,kO Y1] Tryz.func133 dx
def axv:aS:=kV 132 ⟨[(0,oh),(1,.c (.fn 133 []))],[p61]⟩ ⟨[],[p61]⟩ (λv=>amg v.2.1) (λr=>((),r,())) (λv=>v.2.1)
theorem aw8:kR Tryz.prog axv:=aJC (m:=.iK) (cmp:=λx y=>aeV x y) Tryz.aJ5 ak (by intro w;kernel_rfl) (by intro w;kernel_rfl) (λ_=>rfl) (λx v hv=>by simp[sU,jI,tL,E8,ofN,Ew,plV]at hv;rcases hv with rfl|rfl|rfl|rfl|rfl|rfl|rfl<;>rfl) rfl aC aC (λx y r h=>(@azb GD).2 ((x,y,()),()) r h)
def aCK:aS:=bA 28 ⟨Da,[Xf,xA,EM,Bv,xB,y7,y8,p52,p53,p54,Me,Md,Ma,p60,Mf,.ms,p57,p58,QC,p59,Mc,p60,Mg,.ms,p57,p58,QD,p59,p61]⟩ ⟨[],[Xf,xA,EM,Bv,xB,y7,y8,p52,p53,p54,Me,Md,Ma,p60,Mf,.ms,p57,p58,.bw .iH [(2,.own 29)],.dd,Mc,p60,Mg,.ms,p57,p58,.bw .iH [(2,.own 30)],.dd,p61,p59,p59]⟩ (λv=>anj (m12 v.2) v.1.2.1) (λr=>((),g25 r))
theorem aCk:aW aCK:=cu 41 aV [kO Uq,kO amV,kO aCu] Tryz.func28 (λv=>m50 v.2) (.zz 2 (.sm [(4,0,1),(4,2,2)])) (v1 (vS vZ vM))
def aFU:aS:=bA 121 Wv iW (λv=>ZQ v.1.1) dK
theorem aEO:aW aFU:=bN 11 aV [] Tryz.func121 dx
def aEb:aS:=bA 122 Wv iW (λv=>agf v.1.1) dK
theorem aDs:aW aEb:=bN 6 aV [] Tryz.func122 dx
def aFT:aS:=bA 75 ⟨[(0,u33)],[]⟩ iW (λv=>aoh v.1.1) dK
theorem aEN:aW aFT:=bN 149 aV [kO aEO,kO aDs] Tryz.func75 dx
def aBF:aS:={f:=76,ps:=⟨G8,[QF,p59]⟩,rs:=⟨[(0,zS),(1,u1)],[QF,p59]⟩,β:=(Int×Bool×iH),F:=λv=>afq (m10 v.2) v.1.2.1 v.1.2.2.1,g:=(λr=>((r.1,r.2.1,()),g5 r.2.2)),d:=λ_=>aG,ro:=some {R:=(Int×Bool),Fr:=λv=>Yl (m10 v.2) v.1.2.1 v.1.2.2.1,dr:=(aG,aG),pr:=λx v=>(x.1,x.2,m10 v.2),hF:=λ_=>aAS _ _ _},hr:=λq h v x=>by cases h;rfl}
theorem aAR:aW aBF:=cu 44 aV [] Tryz.func76 (λv=>(v.1.1,v.1.2.1,m10 v.2)) (.zz 2 (.two (.two .z (.one (.lp ⟨aun,[QF,p59]⟩ (λn v=>Nl (m10 v.2) v.1.1 v.1.2.1 (bD v.1).1 n v.1.2.2.1 (dH v.1).1) λaen=>.zz 2 (.cut ⟨aun,[QF,p59]⟩ (λv=>Sc (λy1 y2=>aen ((v.1.1,v.1.2.1,y1,(),(bD v.1).1,y2,()),(m10 v.2,(),()),(m10 v.2).mq,())) (dH v.1).1 v.1.2.2.1) .z .z)))) .z)) (v2 (vS (v1 (vB (vL λ_=>v2 (vC vZ vZ)))) vZ))
def aCy:aS:=jk 77 acn atr (λv=>afQ (m11 v.2)) (λr=>((r.1,()),g7 r.2)) (λv=>Sy (m11 v.2)) (λx v=>(x,m11 v.2)) (λ_=>aBX _)
theorem amN:aW aCy:=bN 22 aV [] Tryz.func77 (λv=>(v.1.1,m11 v.2))
def aCJ:aS:={f:=78,ps:=⟨[(0,u2),(1,u32)],[.bx [.mc 1],.ms]⟩,rs:=⟨[(0,u32),(1,zS),(2,u1)],[.bx [.mc 1],.ms]⟩,β:=(ByteArray×Int×Bool×pJ),F:=λv=>afX (m8 v.2.2.1) v.1.2.1,g:=(λr=>((r.1,r.2.1,r.2.2.1,()),((),()),r.2.2.2.values,())),d:=λ_=>aG,ro:=some {R:=(ByteArray×Int×Bool),Fr:=λv=>NM (m8 v.2.2.1) v.1.2.1,dr:=(aG,aG,aG),pr:=λx v=>(x.1,x.2.1,x.2.2,m8 v.2.2.1),hF:=λ_=>aCj _ _},hr:=λq h v x=>by cases h;rfl}
theorem amS:aW aCJ:=bN 23 aV [] Tryz.func78 (λv=>(v.1.1,v.1.2.1,v.1.2.2.1,m8 v.2.2.1))
def aBm:aS:={f:=125,ps:=⟨G8,[p58]⟩,rs:=⟨[(0,.st .kZ),(1,zS)],[p58]⟩,β:=(kZ×Int×jq),F:=λv=>afm v.2.1 v.1.2.1 v.1.2.2.1,g:=(λr=>((r.1,r.2.1,()),r.2.2,())),d:=λ_=>aG,ro:=some {R:=(kZ×Int),Fr:=λv=>Sk v.2.1 v.1.2.1 v.1.2.2.1,dr:=(aG,aG),pr:=λx v=>(x.1,x.2,v.2.1),hF:=λ_=>aAL _ _ _},hr:=λq h v x=>by cases h;rfl}
theorem aAK:aW aBm:=cu 45 aV [] Tryz.func125 (λv=>(v.1.1,v.1.2.1,v.2.1)) (.zz 2 (.cut ⟨[(2,zS),(6,u8),(8,jO)],[p58,.bs .kZ,.bs .pW]⟩ (λv=>BR v.2.1 v.1.1 v.2.2.2.1) (.sp 1 9) .z)) (v2 (vC vP vZ))
def aDG:aS:=jk 126 acn atr (λv=>af6 (m11 v.2)) (λr=>((r.1,()),g7 r.2)) (λv=>NS (m11 v.2)) (λx v=>(x,m11 v.2)) (λ_=>aCW _)
theorem amZ:aW aDG:=bN 8 aV [] Tryz.func126 (λv=>(v.1.1,m11 v.2))
def aCh:aS:=jk 206 aj3 ⟨[(0,.c (.ty (.l .s)))],[.bx [.mc 1],.ms]⟩ (λv=>afP (m8 v.2.2.1)) (λr=>((r.1,()),((),()),r.2.values,())) (λv=>Sw (m8 v.2.2.1)) (λx v=>(x,m8 v.2.2.1)) (λ_=>aBU _)
theorem aBT(hD:¬Dr):kR Tryz.prog aCh:=by refine⟨aC,λv r h=> ?_⟩;obtain⟨v1,b,es,u⟩:=v;rcases es with _|⟨e,es⟩;have h:some _=some r:=h;cases h;exact aHm hD Tryz.keys_empty .s;exact nomatch (show none=some r from h)
def avV:aS:=bA 267 ⟨[(0,u34)],[]⟩ ⟨[(0,oh)],[p73]⟩ (λv=>XD v.1.1) (λr=>(((),()),r,()))
theorem alO:kR Tryz.prog avV:=D8 (t:=.n .iV) (e:=162) 8 aV Tryz.func267 (λv=>v.2.1) 0 3 4 227 dx [] rfl au au aA aA au aC au (by intro v;exact⟨au,au⟩) aA aA (λv r hx hF=>DU hx hF)
def aBK:aS:=jk 207 ⟨[(0,u2)],[p57]⟩ ⟨[(0,u34)],[p57]⟩ (λv=>afv v.2.1) (λr=>((r.1,()),r.2,())) (λv=>Kt v.2.1) (λx v=>(x,v.2.1)) (λ_=>aA0 _)
theorem aAZ:aW aBK:=bN 8 aV [kO alO] Tryz.func207 (λv=>(v.1.1,v.2.1))
def ayS:aS:=jk 209 ⟨[(0,.st .iV),(1,u2)],[p74]⟩ ⟨[(0,u1)],[p74]⟩ (λv=>aeB v.1.1 v.2.1) (λr=>((r.1,()),r.2,())) (λv=>RG v.1.1 v.2.1) (λx v=>(x,v.2.1)) (λ_=>ax3 _ _)
theorem ax2:aW ayS:=bN 9 aV [] Tryz.func209 (λv=>(v.1.1,v.2.1))
def av9:aS:=jk 268 ⟨[(0,u34),(1,.c (.fn 209 [0]))],[p74]⟩ ⟨[(0,zS)],[p74]⟩ (λv=>adL v.1.1 v.2.1) (λr=>((r.1,()),r.2,())) (λv=>Rh v.1.1 v.2.1) (λx v=>(x,v.2.1)) (λ_=>av5 _ _)
theorem av4:aW av9:=cu 19 aV [kO ax2] Tryz.func268 (λv=>(v.1.1,v.2.1)) (.two .z (.two (.two .z (.one (.lp ⟨[(0,u34),(1,.c (.fn 209 [0])),(7,zS),(8,zS)],[p74]⟩ (λn v=>Rf v.1.1 v.2.1 v.1.2.2.1 n v.1.2.2.2.1) λaO0=> .z))) .z)) (v1 (vS (v1 (vB (vL λ_=>vZ))) vZ))
def avW:aS:=jk 208 ⟨[(0,u34),(1,.c (.fn 209 [0]))],[p74]⟩ ⟨[(0,u1)],[p74]⟩ (λv=>adE v.1.1 v.2.1) (λr=>((r.1,()),r.2,())) (λv=>Ra v.1.1 v.2.1) (λx v=>(x,v.2.1)) (λ_=>avR _ _)
theorem avQ:aW avW:=bN 9 aV [kO av4] Tryz.func208 (λv=>(v.1.1,v.2.1))
def aF6:aS:=bA 123 ⟨[(0,.st .jr),(1,zS),(2,zS)],[]⟩ iW (λv=>agR v.1.1 v.1.2.1 v.1.2.2.1) dK
theorem aEW:aW aF6:=bN 17 aV [] Tryz.func123 dx
def aBJ:aS:=jk 210 ⟨[(0,u2),(1,zS),(2,zS),(3,zS),(4,zS)],[p57]⟩ ⟨[(0,u1)],[p57]⟩ (λv=>afu v.2.1 v.1.2.1 v.1.2.2.1 v.1.2.2.2.1 (bD v.1).1) (λr=>((r.1,()),r.2,())) (λv=>Sq v.2.1 v.1.2.1 v.1.2.2.1 v.1.2.2.2.1 (bD v.1).1) (λx v=>(x,v.2.1)) (λ_=>aAY _ _ _ _ _)
theorem aAX:aW aBJ:=cu 39 aV [kO aEW] Tryz.func210 (λv=>(v.1.1,v.2.1)) (.two .z (.two (.two .z (.one (.lp ⟨[(1,zS),(2,zS),(3,zS),(4,zS),(16,u35),(17,zS),(18,zS)],[p57]⟩ (λn v=>Si v.2.1 v.1.1 v.1.2.1 v.1.2.2.1 v.1.2.2.2.1 (bD v.1).1 (dH v.1).1 n (dR v.1).1) λaPh=> .z))) .z)) (v1 (vS (v1 (vB (vL λ_=>vZ))) vZ))
def aAj:aS:={f:=127,ps:=ajZ,rs:=⟨BG,[Qx,p60,.bx [.mc 3],.ms,p57,p58,GV,p59]⟩,β:=(Int×Int×lQ),F:=λv=>aeW (m11 v.2) v.1.2.1 v.1.2.2.1 v.1.2.2.2.1,g:=(λr=>((r.1,r.2.1,()),g26 r.2.2)),d:=λ_=>aG,ro:=some {R:=(Int×Int),Fr:=λv=>X6 (m11 v.2) v.1.2.1 v.1.2.2.1 v.1.2.2.2.1,dr:=(aG,aG),pr:=λx v=>(x.1,x.2,m11 v.2),hF:=λ_=>azd _ _ _ _},hr:=λq h v x=>by cases h;rfl}
theorem azc(hD:¬Dr):aW aAj:=bN 77 aV [kO amS,kO (aBT hD),kO aAZ,kO avQ,kO aAX] Tryz.func127 (λv=>(v.1.1,v.1.2.1,m11 v.2))
def aFj:aS:=bA 269 Wv iW (λv=>agB v.1.1) dK
theorem aED:aW aFj:=bN 11 aV [] Tryz.func269 dx
def aDT:aS:=bA 270 Wv iW (λv=>aga v.1.1) dK
theorem aDr:aW aDT:=bN 6 aV [] Tryz.func270 dx
def aFi:aS:=bA 211 ⟨[(0,u36)],[]⟩ iW (λv=>Uz v.1.1) dK
theorem Y0:aW aFi:=bN 110 aV [kO aED,kO aDr] Tryz.func211 dx
def avA:aS:=bA 328 ⟨[(0,.c (.mc 0))],[.ms]⟩ ⟨[(0,.c (.mc 1))],[.ms,.ms]⟩ (λv=>alJ v.2.1) (λr=>(((),()),r.2,r.1,()))
theorem avx:kR Tryz.prog avA:=aIk Tryz.aJ7 rfl aC
def aCg:aS:=kV 271 aj3 ⟨[(0,jO)],[.bx [.mc 1],.ms,.bx [.mc 3],.ms]⟩ (λv=>am6 (m8 v.2.2.1)) (λr=>(((),()),((),()),r.2.values,((),()),r.1.values,())) (λv=>(aG,m8 v.2.2.1))
theorem aBS:aW aCg:=bN 10 aV [kO avx] Tryz.func271 (λv=>(m8 (bD v).1,m8 v.2.2.1))
def avN:aS:=bA 329 ⟨[(0,u35)],[]⟩ ⟨[(0,oh)],[p75]⟩ (λv=>alW v.1.1) (λr=>(((),()),r,()))
theorem avM:kR Tryz.prog avN:=D8 (t:=.n .jr) (e:=164) 8 aV Tryz.func329 (λv=>v.2.1) 0 3 4 228 dx [] rfl au au aA aA au aC au (by intro v;exact⟨au,au⟩) aA aA (λv r hx hF=>DU hx hF)
def awe:aS:=kV 272 ⟨[(0,u2)],[p57]⟩ ⟨[(0,u8)],[p57,.bw .iw [(0,.own 2),(1,.own 3)],p73,p75]⟩ (λv=>am2 v.2.1) (λr=>(((),()),r.2,({yj:=([]:List iV),yS:=([]:List jr),zV:=r.1.zV:iw},(),(),()),r.1.yj,r.1.yS,())) (λv=>(aG,v.2.1))
theorem av7:aW awe:=bN 19 aV [kO alO,kO avM] Tryz.func272 (λv=>(m51 v.2.2,v.2.1))
def aBl:aS:=jk 273 ⟨[(0,u2)],[p58]⟩ ⟨[(0,u8)],[p58,p58]⟩ (λv=>afl v.2.1) (λr=>(((),()),r.2,r.1,())) (λv=>Yf v.2.1) (λx v=>(x,v.2.1)) (λ_=>aAJ _)
theorem aAI:aW aBl:=bN 7 aV [] Tryz.func273 (λv=>(v.2.2.1,v.2.1))
def awj:aS:=kV 212 atq ⟨[(0,.ag [.pb 4 0,.pb 6 0,.pb 9 0])],[.bx [.mc 1],.ms,p57,p58,.bx [.mc 5],.ms,.bw .iw [(0,.own 7),(1,.own 8)],p73,p75,p58]⟩ (λv=>anc (m9 v.2.2)) (λr=>((((),(),(),()),()),g27 r)) (λv=>(aG,m8 v.2.2.1,v.2.2.2.1,(bD v).1))
theorem awd:aW awj:=bN 13 aV [kO aBS,kO av7,kO aAI] Tryz.func212 (λv=>(m52 (dR v),m8 v.2.2.1,v.2.2.2.1,(bD v).1))
def aAG:aS:=kV 274 ⟨acU,[p58]⟩ ⟨[(0,zS)],[p58]⟩ (λv=>amL v.2.1 v.1.2.1) (λr=>((r.1,()),r.2,())) (λv=>(aG,v.2.1))
theorem az1:aW aAG:=cu 53 aV [kO Y0] Tryz.func274 (λv=>(v.1.1,v.2.1)) (.zz 2 (.two (.ab 3 3 1) (.zz 3 (.cut ⟨[],[p58]⟩ (λv=>X5 v.2.1) .z .z)))) (v2 (vS vE (v3 (vC vZ vZ))))
def aBQ:aS:=kV 275 ⟨acU,[.bx [.mc 1],.ms]⟩ ⟨[(0,zS)],[.bx [.mc 1],.ms]⟩ (λv=>amX (m8 v.2.2.1) v.1.2.1) (λr=>((r.1,()),((),()),r.2.values,())) (λv=>(aG,m8 v.2.2.1))
theorem aBq:aW aBQ:=cu 55 aV [kO Y0] Tryz.func275 (λv=>(v.1.1,m8 v.2.2.1)) (.zz 3 (.cut ⟨[],[.bx [.mc 1],.ms]⟩ (λv=>aeS v.2.2.1) .z .z)) (v3 (vC vZ vZ))
def aAx:aS:=jk 330 ⟨[(0,.st .iV),(1,u2)],[zM]⟩ ⟨[(0,u1)],[zM]⟩ (λv=>ae2 v.1.1 v.2.1) (λr=>((r.1,()),r.2,())) (λv=>R8 v.1.1 v.2.1) (λx v=>(x,v.2.1)) (λ_=>azq _ _)
theorem azp:aW aAx:=bN 9 aV [] Tryz.func330 (λv=>(v.1.1,v.2.1))
end Go.Proofs
