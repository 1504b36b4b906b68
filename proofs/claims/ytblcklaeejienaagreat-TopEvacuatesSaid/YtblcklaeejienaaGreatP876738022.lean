/- The walks, printed by tx.py. -/
import Derived.Test.YtblcklaeejienaaGreatP70133c1dc
set_option linter.defProp false
set_option linter.unusedSectionVars false
set_option linter.unusedSimpArgs false
set_option linter.unusedVariables false
namespace Go.Proofs
open Go Go.AM Go.CP Go.RowKit
set_option maxRecDepth 100000
variable [Fuel]
def aDN:aR:=kV 349 ⟨[(0,u2)],[JB,p52]⟩ ⟨[],[JB,p52]⟩ (λv=>agr (m0 v.2)) (λr=>((),g0 r)) (λv=>m0 v.2)
theorem aC9:aX aDN:=bM 10 aW [] Tryz.func349 (λv=>m0 v.2)
def aAm:aR:=kV 303 WJ ⟨[],[CR,xA,p52,p53]⟩ (λv=>NA (m1 v.2)) (λr=>((),g1 r)) (λv=>m1 v.2)
theorem aex:aX aAm:=bM 7 aW [kO aC9] Tryz.func303 (λv=>m1 v.2)
def ax7:aR:=bB 295 ⟨G5,[jW,lK,mO,p52,p53]⟩ ⟨[],[jW,lK,jJ,.dd,p53,p52]⟩ (λv=>Ng (m3 v.2) v.1.2.1 v.1.2.2.1) (λr=>((),g11 r))
theorem aea:aX ax7:=bM 18 aW [kO axR,kO aex] Tryz.func295 (λv=>m16 v.2)
def aA6:aR:=jg 343 WJ WL (λv=>afd (m1 v.2)) (λr=>((r.1,()),g1 r.2)) (λv=>xI (m1 v.2)) (λx v=>(x,m1 v.2)) (λ_=>az1 _)
theorem az0:aX aA6:=bM 8 aW [] Tryz.func343 (λv=>(v.1.1,m1 v.2))
def aBn:aR:=jg 300 Bn Qx (λv=>afq (m3 v.2)) (λr=>((r.1,()),g2 r.2)) (λv=>nu (m3 v.2)) (λx v=>(x,m3 v.2)) (λ_=>aAf _)
theorem Fu:aX aBn:=bM 8 aW [kO az0] Tryz.func300 (λv=>(v.1.1,m3 v.2))
def aAD:aR:=kV 296 Bn aku (λv=>NJ (m3 v.2)) (λr=>((),g12 r)) (λv=>m3 v.2)
theorem amW:aX aAD:=cu 26 aW [kO Fu] Tryz.func296 (λv=>m3 v.2) (.zz 2 (.one (.lp atX (λn v=>Fp v.1.2.1 n v.1.2.2.1 (m3 v.2)) λaee=>.zz 2 (.cut atX (λv=>Ie (λy1 y2=>aee (((),v.1.2.1,y1,()),e0 y2,((),y2.aS.gM,y2.aS.iW,(),()),(y2.aS.bW,(),()),y2.aS.bW.data,y2.aS.bT,())) v.1.2.2.1 (m3 v.2)) (.one (.two .z (.sp 2 5))) .z)))) (v2 (vB (vL λ_=>v2 (vC (vB (vS vZ vP)) vZ))))
def ayD:aR:=jg 299 ⟨G5,[jW,lK,mO,p52,p53]⟩ ⟨[(0,u25)],[jW,lK,mO,p52,p53]⟩ (λv=>aeD (m3 v.2) v.1.2.1 v.1.2.2.1) (λr=>((r.1,()),g2 r.2)) (λv=>yF (m3 v.2) v.1.2.1 v.1.2.2.1) (λx v=>(x,m3 v.2)) (λ_=>axZ _ _ _)
theorem XZ:aX ayD:=bM 16 aW [kO BH] Tryz.func299 (λv=>(v.1.1,m3 v.2))
def aBU:aR:={f:=373,ps:=WM,rs:=⟨[(0,.st .cO),(1,u1)],[CR,xA,p52,p53]⟩,β:=(cO×Bool×fU),F:=λv=>afx (m1 v.2) v.1.2.1,g:=(λr=>((r.1,r.2.1,()),g1 r.2.2)),d:=λ_=>aG,ro:=some {R:=(cO×Bool),Fr:=λv=>FD (m1 v.2) v.1.2.1,dr:=(aG,aG),pr:=λx v=>(x.1,x.2,m1 v.2),hF:=λ_=>aAP _ _},hr:=λq h v x=>by cases h;rfl}
theorem am5:aX aBU:=bM 25 aW [] Tryz.func373 (λv=>(v.1.1,v.1.2.1,m1 v.2))
def ayZ:aR:=jg 344 WM WL (λv=>aeG (m1 v.2) v.1.2.1) (λr=>((r.1,()),g1 r.2)) (λv=>y8 (m1 v.2) v.1.2.1) (λx v=>(x,m1 v.2)) (λ_=>aye _ _)
theorem RI:aX ayZ:=bM 15 aW [kO am5] Tryz.func344 (λv=>(v.1.1,m1 v.2))
def ax6:aR:=jg 301 Bn Qx (λv=>aer (m3 v.2)) (λr=>((r.1,()),g2 r.2)) (λv=>H9 (m3 v.2)) (λx v=>(x,m3 v.2)) (λ_=>axF _)
theorem amw:aX ax6:=bM 11 aW [kO Fu,kO RI] Tryz.func301 (λv=>(v.1.1,m3 v.2))
def axy:aR:=jg 298 ⟨[(0,zS),(1,u2)],[.bx [.pb 1 0],o98,.bx [.pb 3 0,zC,zC,.own 5],QT,p52,p53]⟩ ⟨[(0,u25)],[.bx [.pb 1 0],o98,.bx [.pb 3 0,zC,zC,.own 5],QT,p52,p53]⟩ (λv=>aef v.1.1 (m3 v.2.2)) (λr=>((r.1,()),g13 r.2)) (λv=>J6 v.1.1 (m3 v.2.2)) (λx v=>(x,m3 v.2.2)) (λ_=>axm _ _)
theorem axl:aX axy:=bM 15 aW [kO XZ,kO Fu,kO amw] Tryz.func298 (λv=>(v.1.1,m3 v.2.2))
def ax8:aR:=jg 297 ⟨[(0,u2),(1,.c (.fn 298 [5]))],[jW,lK,mO,p52,p53,QU]⟩ ⟨[(0,u26)],[jW,lK,mO,p52,p53,QU]⟩ (λv=>aes (m3 v.2)) (λr=>((r.1,()),g14 r.2)) (λv=>Na (m3 v.2)) (λx v=>(x,m3 v.2)) (λ_=>axH _)
theorem axG:aX ax8:=cu 28 aW [kO axl] Tryz.func297 (λv=>(v.1.1,m3 v.2)) (.zz 2 (.two (.two .z (.one (.lp auk (λn v=>M9 v.1.2.2.2.1 (m3 v.2) n (dY v).1 (bH v.1).1) λad3=>.zz 2 (.cut auk (λv=>Rz (λy1 y2=>ad3 (((),(),(),v.1.2.2.2.1,y2,()),((),v.2.1.2),((),v.2.2.1.2.1,v.2.2.1.2.2.1,(),()),(m0 v.2.2.2,(),()),(m0 v.2.2.2).data,(dH v).1,((),()),y1,())) (bH v.1).1 (dY v).1) .z .z)))) .z)) (v2 (vS (v1 (vB (vL λ_=>v2 (vC vZ vZ)))) vZ))
def ax5:aR:=bB 239 Bn aul (λv=>y9 (m3 v.2)) (λr=>((r.1,()),g15 r.2))
theorem amv:aX ax5:=bM 37 aW [kO BH,kO aea,kO amW,kO axG] Tryz.func239 (λv=>(v.1.1,m16 v.2))
def awm:aR:=bB 294 ⟨ac4,[p54]⟩ ⟨[(0,u20)],[.dd,p54]⟩ (λv=>Hw v.2.1 v.1.2.1 v.1.2.2.1) (λr=>(((),()),(),r,()))
theorem XE:aX awm:=bM 33 aW [] Tryz.func294 (λv=>v.2.2.1)
def aB3:aR:=bB 238 ⟨[(0,u2),(1,u26)],[zD,tZ,j6,lX,jJ,p52,p53,p54]⟩ aua (λv=>BN (m4 v.2) v.1.2.1) (λr=>((),g16 r))
theorem am9:aX aB3:=cu 37 aW [kO XE] Tryz.func238 (λv=>m17 v.2) (.two .z (.one (.lp ⟨[(0,u2),(6,u26),(7,zS),(8,zS)],[WY,tZ,j6,lX,jJ,p52,p53,.dd,p54]⟩ (λn v=>Sq v.1.2.1 v.1.2.2.1 n v.1.2.2.2.1 (m17 v.2)) λKe=>.zz 2 (.two (.one (.two .z (.cut ⟨[(0,u2),(5,.c (.pb 9 0)),(6,u26),(7,zS),(8,zS)],[WY,tZ,j6,lX,jJ,p52,p53,.dd,p54,p71]⟩ (λv=>aeS (λy1 y2=>Ke (((),v.1.2.2.1,v.1.2.2.2.1,y1,()),((),(),y2.kW,()),((),()),e0 (y2.aU.getD 0 aG),e2 (y2.aU.getD 0 aG).aS,((y2.aU.getD 0 aG).aS.bW,(),()),((y2.aU.getD 0 aG).aS.bW).data,(y2.aU.getD 0 aG).aS.bT,(),y2.bn,())) (bH v.1).1 (ow v).1 (m17 v.2)) .z .z))) .z)))) (v1 (vB (vL λ_=>v2 (vS (vB (v1 (vC vZ vZ))) vZ))))
def aA7:aR:=bB 345 auc ⟨[(0,zS)],[JA,xA,p52,.dd,p53]⟩ (λv=>SG (m1 v.2) v.1.2.1 v.1.2.2.1) (λr=>((r.1,()),g17 r.2))
theorem amZ:aX aA7:=bM 54 aW [kO YU,kO RI] Tryz.func345 (λv=>(v.1.1,m18 v.2))
def aFI:aR:=bB 348 WO WQ (λv=>ZJ v.1.1) dJ
theorem aEK:aX aFI:=cu 33 aW [kO afF] Tryz.func348 dw (.zz 2 (.two (.two .z (.one (.un (.two .z (.two (.ct .z) .z)) (.un (.two .z (.two (.ct .z) .z)) (.un (.two .z (.two (.ct .z) .z)) (.un (.two .z (.two (.ct .z) .z)) (.un (.two .z (.two (.ct .z) .z)) (.un (.two .z (.two (.ct .z) .z)) (.un (.two .z (.two (.ct .z) .z)) (.un (.two .z (.two (.ct .z) .z)) (.un (.two .z (.two (.ct .z) .z)) (.un (.two .z (.two (.cf .z) .z)) .z)))))))))))) .z)) (v2 (vS (v1 (vB (vU (vV (v1 (vS (vT vZ) vZ)) (vV (v1 (vS (vT vZ) vZ)) (vV (v1 (vS (vT vZ) vZ)) (vV (v1 (vS (vT vZ) vZ)) (vV (v1 (vS (vT vZ) vZ)) (vV (v1 (vS (vT vZ) vZ)) (vV (v1 (vS (vT vZ) vZ)) (vV (v1 (vS (vT vZ) vZ)) (vV (v1 (vS (vT vZ) vZ)) (vV (v1 (vS (vF vZ) vZ)) vX))))))))))))) vZ))
def ayY:aR:=bB 302 auc aun (λv=>Sg (m1 v.2) v.1.2.1 v.1.2.2.1) (λr=>((r.1,()),g18 r.2))
theorem amC:aX ayY:=bM 23 aW [kO amZ,kO aeH,kO aEK,kO aeo] Tryz.func302 (λv=>(v.1.1,m19 v.2))
def ayC:aR:=kV 304 Bn aku (λv=>zL (m3 v.2)) (λr=>((),g12 r)) (λv=>m3 v.2)
theorem amz:aX ayC:=cu 62 aW [kO Fu,kO RI,kO BH] Tryz.func304 (λv=>m3 v.2) (.two .z (.one (.lp aui (λn v=>H8 (m3 v.2) n v.1.2.1) λBD=>.two .z (.cut aui (λv=>RD (λy1=>BD (((),y1,()),((),v.2.1.2),((),v.2.2.1.2.1,v.2.2.1.2.2.1,(),()),(m0 v.2.2.2,(),()),(m0 v.2.2.2).data,(dH v).1,())) v.1.2.1) (.one (.zz 2 (.two (.two .z (.one (.lp ⟨avc,[jW,lK,mO,p52,p53]⟩ (λn v=>BG (λy1=>BD (((),y1,()),((),v.2.1.2),((),v.2.2.1.2.1,v.2.2.1.2.2.1,(),()),(m0 v.2.2.2,(),()),(m0 v.2.2.2).data,(dH v).1,())) v.1.2.1 v.1.2.2.2.1 (m3 v.2) n v.1.2.2.1 (bH v.1).1) λJ4=>.zz 2 (.cut ⟨avc,[jW,lK,mO,p52,p53]⟩ (λv=>RG (λy1 y2=>J4 (((),v.1.2.1,y1,v.1.2.2.2.1,y2,()),((),v.2.1.2),((),v.2.2.1.2.1,v.2.2.1.2.2.1,(),()),(m0 v.2.2.2,(),()),(m0 v.2.2.2).data,(dH v).1,())) (bH v.1).1 v.1.2.2.1) (.one (.two .z (.cut ⟨[(0,u2),(2,zS),(3,zS),(28,zS),(29,zS),(47,u1)],[jW,lK,mO,p52,p53]⟩ (λv=>H7 (λy1 y2=>J4 (((),v.1.2.1,y1,v.1.2.2.2.1,y2,()),((),v.2.1.2),((),v.2.2.1.2.1,v.2.2.1.2.2.1,(),()),(m0 v.2.2.2,(),()),(m0 v.2.2.2).data,(dH v).1,())) v.1.2.2.1 (bH v.1).1 (dH v.1).1) (.sp 4 5) .z))) .z)))) .z))) .z)))) (v1 (vB (vL λ_=>v1 (vC (vB (v2 (vS (v1 (vB (vL λ_=>v2 (vC (vB (v1 (vC vP vZ))) vZ)))) vZ))) vZ))))
def aB4:aR:={f:=377,ps:=WK,rs:=⟨[(0,.st .cO),(1,u1)],[jW,lK,mO,p52,p53]⟩,β:=(cO×Bool×bA),F:=λv=>afB (m3 v.2) v.1.2.1,g:=(λr=>((r.1,r.2.1,()),g2 r.2.2)),d:=λ_=>aG,ro:=some {R:=(cO×Bool),Fr:=λv=>NH (m3 v.2) v.1.2.1,dr:=(aG,aG),pr:=λx v=>(x.1,x.2,m3 v.2),hF:=λ_=>aAY _ _},hr:=λq h v x=>by cases h;rfl}
theorem aAX:aX aB4:=bM 14 aW [kO am5] Tryz.func377 (λv=>(v.1.1,v.1.2.1,m3 v.2))
def aAC:aR:=jg 350 WK ⟨[(0,u28)],[jW,lK,mO,p52,p53]⟩ (λv=>ae6 (m3 v.2) v.1.2.1) (λr=>((r.1,()),g2 r.2)) (λv=>Fv (m3 v.2) v.1.2.1) (λx v=>(x,m3 v.2)) (λ_=>azx _ _)
theorem amV:aX aAC:=cu 25 aW [kO Fu,kO aAX] Tryz.func350 (λv=>(v.1.1,m3 v.2)) (.zz 2 (.two (.one (.lp ⟨[(0,u2),(1,zS),(5,.c (.own 5))],[jW,lK,mO,p52,p53,p53]⟩ (λn v=>Sb (m3 v.2) n v.1.2.1 (dR v).1) λaPU=> .z)) .z)) (v2 (vS (vB (vL λ_=>vZ)) vZ))
def axK:aR:=jg 305 WK ⟨[(0,u25)],[jW,lK,mO,p52,p53]⟩ (λv=>aen (m3 v.2) v.1.2.1) (λr=>((r.1,()),g2 r.2)) (λv=>H6 (m3 v.2) v.1.2.1) (λx v=>(x,m3 v.2)) (λ_=>axw _ _)
theorem amt:aX axK:=cu 36 aW [kO XZ,kO RI,kO amV] Tryz.func305 (λv=>(v.1.1,m3 v.2)) (.zz 2 (.cut ⟨[(0,u2),(4,Ah),(5,u9)],[jW,lK,mO,p52,p53,.bw .bJ [(8,.nl)],p71]⟩ (λv=>HZ (dY v).1 (m3 v.2)) (.sp 1 5) .z)) (v2 (vC vP vZ))
def axq:aR:=jg 297 ⟨[(0,u2),(1,.c (.fb 305 0 0))],[jW,lK,mO,p52,p53]⟩ WI (λv=>aeb (m3 v.2)) (λr=>((r.1,()),g2 r.2)) (λv=>BF (m3 v.2)) (λx v=>(x,m3 v.2)) (λ_=>axg _)
theorem ad4:aX axq:=cu 28 aW [kO amt] Tryz.func297 (λv=>(v.1.1,m3 v.2)) (.zz 2 (.two (.two .z (.one (.lp ⟨auS,[jW,lK,mO,p52,p53,p54]⟩ (λn v=>M5 v.1.2.2.2.1 (m3 v.2) n (dR v).1 (bH v.1).1) λadZ=>.zz 2 (.cut ⟨auS,[jW,lK,mO,p52,p53,p54]⟩ (λv=>Rw (λy1 y2=>adZ (((),(),(),v.1.2.2.2.1,y2,()),((),v.2.1.2),((),v.2.2.1.2.1,v.2.2.1.2.2.1,(),()),(m0 v.2.2.2,(),()),(m0 v.2.2.2).data,(dH v).1,y1,())) (bH v.1).1 (dR v).1) .z .z)))) .z)) (v2 (vS (v1 (vB (vL λ_=>v2 (vC vZ vZ)))) vZ))
def ayB:aR:=bB 240 ⟨ac6,[jW,lK,mO,p52,p53]⟩ ⟨[(0,u26),(1,zS)],[jW,acT,jJ,.dd,.dd,p52,p53]⟩ (λv=>za (m3 v.2) v.1.2.1) (λr=>((r.1,r.2.1,()),g19 r.2.2))
theorem amy:aX ayB:=bM 34 aW [kO BH,kO amC,kO aex,kO amz,kO ad4] Tryz.func240 (λv=>(v.1.1,v.1.2.1,m20 v.2))
def aAy:aR:=jg 241 Bn WI (λv=>ae2 (m3 v.2)) (λr=>((r.1,()),g2 r.2)) (λv=>Kl (m3 v.2)) (λx v=>(x,m3 v.2)) (λ_=>azs _)
theorem amT:aX aAy:=bM 12 aW [kO ad4] Tryz.func241 (λv=>(v.1.1,m3 v.2))
def aAt:aR:=bB 242 Qw aua (λv=>Yq (m4 v.2) v.1.2.1) (λr=>((),g16 r))
theorem amR:aX aAt:=bM 15 aW [kO XE] Tryz.func242 (λv=>m17 v.2)
def aAE:aR:=bB 351 ⟨[(0,u25)],[]⟩ iU (λv=>NK v.1.1) dJ
theorem azy:aX aAE:=cu 52 aW [kO YU] Tryz.func351 dw (.zz 3 (.two (.two .z (.one (.lp ⟨[(1,u2),(3,zS),(26,u28),(27,zS),(28,zS)],[p71]⟩ (λn v=>Nk v.2.1 v.1.2.2.1 v.1.2.2.2.1 n v.1.2.1 (bH v.1).1) λaPV=> .z))) .z)) (v3 (vS (v1 (vB (vL λ_=>vZ))) vZ))
def azb:aR:=jg 306 Qy ⟨[(0,u1)],[jW,lK,mO,p52,p53]⟩ (λv=>aeL (m3 v.2) v.1.2.1) (λr=>((r.1,()),g2 r.2)) (λv=>Ib (m3 v.2) v.1.2.1) (λx v=>(x,m3 v.2)) (λ_=>ayq _ _)
theorem ayp:aX azb:=cu 87 aW [kO azy] Tryz.func306 (λv=>(v.1.1,m3 v.2)) (.zz 2 (.two (.two .z (.one (.cut ⟨[(3,Ah),(78,zS),(79,u1)],[jW,lK,mO,p52,p53,p71]⟩ (λv=>Nf (dR v).1 v.1.2.1 v.1.2.2.1 (m3 v.2)) .z .z))) .z)) (v2 (vS (v1 (vB (vC vZ vZ))) vZ))
def aAo:aR:=jg 378 WJ WL (λv=>aeV (m1 v.2)) (λr=>((r.1,()),g1 r.2)) (λv=>Nn (m1 v.2)) (λx v=>(x,m1 v.2)) (λ_=>azk _)
theorem azj:aX aAo:=bM 7 aW [] Tryz.func378 (λv=>(v.1.1,m1 v.2))
def aAB:aR:=jg 352 Bn Qx (λv=>ae5 (m3 v.2)) (λr=>((r.1,()),g2 r.2)) (λv=>Nq (m3 v.2)) (λx v=>(x,m3 v.2)) (λ_=>azw _)
theorem azv:aX aAB:=bM 8 aW [kO azj] Tryz.func352 (λv=>(v.1.1,m3 v.2))
def axz:aR:=bB 307 Qy aul (λv=>aeg (m3 v.2) v.1.2.1) (λr=>((r.1,()),g15 r.2))
theorem axn:aX axz:=cu 62 aW [kO amw,kO azv,kO Fu,kO XZ,kO BH,kO aea] Tryz.func307 (λv=>(v.1.1,m16 v.2)) (.zz 5 (.cut ⟨[(8,u9)],[jW,lK,jJ,.dd,p53,p52,p71]⟩ (λv=>XU (dY v).1 (m16 v.2)) .z .z)) (v5 (vC vZ vZ))
def axp:aR:=kV 308 Qy WI (λv=>XY (m3 v.2) v.1.2.1) (λr=>((r.1,()),g2 r.2)) (λv=>(aG,m3 v.2))
theorem axf:aX axp:=cu 66 aW [kO BH,kO amW,kO ad4] Tryz.func308 (λv=>(v.1.1,m3 v.2)) (.zz 4 (.two (.two .z (.one (.lp ⟨[(0,u2),(5,zS),(38,zS),(39,zS)],[jW,lK,mO,p52,p53]⟩ (λn v=>XQ v.1.2.2.1 (m3 v.2) n v.1.2.1 v.1.2.2.2.1) λaPN=> .z))) .z)) (v4 (vS (v1 (vB (vL λ_=>vZ))) vZ))
def azc:aR:=jg 353 ⟨[(0,u2),(1,zS),(2,zS),(3,u1)],[jW,lK,mO,p52,p53]⟩ WI (λv=>aeM (m3 v.2) v.1.2.1 v.1.2.2.1 v.1.2.2.2.1) (λr=>((r.1,()),g2 r.2)) (λv=>Fj (m3 v.2) v.1.2.1 v.1.2.2.1 v.1.2.2.2.1) (λx v=>(x,m3 v.2)) (λ_=>ays _ _ _ _)
theorem ayr:aX azc:=bM 19 aW [kO XZ] Tryz.func353 (λv=>(v.1.1,m3 v.2))
def aA8:aR:=bB 384 WM ⟨[(0,zS)],[JA,xA,p52,.dd,p53]⟩ (λv=>Yz (m1 v.2) v.1.2.1) (λr=>((r.1,()),g17 r.2))
theorem am0:aX aA8:=cu 25 aW [] Tryz.func384 (λv=>(v.1.1,m18 v.2)) (.zz 2 (.two (.rw [(0,3)]) .z)) (v2 (vS vR vZ))
def aA5:aR:=bB 379 WM aun (λv=>ane (m1 v.2) v.1.2.1) (λr=>((r.1,()),g18 r.2))
theorem azZ:aX aA5:=bM 17 aW [kO am0,kO aeH,kO aeo] Tryz.func379 (λv=>(v.1.1,m19 v.2))
def ayE:aR:=bB 354 ⟨[(0,u2),(1,zS),(2,u28)],[jW,lK,mO,p52,p53]⟩ ⟨[],[jW,acT,jJ,.dd,.dd,p52,p53]⟩ (λv=>aeE (m3 v.2) v.1.2.1 v.1.2.2.1) (λr=>((),g20 r))
theorem ax0:aX ayE:=cu 39 aW [kO Fu,kO azZ,kO amC,kO aex] Tryz.func354 (λv=>m20 v.2) (.cut ⟨[(0,u2),(2,u28)],[jW,akY,qg,.dd,.dd,p53,p52]⟩ (λv=>X0 v.1.2.1 (m23 v.2)) .z (.two (.two .z (.one (.lp ⟨[(0,u2),(18,u28),(19,zS),(20,zS)],[jW,akY,qg,.dd,.dd,p53,p52]⟩ (λn v=>RH v.1.2.1 v.1.2.2.1 n v.1.2.2.2.1 (m23 v.2)) λaPR=> .z))) .z)) (vC vZ (vS (v1 (vB (vL λ_=>vZ))) vZ))
def axi:aR:=bB 309 Qy aue (λv=>ad7 (m3 v.2) v.1.2.1) (λr=>((r.1,()),g19 r.2))
theorem axb:aX axi:=cu 128 aW [kO BH,kO ayr,kO Fu,kO RI,kO ax0] Tryz.func309 (λv=>(v.1.1,m20 v.2)) (.zz 6 (.two (.one (.lp ⟨[(0,u2),(3,Ah),(5,zS)],[jW,lK,mO,p52,p53,p71]⟩ (λn v=>MZ (dR v).1 (m3 v.2) n v.1.2.2.1) λaPM=> .z)) (.cut ⟨[(0,u2),(3,.c (.pb 7 0))],[jW,akY,qg,.dd,.dd,p53,p52,p71]⟩ (λv=>Ru (gB v).1 (m23 v.2)) .z .z))) (v6 (vS (vB (vL λ_=>vZ)) (vC vZ vZ)))
def axj:aR:=kV 310 Qy WI (λv=>ad8 (m3 v.2) v.1.2.1) (λr=>((r.1,()),g2 r.2)) (λv=>(aG,m3 v.2))
theorem axc:aX axj:=cu 79 aW [kO BH,kO amt,kO Fu,kO amz] Tryz.func310 (λv=>(v.1.1,m3 v.2)) (.zz 2 (.two (.two .z (.two (.cut aub (λv=>M4 (dR v).1 (m3 v.2)) (.sb 3 1 5) .z) .z)) (.cut aku (λv=>XP (m3 v.2)) (.two .z (.two (.cut aub (λv=>J3 (dR v).1 (m3 v.2)) (.sb 3 1 5) (.cut Bn (λv=>J2 (m3 v.2)) (.sb 3 1 5) .z)) .z)) .z))) (v2 (vS (v1 (vD (vC vO vZ) vZ)) (vC (v1 (vD (vC vO (vC vO vZ)) vZ)) vZ)))
def aza:aR:=bB 243 Qy aue (λv=>nP (m3 v.2) v.1.2.1) (λr=>((r.1,()),g19 r.2))
theorem X5:aX aza:=cu 43 aW [kO ayp,kO BH,kO aea,kO axn,kO axf,kO axb,kO axc] Tryz.func243 (λv=>(v.1.1,m20 v.2)) (.zz 2 (.cut ⟨[(0,u2),(3,u9)],[jW,lK,jJ,.dd,p53,p52,p71]⟩ (λv=>Ia (dY v).1 (m16 v.2)) .z .z)) (v2 (vC vZ vZ))
def aDm:aR:=bB 355 ⟨CZ,[JB,p52]⟩ ⟨[],[xA,.dd,p52]⟩ (λv=>agh (m0 v.2) v.1.2.1) (λr=>((),g9 r))
theorem aCN:aX aDm:=cu 40 aW [] Tryz.func355 (λv=>m13 v.2) (.two .z (.two (.rw [(0,0)]) .z)) (v1 (vS vR vZ))
def aDl:aR:=jg 356 ⟨[(0,u2)],[JB,p52]⟩ ⟨[(0,u24)],[JB,p52]⟩ (λv=>agf (m0 v.2)) (λr=>((r.1,()),g0 r.2)) (λv=>SY (m0 v.2)) (λx v=>(x,m0 v.2)) (λ_=>aCM _)
theorem aCL:aX aDl:=bM 8 aW [] Tryz.func356 (λv=>(v.1.1,m0 v.2))
def aF7:aR:=bB 397 Mc jD (λv=>ag1 v.1.1) dJ
theorem aFr:aX aF7:=bM 13 aW [] Tryz.func397 dw
def aFc:aR:=bB 380 WQ ⟨Xe,[]⟩ (λv=>OU v.1.1) (λr=>((r.1,r.2.1,r.2.2,()),()))
theorem agp:aX aFc:=cu 49 aW [kO aFr] Tryz.func380 (λv=>(v.1.1,v.1.2.1,v.1.2.2.1)) (.zz 2 (.two (.two .z (.one (.lp ⟨[(0,u24),(5,JV),(8,zS)],[]⟩ (λn v=>Ol v.1.1 n v.1.2.1 v.1.2.2.1) λaQg=> .z))) .z)) (v2 (vS (v1 (vB (vL λ_=>vZ))) vZ))
def aGF:aR:=bB 357 akx ⟨[(0,u24),(1,zS),(2,zS)],[]⟩ (λv=>Z6 v.1.1 v.1.2.1) (λr=>((r.1,r.2.1,r.2.2,()),()))
theorem aFx:aX aGF:=cu 73 aW [kO agp,kO an2] Tryz.func357 (λv=>(v.1.1,v.1.2.1,v.1.2.2.1)) (.zz 4 (.two (.two .z (.one (.lp ⟨[(0,u24),(1,zS),(7,zS),(8,zS),(10,JV),(39,zS)],[]⟩ (λn v=>Oz v.1.1 v.1.2.1 v.1.2.2.1 v.1.2.2.2.1 n (bH v.1).1 (dH v.1).1) λaQv=> .z))) .z)) (v4 (vS (v1 (vB (vL λ_=>vZ))) vZ))
def aEW:aR:=bB 382 WQ ⟨[(0,zS),(1,u24),(2,u1)],[]⟩ (λv=>OJ v.1.1) (λr=>((r.1,r.2.1,r.2.2,()),()))
theorem aEe:aX aEW:=bM 20 aW [kO agp] Tryz.func382 (λv=>(v.1.1,v.1.2.1,v.1.2.2.1))
def aGD:aR:=bB 383 WQ ⟨[(0,rF),(1,zS),(2,zS)],[]⟩ (λv=>Z5 v.1.1) (λr=>((r.1,r.2.1,r.2.2,()),()))
theorem aFv:aX aGD:=cu 59 aW [kO agp,kO YU] Tryz.func383 (λv=>(v.1.1,v.1.2.1,v.1.2.2.1)) (.zz 3 (.two (.two .z (.one (.lp ⟨[(0,u24),(2,u2),(5,u8),(6,zS),(12,zS)],[p65,.bs .vg]⟩ (λn v=>wC v.1.1 n v.2.2.1 v.1.2.2.2.1 (bH v.1).1) λaf4=>.zz 2 (.two (.one (.zz 3 (.cut ⟨[(0,u24),(2,u2),(5,u8),(6,zS),(9,zS),(12,zS)],[p65,.bs .vg]⟩ (λv=>Au (λy1 y2 y3=>af4 ((v.1.1,(),(),y2,y3,()),v.2.1,y1,())) v.1.2.2.2.1 (dH v.1).1 v.2.2.1 (bH v.1).1) (.sp 7 9) .z))) .z)))) .z)) (v3 (vS (v1 (vB (vL λ_=>v2 (vS (vB (v3 (vC vP vZ))) vZ)))) vZ))
def ay0:aR:=bB 358 aum ⟨[(0,u1)],[JA,xA,p52,.dd,p53]⟩ (λv=>Yb (m1 v.2) v.1.2.1) (λr=>((r.1,()),g17 r.2))
theorem ayf:aX ay0:=cu 87 aW [kO aEe,kO amx,kO aFv,kO amZ,kO am0] Tryz.func358 (λv=>(v.1.1,m18 v.2)) (.zz 5 (.two (.two .z (.one (.zz 3 (.two (.two .z (.cut ⟨[(4,u1)],[JA,xA,p52,.dd,p53]⟩ (λv=>aeh v.1.1 (m18 v.2)) (.gs [8]) .z)) (.two .z (.two (.cut ⟨[(4,u1)],[JA,xA,p52,.dd,p53]⟩ (λv=>aei v.1.1 (m18 v.2)) (.gs [3]) .z) .z)))))) .z)) (v5 (vS (v1 (vB (v1 (vD vZ (v1 (vD (v1 (vC vG vZ)) (v1 (vD (vC vG vZ) vZ)))))))) vZ))
def aBR:aR:=bB 359 ⟨CZ,[JB,p52]⟩ ⟨[(0,zS)],[xA,.dd,p52]⟩ (λv=>afv (m0 v.2) v.1.2.1) (λr=>((r.1,()),g9 r.2))
theorem aAM:aX aBR:=cu 34 aW [] Tryz.func359 (λv=>(v.1.1,m13 v.2)) (.zz 2 (.two (.rw [(0,0)]) .z)) (v2 (vS vR vZ))
def azE:aR:=bB 311 WM ⟨[],[auI,QT,.dd,.dd,p52,p53]⟩ (λv=>Yk (m1 v.2) v.1.2.1) (λr=>((),g18 r))
theorem ayM:aX azE:=cu 58 aW [kO aCN,kO aCL,kO aFx,kO ayf,kO aAM] Tryz.func311 (λv=>m19 v.2) (.zz 4 (.cut ⟨[(0,u2),(5,zS)],[JA,jJ,.dd,p53,p53,p52]⟩ (λv=>RV v.1.2.1 (m22 v.2)) (.one (.lp ⟨[(0,u2),(4,u24),(5,zS)],[JA,jJ,.dd,p53,p53,p52]⟩ (λn v=>J9 v.1.2.1 n v.1.2.2.1 (m22 v.2)) λad9=>.two .z (.one (.two .z (.two (.cut ⟨[(0,u2),(4,u24),(5,zS),(7,zS),(48,u1)],[JA,jJ,.dd,p53,p53,p52]⟩ (λv=>RY (λy1 y2=>ad9 (((),v.1.2.1,y1,()),((),y2.gM,y2.iW,(),()),(y2.bW,(),()),(),(bH v).1,y2.bT,y2.bW.data,())) v.1.2.2.1 v.1.2.2.2.1 (bH v.1).1 (m22 v.2)) (.gs [2]) .z) .z))))) .z)) (v4 (vC (vB (vL λ_=>v1 (vB (v1 (vS (vC vG vZ) vZ))))) vZ))
def azO:aR:=bB 244 WK ⟨[],[jW,acT,jJ,.dd,.dd,p52,p53]⟩ (λv=>BL (m3 v.2) v.1.2.1) (λr=>((),g20 r))
theorem amH:aX azO:=bM 16 aW [kO ayM] Tryz.func244 (λv=>m20 v.2)
def ay9:aR:=jg 247 Bn Qx (λv=>aeK (m3 v.2)) (λr=>((r.1,()),g2 r.2)) (λv=>oM (m3 v.2)) (λx v=>(x,m3 v.2)) (λ_=>ayo _)
theorem X4:aX ay9:=bM 7 aW [] Tryz.func247 (λv=>(v.1.1,m3 v.2))
def aBo:aR:=jg 312 Bn ⟨[(0,u28)],[jW,lK,mO,p52,p53]⟩ (λv=>afr (m3 v.2)) (λr=>((r.1,()),g2 r.2)) (λv=>rG (m3 v.2)) (λx v=>(x,m3 v.2)) (λ_=>aAg _)
theorem Yh:aX aBo:=bM 5 aW [kO amV] Tryz.func312 (λv=>(v.1.1,m3 v.2))
def aB2:aR:=kV 245 aks ⟨[],[zD,tZ,j6,lX,jJ,p52,p53,p54]⟩ (λv=>YC (m4 v.2)) (λr=>((),g3 r)) (λv=>m4 v.2)
theorem am8:aX aB2:=cu 48 aW [kO X4,kO Yh] Tryz.func245 (λv=>m4 v.2) (.two .z (.one (.un (.two .z (.two (.ct .z) (.cut ⟨avh,[zD,tZ,j6,lX,jJ,p52,p53,p54]⟩ (λv=>Ak v.1.2.2.1 v.1.2.2.2.1 (m4 v.2)) (.one (.zz 3 (.two (.two .z (.one (.lp ⟨[(0,u2),(4,.c (.own 8)),(10,u20),(11,zS),(12,zS),(31,u28),(32,zS),(33,zS)],[zD,tZ,j6,lX,jJ,p52,p53,p54,p72]⟩ (λn v=>Nu v.1.2.2.2.1 (bH v.1).1 (dH v.1).1 (dR v.1).1 (m4 v.2) n (nH v).1 (dY v.1).1) λayS=> .z))) .z))) .z))) (.un (.two .z (.two (.cf .z) .z)) .z)))) (v1 (vB (vU (vV (v1 (vS (vT vZ) (vC (vB (v3 (vS (v1 (vB (vL λ_=>vZ))) vZ))) vZ))) (vV (v1 (vS (vF vZ) vZ)) vX)))))
def aCY:aR:=bB 168 aud atP (λv=>Iy (m4 v.2) v.1.2.1) (λr=>((r.1,()),g21 r.2))
theorem anf:aX aCY:=cu 132 aW [kO axV,kO amv,kO am9,kO amy,kO amT,kO amR,kO X5,kO amH,kO am8] Tryz.func168 (λv=>(v.1.1,m26 v.2)) (.zz 2 (.cut ⟨[(0,u2)],[WY,tZ,j6,akZ,rU,.dd,.dd,.dd,p54,p53,p52]⟩ (λv=>zN (m30 v.2)) (.two .z (.one (.two .z (.two (.sb 3 1 1) (.two .z (.two (.two (.sb 3 1 1) .z) (.two .z (.two (.sb 3 1 1) (.two .z (.two (.zz 2 (.sb 7 2 1)) (.two .z (.two (.two .z (.sb 8 2 1)) (.zz 3 (.two (.sb 3 1 1) .z)))))))))))))) .z)) (v2 (vC (v1 (vB (v1 (vD vO (v1 (vD (vS vO vZ) (v1 (vD vO (v1 (vD (v1 (vS vZ vO)) (v1 (vD (vS vZ vO) (v1 (vD vZ (v1 (vD vO vZ)))))))))))))))) vZ))
def aBi:aR:=bB 169 Qw atP (λv=>Ku (m4 v.2) v.1.2.1) (λr=>((r.1,()),g21 r.2))
theorem az9:aX aBi:=cu 58 aW [kO amR,kO X5,kO am9,kO am8] Tryz.func169 (λv=>(v.1.1,m26 v.2)) (.zz 2 (.two (.one (.lp ⟨avi,[WY,tZ,j6,akZ,rU,.dd,.dd,.dd,p54,p53,p52]⟩ (λn v=>Sj v.1.2.1 n v.1.2.2.1 (m30 v.2)) λaPY=>.two .z (.one (.zz 3 (.two (.sb 6 2 1) .z))))) .z)) (v2 (vS (vB (vL λ_=>v1 (vB (v3 (vS vO vZ))))) vZ))
def aAq:aR:=jg 170 Qw atY (λv=>aeW (m4 v.2) v.1.2.1) (λr=>((r.1,()),g3 r.2)) (λv=>Yg (m4 v.2) v.1.2.1) (λx v=>(λ(p1:bP) (p2:Int)=>(x,iE p1)) (m4 v.2) v.1.2.1) (λ_=>azn _ _)
theorem azm:aX aAq:=cu 17 aW [kO aeX,kO X4] Tryz.func170 (λv=>(v.1.1,m4 v.2)) (.zz 2 (.two (.sp 1 1) .z)) (v2 (vS vP vZ))
def aCw:aR:=jg 248 Qw ⟨[(0,u28)],[zD,tZ,j6,lX,jJ,p52,p53,p54]⟩ (λv=>afO (m4 v.2) v.1.2.1) (λr=>((r.1,()),g3 r.2)) (λv=>Kv (m4 v.2) v.1.2.1) (λx v=>(λ(p1:bP) (p2:Int)=>(x,iE p1)) (m4 v.2) v.1.2.1) (λ_=>aBN _ _)
theorem aBM:aX aCw:=cu 17 aW [kO aeX,kO Yh] Tryz.func248 (λv=>(v.1.1,m4 v.2)) (.zz 2 (.two (.sp 1 1) .z)) (v2 (vS vP vZ))
def aCW:aR:=jg 171 WH ⟨[(0,zS)],[kR,CJ,sV,kS,rT,qg,p52,p53,p54]⟩ (λv=>af2 (m7 v.2)) (λr=>((r.1,()),g4 r.2)) (λv=>NR (m7 v.2)) (λx v=>(λ(p1:bO)=>(x,iL p1)) (m7 v.2)) (λ_=>aCk _)
theorem aCj:aX aCW:=cu 58 aW [kO afh,kO aBM] Tryz.func171 (λv=>(v.1.1,m7 v.2)) (.zz 2 (.two (.two .z (.one (.lp at0 (λn v=>Kr (bH v.1).1 (m7 v.2) n v.1.2.1 v.1.2.2.1 v.1.2.2.2.1 (dH v.1).1) λDz=>.zz 2 (.cut at0 (λv=>Im (λy1 y2 y3 y4=>Dz (((),y1,y2,y3,(bH v.1).1,y4,()),acJ v.2.1 ((),jO v.2.1),((),(),v.2.2.1.2.2.1,()),((),()),((),(bH v).1.2),((),(dH v).1.2.1,(dH v).1.2.2.1,(),()),(m0 (dR v),(),()),(m0 (dR v)).data,(gB v).1,(nH v).1,())) v.1.2.1 v.1.2.2.1 v.1.2.2.2.1 (dH v.1).1) (.one (.zz 3 (.cut ⟨auQ,[kR,CJ,sV,kS,rT,qg,p52,p53,p54]⟩ (λv=>Io (λy1 y2 y3 y4=>Dz (((),y1,y2,y3,(dY v.1).1,y4,()),acJ v.2.1 ((),jO v.2.1),((),(),v.2.2.1.2.2.1,()),((),()),((),(bH v).1.2),((),(dH v).1.2.1,(dH v).1.2.2.1,(),()),(m0 (dR v),(),()),(m0 (dR v)).data,(gB v).1,(nH v).1,())) v.1.2.1 v.1.2.2.1 v.1.2.2.2.1 (bH v.1).1 (dH v.1).1 (dR v.1).1 (gB v.1).1) .z .z))) .z)))) .z)) (v2 (vS (v1 (vB (vL λ_=>v2 (vC (vB (v3 (vC vZ vZ))) vZ)))) vZ))
def aBZ:aR:=bB 91 at1 atQ (λv=>SN (m7 v.2) v.1.2.1) (λr=>((r.1,()),g22 r.2))
theorem aAV:aX aBZ:=cu 66 aW [kO azo,kO afh,kO anf,kO az9,kO azm,kO aCj] Tryz.func91 (λv=>(v.1.1,Rf v.2)) (.two .z (.two (.two .z (.one (.lp ⟨[(0,u2),(3,u29),(6,zS)],[kR,QK,sV,kS,ES,xw,.dd,.dd,.dd,p54,p53,p52,p65]⟩ (λn v=>Fy (dG v).1 n v.1.2.2.1 (m32 v.2)) λKc=>.zz 2 (.two (.one (.two .z (.two (.cut ⟨[(0,u2),(3,u29),(5,zS),(6,zS),(26,u1)],[kR,QK,sV,kS,ES,xw,.dd,.dd,.dd,p54,p53,p52,p65]⟩ (λv=>Ko (λy1 y2=>Kc (((),(),y1,()),e3 y2,((),(),y2.bn.kW,()),((),()),e0 (y2.bn.aU.getD 0 aG),e2 (y2.bn.aU.getD 0 aG).aS,((y2.bn.aU.getD 0 aG).aS.bW,(),()),(),(),(),y2.bn.bn,(y2.bn.aU.getD 0 aG).aS.bT,((y2.bn.aU.getD 0 aG).aS.bW).data,(dG v).1,())) v.1.2.2.2.1 v.1.2.2.1 (bH v.1).1 (m32 v.2)) (.gs [3]) .z) .z))) .z)))) .z)) (v1 (vS (v1 (vB (vL λ_=>v2 (vS (vB (v1 (vS (vC vG vZ) vZ))) vZ)))) vZ))
def aBd:aR:=bB 38 at1 ⟨Bw,[kR,acQ,sV,kS,ES,acU,.dd,.dd,.dd,p52,p53,p54]⟩ (λv=>Il (m7 v.2) v.1.2.1) (λr=>((r.1,r.2.1,()),g22 r.2.2))
theorem Yc:aX aBd:=bM 42 aW [kO aBE,kO X7,kO aAV] Tryz.func38 (λv=>(v.1.1,v.1.2.1,Rf v.2))
def aDv:aR:=bB 27 ⟨ac6,[Xv,Dh,Mi,GQ,Di,GK,GN,p52,p53,p54,Mk,Mj,Mg,p60,Ml,.ms,p57,p58,QM,p59,Mh,p60,Mq,.ms,p57,p58,QN,p59,p61]⟩ ⟨[(0,u1)],(.bx [zC,.ty (.l (.n .jC)),.ty (.l (.n .jy)),.ty (.l (.n .iq)),.ty (.l (.n .ji)),.ty (.l (.i .i64)),.ty (.l (.i .i64)),zC,zC,zC,.pb 1 0,.own 10,.own 32,.ty (.l (.n .wF)),zC]::Dh:: .bx [.own 3,.own 31,.ty (.l (.n .aP))]:: [GQ,Di,.bx [.pb 6 0,zC,zC,.own 30],.bw .bS [(0,.own 29)],.dd,.dd,.dd,Mk,Mj,Mg,p60,Ml,.ms,p57,p58,QM,p59,Mh,p60,Mq,.ms,p57,p58,QN,p59,.dd,p52,p53,p54,p61])⟩ (λv=>YT (m12 v.2) v.1.2.1) (λr=>((r.1,()),g23 r.2))
theorem aC4:aX aDv:=cu 45 aW [kO Yc] Tryz.func27 (λv=>(v.1.1,m38 v.2)) (.zz 3 (.cut ⟨[],(.bx [zC,.ty (.l (.n .jC)),.ty (.l (.n .jy)),.ty (.l (.n .iq)),.ty (.l (.n .ji)),.ty (.l (.i .i64)),.ty (.l (.i .i64)),zC,zC,zC,.pb 1 0,.own 10,.own 29,.ty (.l (.n .wF)),zC]::Dh:: .bx [.own 3,.own 30,.ty (.l (.n .aP))]:: [GQ,Di,.bx [.pb 6 0,zC,zC,.own 31],.bw .bS [(0,.own 32)],.dd,.dd,.dd,Mk,Mj,Mg,p60,Ml,.ms,p57,p58,QM,p59,Mh,p60,Mq,.ms,p57,p58,QN,p59,.dd,p61,p54,p53,p52])⟩ (λv=>afE (m44 v.2)) .z .z)) (v3 (vC vZ vZ))
def aIy:aR:=bB 9 ⟨Bw,[]⟩ jD (λv=>Gc v.1.1 v.1.2.1) dJ
theorem UE:aX aIy:=bM 12 aW [] Tryz.func9 dw
def aGG:aR:=bB 117 ⟨[(0,u30)],[]⟩ iU (λv=>aoR v.1.1) dJ
theorem aFy:aX aGG:=bM 43 aW [] Tryz.func117 dw
def aEo:aR:=bB 217 jD iU (λv=>cmp_isNaN_int v.1.1) dJ
theorem aDF:aX aEo:=bM 6 aW [] Tryz.func217 dw
def aDk:aR:=bB 135 ⟨Bw,[]⟩ jD (λv=>cmp_Compare_int v.1.1 v.1.2.1) dJ
theorem YB:aX aDk:=bM 20 aW [kO aDF] Tryz.func135 dw
def aGA:aR:=bB 134 yt jD (λv=>KV v.1.1) dJ
theorem Zb:aX aGA:=cu 18 aW [] Tryz.func134 dw (.zz 2 (.two (.two .z (.one (.lp ⟨[(3,zS),(6,u5),(7,zS),(8,zS)],[]⟩ (λn v=>KH v.1.2.1 v.1.1 v.1.2.2.1 n v.1.2.2.2.1) λaQu=> .z))) .z)) (v2 (vS (v1 (vB (vL λ_=>vZ))) vZ))
def aEV:aR:=bB 119 ⟨[(0,u30),(1,u30)],[]⟩ jD (λv=>agI v.1.1 v.1.2.1) dJ
theorem aEd:aX aEV:=bM 27 aW [kO YB,kO Zb] Tryz.func119 dw
def awg:aR:=bB 118 ⟨[(0,u31),(1,u30),(2,.c (.fn 119 []))],[]⟩ ⟨[(0,zS),(1,u1)],[]⟩ (λv=>ama v.1.1 v.1.2.1) (λr=>((r.1,r.2,()),()))
theorem awd:aX awg:=cu 49 aW [kO aEd] Tryz.func118 (λv=>(v.1.1,v.1.2.1)) (.zz 3 (.two (.one (.lp ⟨[(0,u31),(2,.c (.fn 119 [])),(4,u2),(8,zS),(9,zS),(10,zS)],[.bs .iD]⟩ (λn v=>XD v.1.1 v.2.1 v.1.2.2.2.1 n (bH v.1).1 (dH v.1).1) λaPH=> .z)) .z)) (v3 (vS (vB (vL λ_=>vZ)) vZ))
def awq:aR:=bB 120 ⟨[(0,nZ),(1,zS),(2,u31)],[p59]⟩ ⟨[(0,u20)],[.dd,p59]⟩ (λv=>amj v.2.1 v.1.2.1 v.1.2.2.1) (λr=>(((),()),(),r,()))
theorem awo:aX awq:=bM 95 aW [] Tryz.func120 (λv=>v.2.2.1)
def aDS:aR:=bB 74 ⟨[(0,u2),(1,u30)],[QS,p59]⟩ ⟨[(0,zS)],[.bw .iJ [(2,.own 2)],.dd,p59]⟩ (λv=>agt (m10 v.2) v.1.2.1) (λr=>((r.1,()),g24 r.2))
theorem aDe:aX aDS:=cu 46 aW [kO aFy,kO awd,kO awo] Tryz.func74 (λv=>(v.1.1,m45 v.2)) (.zz 4 (.cut ⟨[],[.bw .iJ [(2,.own 2)],.dd,p59]⟩ (λv=>afJ (m45 v.2)) .z .z)) (v4 (vC vZ vZ))
def awZ:aR:=bB 110 ⟨[(0,u37)],[]⟩ ⟨[(0,u37)],[]⟩ (λv=>Rt v.1.1) dJ
theorem amh:kU Tryz.prog awZ:=Eb (t:=.n .aP) (e:=73) 8 aW Tryz.func110 dw 0 3 4 52 dw [] rfl au au aA aA au aC au (by intro v;exact⟨au,au⟩) aA aA (λv r hx hF=>DV hx hF)
def ayx:aR:=jg 69 aks ⟨[(0,u37)],[zD,tZ,j6,lX,jJ,p52,p53,p54]⟩ (λv=>aey (m4 v.2)) (λr=>((r.1,()),g3 r.2)) (λv=>y7 (m4 v.2)) (λx v=>(λ(p1:bP)=>(x,iE p1)) (m4 v.2)) (λ_=>axU _)
theorem axT:aX ayx:=bM 8 aW [kO amh] Tryz.func69 (λv=>(v.1.1,m4 v.2))
def aBb:aR:=jg 22 WH ⟨[(0,u37)],[kR,CJ,sV,kS,rT,qg,p52,p53,p54]⟩ (λv=>afe (m7 v.2)) (λr=>((r.1,()),g4 r.2)) (λv=>Fw (m7 v.2)) (λx v=>(λ(p1:bO)=>(x,iL p1)) (m7 v.2)) (λ_=>az2 _)
theorem am2:aX aBb:=bM 8 aW [kO axT] Tryz.func22 (λv=>(v.1.1,m7 v.2))
def azP:aR:=bB 23 ⟨[(0,u0),(1,u37)],[]⟩ ⟨[(0,.sw .aO [(2,.own 0),(3,.own 1)]),(1,zS),(2,zS)],[p55,p56]⟩ (λv=>UW v.1.1 v.1.2.1) (λr=>((({r.1 with aH:=([]:List bI),aJ:=([]:List gG)},(),(),()),r.2.1,r.2.2,()),r.1.aH,r.1.aJ,()))
theorem aev:aX azP:=cu 38 aW [kO aeF,kO X7] Tryz.func23 (λv=>({v.1.1.1 with aH:=v.2.1,aJ:=v.2.2.1},v.1.2.1,v.1.2.2.1)) (.zz 2 (.two (.two .z (.one (.lp ⟨[(1,u37),(2,u2),(4,u8),(7,jL),(14,u37),(15,zS),(16,zS)],[p51,zF,.bw .aO [(2,.own 3),(3,.own 4)],p55,p56]⟩ (λn v=>IJ v.2.1 v.1.1 (bH v.1).1 (dH v.1).1 n {v.2.2.2.1.1 with aH:=(bH v).1,aJ:=(dH v).1} (dR v.1).1) λaQx=> .z))) .z)) (v2 (vS (v1 (vB (vL λ_=>vZ))) vZ))
def aEm:aR:=kV 129 ⟨[(0,nZ),(1,rF)],[p61]⟩ ⟨[],[p61]⟩ (λv=>an0 v.2.1 v.1.2.1) (λr=>((),r,())) (λv=>v.2.1)
theorem aDD:aX aEm:=cu 47 aW [] Tryz.func129 (λv=>v.2.1) (.zz 2 (.one (.lp auf (λn v=>YI v.2.2.1 v.1.2.2.1 n v.2.1 v.1.2.2.2.1) λafm=>.zz 2 (.cut auf (λv=>afV (λy1 y2=>afm (((),(),v.1.2.2.1,y2,()),y1,v.2.2.1,())) v.1.2.2.2.1 v.2.1) .z .z)))) (v2 (vB (vL λ_=>v2 (vC vZ vZ))))
def aAZ:aR:=bB 131 ⟨[(0,u38)],[]⟩ iU (λv=>ae9 v.1.1) dJ
theorem amX:aX aAZ:=bM 10 aW [] Tryz.func131 dw
def awR:aR:=bB 214 ⟨[(0,u39),(1,u40)],[]⟩ jD (λv=>amk v.1.1) dJ
theorem awN:aX awR:=cu 19 aW [kO amX] Tryz.func214 dw (.two .z (.two (.two .z (.one (.lp ⟨[(0,u39),(1,u40),(7,zS),(8,zS)],[]⟩ (λn v=>adT v.1.1 v.1.2.2.1 n v.1.2.2.2.1) λaPL=> .z))) .z)) (v1 (vS (v1 (vB (vL λ_=>vZ))) vZ))
def awp:aR:=bB 130 ⟨[(0,nZ),(1,u40)],[p61]⟩ ⟨[(0,u20)],[.dd,p61]⟩ (λv=>ami v.2.1) (λr=>(((),()),(),r,()))
theorem awn:aX awp:=cu 42 aW [kO awN,kO amX] Tryz.func130 (λv=>v.2.2.1) (.zz 3 (.two (.two .z (.one (.lp auj (λn v=>XK n v.2.1 v.1.2.2.1 v.1.2.2.2.1) λadO=>.two .z (.cut auj (λv=>adQ (λy1 y2 y3=>adO (((),(),y2,y3,()),y1,())) v.1.2.2.2.1 v.2.1 v.1.2.2.1) .z .z)))) .z)) (v3 (vS (v1 (vB (vL λ_=>v1 (vC vZ vZ)))) vZ))
def aA0:aR:=bB 133 ⟨[(0,u38),(1,u38)],[]⟩ jD (λv=>afa v.1.1 v.1.2.1) dJ
theorem azT:aX aA0:=bM 17 aW [kO YB,kO Zb] Tryz.func133 dw
def aya:aR:=kV 132 ⟨[(0,nZ),(1,.c (.fn 133 []))],[p61]⟩ ⟨[],[p61]⟩ (λv=>amI v.2.1) (λr=>((),r,())) (λv=>v.2.1)
theorem axO:kU Tryz.prog aya:=aKm (m:=.iM) (cmp:=λx y=>afa x y) Tryz.aKQ ak (by intro w;kernel_rfl) (by intro w;kernel_rfl) (λ_=>rfl) (λx v hv=>by simp[sZ,jI,tO,EZ,ofN,Ez,plV]at hv;rcases hv with rfl|rfl|rfl|rfl|rfl|rfl|rfl<;>rfl) rfl aC aC (λx y r h=>(@azT Gx).2 ((x,y,()),()) r h)
def aDu:aR:=bB 28 ⟨CZ,[Xv,Dh,Mi,GQ,Di,GK,GN,p52,p53,p54,Mk,Mj,Mg,p60,Ml,.ms,p57,p58,QM,p59,Mh,p60,Mq,.ms,p57,p58,QN,p59,p61]⟩ ⟨[],[Xv,Dh,Mi,GQ,Di,GK,GN,p52,p53,p54,Mk,Mj,Mg,p60,Ml,.ms,p57,p58,.bw .iJ [(2,.own 29)],.dd,Mh,p60,Mq,.ms,p57,p58,.bw .iJ [(2,.own 30)],.dd,p61,p59,p59]⟩ (λv=>anQ (m12 v.2) v.1.2.1) (λr=>((),g25 r))
theorem aC3:aX aDu:=cu 41 aW [kO UE,kO ant,kO aDe] Tryz.func28 (λv=>m50 v.2) (.zz 2 (.sm [(4,0,1),(4,2,2)])) (v1 (vS vZ vM))
def aGz:aR:=bB 121 WR iU (λv=>Z4 v.1.1) dJ
theorem aFu:aX aGz:=bM 11 aW [] Tryz.func121 dw
def aER:aR:=bB 122 WR iU (λv=>agE v.1.1) dJ
theorem aD9:aX aER:=bM 6 aW [] Tryz.func122 dw
def aGy:aR:=bB 75 ⟨[(0,u33)],[]⟩ iU (λv=>aoK v.1.1) dJ
theorem aFt:aX aGy:=bM 149 aW [kO aFu,kO aD9] Tryz.func75 dw
def aCq:aR:={f:=76,ps:=⟨G5,[QS,p59]⟩,rs:=⟨[(0,zS),(1,u1)],[QS,p59]⟩,β:=(Int×Bool×iJ),F:=λv=>afI (m10 v.2) v.1.2.1 v.1.2.2.1,g:=(λr=>((r.1,r.2.1,()),g5 r.2.2)),d:=λ_=>aG,ro:=some {R:=(Int×Bool),Fr:=λv=>Yy (m10 v.2) v.1.2.1 v.1.2.2.1,dr:=(aG,aG),pr:=λx v=>(x.1,x.2,m10 v.2),hF:=λ_=>aBD _ _ _},hr:=λq h v x=>by cases h;rfl}
theorem aBC:aX aCq:=cu 44 aW [] Tryz.func76 (λv=>(v.1.1,v.1.2.1,m10 v.2)) (.zz 2 (.two (.two .z (.one (.lp ⟨auW,[QS,p59]⟩ (λn v=>Nz (m10 v.2) v.1.1 v.1.2.1 (bH v.1).1 n v.1.2.2.1 (dH v.1).1) λaeC=>.zz 2 (.cut ⟨auW,[QS,p59]⟩ (λv=>Sv (λy1 y2=>aeC ((v.1.1,v.1.2.1,y1,(),(bH v.1).1,y2,()),(m10 v.2,(),()),(m10 v.2).l9,())) (dH v.1).1 v.1.2.2.1) .z .z)))) .z)) (v2 (vS (v1 (vB (vL λ_=>v2 (vC vZ vZ)))) vZ))
def aDi:aR:=jg 77 acD atV (λv=>agd (m11 v.2)) (λr=>((r.1,()),g7 r.2)) (λv=>SX (m11 v.2)) (λx v=>(x,m11 v.2)) (λ_=>aCJ _)
theorem ani:aX aDi:=bM 22 aW [] Tryz.func77 (λv=>(v.1.1,m11 v.2))
def aDt:aR:={f:=78,ps:=⟨[(0,u2),(1,u32)],[.bx [.mc 1],.ms]⟩,rs:=⟨[(0,u32),(1,zS),(2,u1)],[.bx [.mc 1],.ms]⟩,β:=(ByteArray×Int×Bool×pz),F:=λv=>agm (m8 v.2.2.1) v.1.2.1,g:=(λr=>((r.1,r.2.1,r.2.2.1,()),((),()),r.2.2.2.values,())),d:=λ_=>aG,ro:=some {R:=(ByteArray×Int×Bool),Fr:=λv=>NW (m8 v.2.2.1) v.1.2.1,dr:=(aG,aG,aG),pr:=λx v=>(x.1,x.2.1,x.2.2,m8 v.2.2.1),hF:=λ_=>aC2 _ _},hr:=λq h v x=>by cases h;rfl}
theorem anp:aX aDt:=bM 23 aW [] Tryz.func78 (λv=>(v.1.1,v.1.2.1,v.1.2.2.1,m8 v.2.2.1))
def aB6:aR:={f:=125,ps:=⟨G5,[p58]⟩,rs:=⟨[(0,.st .kY),(1,zS)],[p58]⟩,β:=(kY×Int×jq),F:=λv=>afD v.2.1 v.1.2.1 v.1.2.2.1,g:=(λr=>((r.1,r.2.1,()),r.2.2,())),d:=λ_=>aG,ro:=some {R:=(kY×Int),Fr:=λv=>SB v.2.1 v.1.2.1 v.1.2.2.1,dr:=(aG,aG),pr:=λx v=>(x.1,x.2,v.2.1),hF:=λ_=>aBu _ _ _},hr:=λq h v x=>by cases h;rfl}
theorem aBt:aX aB6:=cu 45 aW [] Tryz.func125 (λv=>(v.1.1,v.1.2.1,v.2.1)) (.zz 2 (.cut ⟨[(2,zS),(6,u8),(8,jL)],[p58,.bs .kY,.bs .pR]⟩ (λv=>BM v.2.1 v.1.1 v.2.2.2.1) (.sp 1 9) .z)) (v2 (vC vP vZ))
def aEn:aR:=jg 126 acD atV (λv=>agw (m11 v.2)) (λr=>((r.1,()),g7 r.2)) (λv=>N9 (m11 v.2)) (λx v=>(x,m11 v.2)) (λ_=>aDE _)
theorem anx:aX aEn:=bM 8 aW [] Tryz.func126 (λv=>(v.1.1,m11 v.2))
def aC0:aR:=jg 206 akv ⟨[(0,.c (.ty (.l .s)))],[.bx [.mc 1],.ms]⟩ (λv=>agc (m8 v.2.2.1)) (λr=>((r.1,()),((),()),r.2.values,())) (λv=>SQ (m8 v.2.2.1)) (λx v=>(x,m8 v.2.2.1)) (λ_=>aCF _)
theorem aCE(hD:¬Dr):kU Tryz.prog aC0:=by refine⟨aC,λv r h=> ?_⟩;obtain⟨v1,b,es,u⟩:=v;rcases es with _|⟨e,es⟩;have h:some _=some r:=h;cases h;exact aH8 hD Tryz.keys_empty .s;exact nomatch (show none=some r from h)
def awC:aR:=bB 267 ⟨[(0,u34)],[]⟩ ⟨[(0,nZ)],[p73]⟩ (λv=>XR v.1.1) (λr=>(((),()),r,()))
theorem ame:kU Tryz.prog awC:=Eb (t:=.n .iY) (e:=162) 8 aW Tryz.func267 (λv=>v.2.1) 0 3 4 227 dw [] rfl au au aA aA au aC au (by intro v;exact⟨au,au⟩) aA aA (λv r hx hF=>DV hx hF)
def aCv:aR:=jg 207 ⟨[(0,u2)],[p57]⟩ ⟨[(0,u34)],[p57]⟩ (λv=>afN v.2.1) (λr=>((r.1,()),r.2,())) (λv=>Kt v.2.1) (λx v=>(x,v.2.1)) (λ_=>aBL _)
theorem aBK:aX aCv:=bM 8 aW [kO ame] Tryz.func207 (λv=>(v.1.1,v.2.1))
def azz:aR:=jg 209 ⟨[(0,.st .iY),(1,u2)],[p74]⟩ ⟨[(0,u1)],[p74]⟩ (λv=>aeO v.1.1 v.2.1) (λr=>((r.1,()),r.2,())) (λv=>RZ v.1.1 v.2.1) (λx v=>(x,v.2.1)) (λ_=>ayI _ _)
theorem ayH:aX azz:=bM 9 aW [] Tryz.func209 (λv=>(v.1.1,v.2.1))
def awQ:aR:=jg 268 ⟨[(0,u34),(1,.c (.fn 209 [0]))],[p74]⟩ ⟨[(0,zS)],[p74]⟩ (λv=>adY v.1.1 v.2.1) (λr=>((r.1,()),r.2,())) (λv=>Rs v.1.1 v.2.1) (λx v=>(x,v.2.1)) (λ_=>awM _ _)
theorem awL:aX awQ:=cu 19 aW [kO ayH] Tryz.func268 (λv=>(v.1.1,v.2.1)) (.two .z (.two (.two .z (.one (.lp ⟨[(0,u34),(1,.c (.fn 209 [0])),(7,zS),(8,zS)],[p74]⟩ (λn v=>Rq v.1.1 v.2.1 v.1.2.2.1 n v.1.2.2.2.1) λaPK=> .z))) .z)) (v1 (vS (v1 (vB (vL λ_=>vZ))) vZ))
def awD:aR:=jg 208 ⟨[(0,u34),(1,.c (.fn 209 [0]))],[p74]⟩ ⟨[(0,u1)],[p74]⟩ (λv=>adR v.1.1 v.2.1) (λr=>((r.1,()),r.2,())) (λv=>Ro v.1.1 v.2.1) (λx v=>(x,v.2.1)) (λ_=>aww _ _)
theorem awv:aX awD:=bM 9 aW [kO awL] Tryz.func208 (λv=>(v.1.1,v.2.1))
def aGN:aR:=bB 123 ⟨[(0,.st .jr),(1,zS),(2,zS)],[]⟩ iU (λv=>ahf v.1.1 v.1.2.1 v.1.2.2.1) dJ
theorem aFD:aX aGN:=bM 17 aW [] Tryz.func123 dw
def aCu:aR:=jg 210 ⟨[(0,u2),(1,zS),(2,zS),(3,zS),(4,zS)],[p57]⟩ ⟨[(0,u1)],[p57]⟩ (λv=>afM v.2.1 v.1.2.1 v.1.2.2.1 v.1.2.2.2.1 (bH v.1).1) (λr=>((r.1,()),r.2,())) (λv=>SI v.2.1 v.1.2.1 v.1.2.2.1 v.1.2.2.2.1 (bH v.1).1) (λx v=>(x,v.2.1)) (λ_=>aBJ _ _ _ _ _)
theorem aBI:aX aCu:=cu 39 aW [kO aFD] Tryz.func210 (λv=>(v.1.1,v.2.1)) (.two .z (.two (.two .z (.one (.lp ⟨[(1,zS),(2,zS),(3,zS),(4,zS),(16,u35),(17,zS),(18,zS)],[p57]⟩ (λn v=>Sz v.2.1 v.1.1 v.1.2.1 v.1.2.2.1 v.1.2.2.2.1 (bH v.1).1 (dH v.1).1 n (dR v.1).1) λaP1=> .z))) .z)) (v1 (vS (v1 (vB (vL λ_=>vZ))) vZ))
def aA1:aR:={f:=127,ps:=akr,rs:=⟨Bw,[QH,p60,.bx [.mc 3],.ms,p57,p58,GL,p59]⟩,β:=(Int×Int×lU),F:=λv=>afb (m11 v.2) v.1.2.1 v.1.2.2.1 v.1.2.2.2.1,g:=(λr=>((r.1,r.2.1,()),g26 r.2.2)),d:=λ_=>aG,ro:=some {R:=(Int×Int),Fr:=λv=>Yj (m11 v.2) v.1.2.1 v.1.2.2.1 v.1.2.2.2.1,dr:=(aG,aG),pr:=λx v=>(x.1,x.2,m11 v.2),hF:=λ_=>azV _ _ _ _},hr:=λq h v x=>by cases h;rfl}
theorem azU(hD:¬Dr):aX aA1:=bM 77 aW [kO anp,kO (aCE hD),kO aBK,kO awv,kO aBI] Tryz.func127 (λv=>(v.1.1,v.1.2.1,m11 v.2))
def aF1:aR:=bB 269 WR iU (λv=>agZ v.1.1) dJ
theorem aFj:aX aF1:=bM 11 aW [] Tryz.func269 dw
def aEB:aR:=bB 270 WR iU (λv=>agA v.1.1) dJ
theorem aD8:aX aEB:=bM 6 aW [] Tryz.func270 dw
def aF0:aR:=bB 211 ⟨[(0,u36)],[]⟩ iU (λv=>UO v.1.1) dJ
theorem Za:aX aF0:=bM 110 aW [kO aFj,kO aD8] Tryz.func211 dw
def awf:aR:=bB 328 ⟨[(0,.c (.mc 0))],[.ms]⟩ ⟨[(0,.c (.mc 1))],[.ms,.ms]⟩ (λv=>al9 v.2.1) (λr=>(((),()),r.2,r.1,()))
theorem awc:kU Tryz.prog awf:=aJb Tryz.aKS rfl aC
def aCZ:aR:=kV 271 akv ⟨[(0,jL)],[.bx [.mc 1],.ms,.bx [.mc 3],.ms]⟩ (λv=>anF (m8 v.2.2.1)) (λr=>(((),()),((),()),r.2.values,((),()),r.1.values,())) (λv=>(aG,m8 v.2.2.1))
theorem aCD:aX aCZ:=bM 10 aW [kO awc] Tryz.func271 (λv=>(m8 (bH v).1,m8 v.2.2.1))
def aws:aR:=bB 329 ⟨[(0,u35)],[]⟩ ⟨[(0,nZ)],[p75]⟩ (λv=>amn v.1.1) (λr=>(((),()),r,()))
theorem awr:kU Tryz.prog aws:=Eb (t:=.n .jr) (e:=164) 8 aW Tryz.func329 (λv=>v.2.1) 0 3 4 228 dw [] rfl au au aA aA au aC au (by intro v;exact⟨au,au⟩) aA aA (λv r hx hF=>DV hx hF)
def awT:aR:=kV 272 ⟨[(0,u2)],[p57]⟩ ⟨[(0,u8)],[p57,.bw .iw [(0,.own 2),(1,.own 3)],p73,p75]⟩ (λv=>anC v.2.1) (λr=>(((),()),r.2,({yc:=([]:List iY),yQ:=([]:List jr),zP:=r.1.zP:iw},(),(),()),r.1.yc,r.1.yQ,())) (λv=>(aG,v.2.1))
theorem awO:aX awT:=bM 19 aW [kO ame,kO awr] Tryz.func272 (λv=>(m51 v.2.2,v.2.1))
def aB5:aR:=jg 273 ⟨[(0,u2)],[p58]⟩ ⟨[(0,u8)],[p58,p58]⟩ (λv=>afC v.2.1) (λr=>(((),()),r.2,r.1,())) (λv=>Yr v.2.1) (λx v=>(x,v.2.1)) (λ_=>aBs _)
theorem aBr:aX aB5:=bM 7 aW [] Tryz.func273 (λv=>(v.2.2.1,v.2.1))
def awX:aR:=kV 212 atU ⟨[(0,.ag [.pb 4 0,.pb 6 0,.pb 9 0])],[.bx [.mc 1],.ms,p57,p58,.bx [.mc 5],.ms,.bw .iw [(0,.own 7),(1,.own 8)],p73,p75,p58]⟩ (λv=>anL (m9 v.2.2)) (λr=>((((),(),(),()),()),g27 r)) (λv=>(aG,m8 v.2.2.1,v.2.2.2.1,(bH v).1))
theorem awS:aX awX:=bM 13 aW [kO aCD,kO awO,kO aBr] Tryz.func212 (λv=>(m52 (dR v),m8 v.2.2.1,v.2.2.2.1,(bH v).1))
def aBp:aR:=kV 274 ⟨ac7,[p58]⟩ ⟨[(0,zS)],[p58]⟩ (λv=>ang v.2.1 v.1.2.1) (λr=>((r.1,()),r.2,())) (λv=>(aG,v.2.1))
theorem aAJ:aX aBp:=cu 53 aW [kO Za] Tryz.func274 (λv=>(v.1.1,v.2.1)) (.zz 2 (.two (.ab 3 3 1) (.zz 3 (.cut ⟨[],[p58]⟩ (λv=>Yi v.2.1) .z .z)))) (v2 (vS vE (v3 (vC vZ vZ))))
def aCB:aR:=kV 275 ⟨ac7,[.bx [.mc 1],.ms]⟩ ⟨[(0,zS)],[.bx [.mc 1],.ms]⟩ (λv=>anv (m8 v.2.2.1) v.1.2.1) (λr=>((r.1,()),((),()),r.2.values,())) (λv=>(aG,m8 v.2.2.1))
theorem aCb:aX aCB:=cu 55 aW [kO Za] Tryz.func275 (λv=>(v.1.1,m8 v.2.2.1)) (.zz 3 (.cut ⟨[],[.bx [.mc 1],.ms]⟩ (λv=>ae7 v.2.2.1) .z .z)) (v3 (vC vZ vZ))
def aBg:aR:=jg 330 ⟨[(0,.st .iY),(1,u2)],[zI]⟩ ⟨[(0,u1)],[zI]⟩ (λv=>afi v.1.1 v.2.1) (λr=>((r.1,()),r.2,())) (λv=>Sn v.1.1 v.2.1) (λx v=>(x,v.2.1)) (λ_=>az7 _ _)
theorem az6:aX aBg:=bM 9 aW [] Tryz.func330 (λv=>(v.1.1,v.2.1))
end Go.Proofs
