/- The walks, printed by tx.py. -/
import Derived.Test.YtblcklaeejienaaGreatP84215a1ae
set_option linter.defProp false
set_option linter.unusedSectionVars false
set_option linter.unusedSimpArgs false
set_option linter.unusedVariables false
namespace Go.Proofs
open Go Go.AM Go.CP Go.RowKit
set_option maxRecDepth 100000
variable [Fuel]
def avX:aS:=jk 268 ⟨[(0,u34),(1,.c (.fn 330 [0]))],[zM]⟩ ⟨[(0,zS)],[zM]⟩ (λv=>adF v.1.1 v.2.1) (λr=>((r.1,()),r.2,())) (λv=>Xw v.1.1 v.2.1) (λx v=>(x,v.2.1)) (λ_=>avT _ _)
theorem avS:aW avX:=cu 19 aV [kO azp] Tryz.func268 (λv=>(v.1.1,v.2.1)) (.two .z (.two (.two .z (.one (.lp ⟨[(0,u34),(1,.c (.fn 330 [0])),(7,zS),(8,zS)],[zM]⟩ (λn v=>Q9 v.1.1 v.2.1 v.1.2.2.1 n v.1.2.2.2.1) λaOY=> .z))) .z)) (v1 (vS (v1 (vB (vL λ_=>vZ))) vZ))
def avP:aS:=bA 331 ⟨acR,[p73]⟩ ⟨[(0,u20)],[.dd,p73]⟩ (λv=>alX v.2.1 v.1.2.1 v.1.2.2.1) (λr=>(((),()),(),r,()))
theorem avO:aW avP:=bN 33 aV [] Tryz.func331 (λv=>v.2.2.1)
def aAy:aS:=jk 333 ⟨[(0,.st .jr),(1,u2)],[zM]⟩ ⟨[(0,u1)],[zM]⟩ (λv=>ae3 v.1.1 v.2.1) (λr=>((r.1,()),r.2,())) (λv=>Nf v.1.1 v.2.1) (λx v=>(x,v.2.1)) (λ_=>azr _ _)
theorem amB:aW aAy:=bN 9 aV [] Tryz.func333 (λv=>(v.1.1,v.2.1))
def av2:aS:=jk 368 ⟨[(0,u35),(1,.c (.fn 333 [0]))],[zM]⟩ ⟨[(0,zS)],[zM]⟩ (λv=>adI v.1.1 v.2.1) (λr=>((r.1,()),r.2,())) (λv=>Xy v.1.1 v.2.1) (λx v=>(x,v.2.1)) (λ_=>av0 _ _)
theorem avZ:aW av2:=cu 19 aV [kO amB] Tryz.func368 (λv=>(v.1.1,v.2.1)) (.two .z (.two (.two .z (.one (.lp ⟨[(0,u35),(1,.c (.fn 333 [0])),(7,zS),(8,zS)],[zM]⟩ (λn v=>Rb v.1.1 v.2.1 v.1.2.2.1 n v.1.2.2.2.1) λaOZ=> .z))) .z)) (v1 (vS (v1 (vB (vL λ_=>vZ))) vZ))
def avG:aS:=bA 332 ⟨[(0,oh),(1,.c (.fn 333 [1]))],[p75,zM]⟩ ⟨[(0,u22)],[.dd,zM,p75]⟩ (λv=>alQ v.2.1 v.2.2.1) (λr=>(((),()),(),r.2,r.1,()))
theorem avF:aW avG:=cu 42 aV [kO avZ,kO amB] Tryz.func332 (λv=>(v.2.2.2.1,v.2.2.1)) (.zz 3 (.two (.two .z (.one (.lp ⟨aut,[p75,zM]⟩ (λn v=>Xu v.2.2.1 n v.2.1 v.1.2.2.1 v.1.2.2.2.1) λadA=>.two .z (.cut ⟨aut,[p75,zM]⟩ (λv=>adC (λy1 y2 y3=>adA (((),(),y2,y3,()),y1,v.2.2.1,())) v.1.2.2.2.1 v.2.1 v.1.2.2.1) .z .z)))) .z)) (v3 (vS (v1 (vB (vL λ_=>v1 (vC vZ vZ)))) vZ))
def aBI:aS:=bA 276 ⟨acU,[.bw .iw [(0,.own 1),(1,.own 2)],p73,p75]⟩ ⟨[(0,zS)],[ako,.dd,.dd,p73,p75]⟩ (λv=>amW (m51 v.2) v.1.2.1) (λr=>((r.1,()),g28 r.2))
theorem aAW:aW aBI:=cu 75 aV [kO Y0,kO avS,kO avO,kO avF] Tryz.func276 (λv=>(v.1.1,m53 v.2)) (.zz 2 (.cut ⟨[],[ako,.dd,.dd,p73,p75]⟩ (λv=>Yd (m54 v.2)) .z .z)) (v2 (vC vZ vZ))
def aC4:aS:=bA 213 ⟨[(0,.ag [.pb 0 0,.pb 2 0,.pb 5 0]),(1,u36)],[.bx [.mc 1],.ms,ako,p73,p75,p58]⟩ ⟨[(0,zS)],[.bx [.mc 1],.ms,.bw .iw [(0,.own 6),(1,.own 7)],.dd,.dd,p58,p73,p75]⟩ (λv=>ank (m52 v.2.2) v.1.2.1) (λr=>((r.1,()),g29 r.2))
theorem aCo:aW aC4:=bN 25 aV [kO az1,kO aBq,kO aAW] Tryz.func213 (λv=>(v.1.1,m8 v.2.2.1,m55 v.2.2.2,(dR v).1))
def aCx:aS:=bA 128 ⟨acU,[Qx,p60,.bx [.mc 3],.ms,p57,p58,GV,p59]⟩ ⟨[(0,zS)],[akm,.dd,.dd,.dd,.dd,.dd,GV,p59,p60,.bx [.mc 10],.ms,p57,p58]⟩ (λv=>ana (m11 v.2) v.1.2.1) (λr=>((r.1,()),g30 r.2))
theorem aBW:aW aCx:=bN 48 aV [kO Y0,kO amZ,kO amN,kO awd,kO aCo] Tryz.func128 (λv=>(v.1.1,m56 v.2))
def aCz:aS:=bA 80 ajZ atl (λv=>anb (m11 v.2) v.1.2.1 v.1.2.2.1 v.1.2.2.2.1) (λr=>((r.1,()),g30 r.2))
theorem aBY(hD:¬Dr):aW aCz:=cu 82 aV [kO aAK,kO amZ,kO (azc hD),kO aBW] Tryz.func80 (λv=>(v.1.1,m56 v.2)) (.zz 6 (.cut ⟨[(0,u2),(7,.c (.pb 13 0)),(8,.c (.pb 14 0)),(9,.c (.pb 15 0)),(10,zS)],[akm,.dd,.dd,.dd,.dd,.dd,GV,p59,p60,.bx [.mc 10],.ms,p57,p58,p74,.bs .kZ,.bs .kZ]⟩ (λv=>afd (dz (dz v)).1 (bD v.1).1 (m56 v.2)) .z .z)) (v6 (vC vZ vZ))
def aBC:aS:=bA 29 ajZ atl (λv=>amU (m11 v.2) v.1.2.1 v.1.2.2.1 v.1.2.2.2.1) (λr=>((r.1,()),g30 r.2))
theorem aAO(hD:¬Dr):aW aBC:=bN 112 aV [kO aEN,kO aAR,kO amN,kO amS,kO (aBY hD)] Tryz.func29 (λv=>(v.1.1,m56 v.2))
def aBB:aS:=bA 81 ⟨[(0,u0),(1,u37)],[]⟩ ⟨[(0,u39)],[]⟩ (λv=>amT v.1.1 v.1.2.1) dK
theorem aAN:aW aBB:=cu 62 aV [kO ayx,kO aCV,kO avI,kO aw8] Tryz.func81 dx (.zz 3 (.two (.two .z (.one (.lp atK (λn v=>Sb v.1.2.1 v.1.2.2.1 n v.2.1 v.1.2.2.2.1) λaem=>.zz 2 (.cut atK (λv=>Ya (λy1 y2=>aem (((),v.1.2.1,v.1.2.2.1,y2,()),y1,())) v.1.2.2.2.1 v.2.1) .z .z)))) .z)) (v3 (vS (v1 (vB (vL λ_=>v2 (vC vZ vZ)))) vZ))
def aA5:aS:=bA 82 ⟨[(0,u30),(1,zS)],[]⟩ iW (λv=>amM v.1.1 v.1.2.1) dK
theorem az3:aW aA5:=bN 15 aV [] Tryz.func82 dx
def aB6:aS:=bA 30 ⟨[(0,u0),(1,u37),(2,zS),(3,zS)],[]⟩ ⟨[(0,u38),(1,u1)],[]⟩ (λv=>amY v.1.1 v.1.2.1 v.1.2.2.1 v.1.2.2.2.1) (λr=>((r.1,r.2,()),()))
theorem aBr:aW aB6:=cu 33 aV [kO aAN,kO az3] Tryz.func30 (λv=>(v.1.1,v.1.2.1)) (.two .z (.two (.two .z (.one (.lp ⟨[(2,zS),(3,zS),(8,u2),(14,u39),(15,zS),(16,zS)],[.bs .iK]⟩ (λn v=>aeT v.1.1 v.1.2.1 v.1.2.2.2.1 (bD v.1).1 n (dH v.1).1) λaPi=> .z))) .z)) (v1 (vS (v1 (vB (vL λ_=>vZ))) vZ))
def aG3:aS:=bA 5 ⟨[],[]⟩ iW (λv=>OU) dK
theorem anN(hD:¬Dr):aW aG3:=cu 63 aV [kO aHV,kO avm,kO aCl,kO aCk,kO (aAO hD),kO azk,kO aBr] Tryz.func5 dx (.zz 2 (.two (.cut ⟨[(1,u2),(20,u1)],[Xf,xA,EM,Bv,xB,y7,y8,p52,p53,p54,Me,Md,Ma,p60,Mf,.ms,p57,p58,QC,p59,Mc,p60,Mg,.ms,p57,p58,QD,p59,p61]⟩ (λv=>Uj v.1.2.1 (m12 v.2)) (.gs [2,8]) .z) .z)) (v2 (vS (vC vG vZ) vZ))
def aF4:aS:=bA 6 yZ iW (λv=>DN v.1.1) dK
theorem anA:aW aF4:=bN 6 aV [] Tryz.func6 dx
def aHM:aS:=bA 31 yZ ⟨[(0,u2)],[mU]⟩ (λv=>U6 v.1.1) (λr=>(((),()),r,()))
theorem anU:aW aHM:=bN 6 aV [] Tryz.func31 (λv=>v.2.1)
def aDc:aS:=kV 33 ⟨Da,[mU]⟩ ⟨[(0,zS)],[mU]⟩ (λv=>lX v.2.1 v.1.2.1) (λr=>((r.1,()),r.2,())) (λv=>(aG,v.2.1))
theorem Ky:aW aDc:=bN 53 aV [kO Uq] Tryz.func33 (λv=>(v.1.1,v.2.1))
def aEh:aS:=bA 32 ⟨WR,[]⟩ jC (λv=>Zk v.1.1 v.1.2.1 v.1.2.2.1) dK
theorem aDy:aW aEh:=bN 15 aV [kO Uq] Tryz.func32 dx
def aCH:aS:=kV 34 ⟨G8,[mU]⟩ ⟨[(0,zS)],[mU]⟩ (λv=>zm v.2.1 v.1.2.1 v.1.2.2.1) (λr=>((r.1,()),r.2,())) (λv=>(aG,v.2.1))
theorem afh:aW aCH:=bN 15 aV [kO Ky] Tryz.func34 (λv=>(v.1.1,v.2.1))
def aDK:aS:=kV 35 ⟨Da,[mU]⟩ ⟨[(0,u1)],[mU]⟩ (λv=>qH v.2.1 v.1.2.1) (λr=>((r.1,()),r.2,())) (λv=>(aG,v.2.1))
theorem afG:aW aDK:=bN 9 aV [kO Ky] Tryz.func35 (λv=>(v.1.1,v.2.1))
def aE6:aS:=bA 7 yZ yY (λv=>KV v.1.1) dK
theorem anl:aW aE6:=cu 182 aV [kO anU,kO Ky,kO aDy,kO afh,kO afG] Tryz.func7 dx (.zz 3 (.two (.two .z (.one (.lp ⟨[(2,u2),(3,u8),(4,jO),(5,zS)],[ME,mU,.bw .aM [(1,.own 3),(2,.nl),(3,.nl),(4,.nl),(5,.nl),(6,.nl)],MF]⟩ (λn v=>Tv n v.2.2.1 (m57 v.2.2.2) v.1.2.2.2.1) λaPz=> .z))) (.two (.two .z (.one (.lp ⟨[(2,u2),(3,u8),(4,jO),(6,zS)],[ME,mU,.bw .aM [(1,.own 3),(2,.own 4),(3,.nl),(4,.nl),(5,.nl),(6,.nl)],MF,Q0]⟩ (λn v=>Tt n v.2.2.1 (m58 v.2.2.2) v.1.2.2.2.1) λaPy=> .z))) (.two (.two .z (.one (.lp ⟨[(2,u2),(3,u8),(4,jO),(7,zS)],[ME,mU,o88,MF,Q0,Xj]⟩ (λn v=>KE n v.2.2.1 (m59 v.2.2.2) v.1.2.2.2.1) λafy=>.two .z (.two (.one (.zz 2 (.cut ⟨[(2,u2),(3,u8),(4,jO),(7,zS),(9,u9)],[ME,mU,o88,MF,Q0,Xj,p69]⟩ (λv=>Tk (λy1 y2 y3=>afy (((),(),(),y3,()),(m60 v.2.1.1,(),(),(),(),(),(),()),y1,(y2,(),(),(),(),(),(),()),y2.iM,y2.aK,y2.aH,())) (m59 v.2.2.2) v.1.2.2.2.1 v.2.2.1 (dz v).1) .z .z))) .z)))) (.two .z (.two (.two .z (.one (.lp ⟨[(2,u2),(3,u8),(4,jO),(10,zS)],[ME,mU,.bw .aM [(1,.own 3),(2,.own 4),(3,.own 5),(4,.own 6),(5,.nl),(6,.nl)],MF,Q0,Xj,.ar (.n .jg)]⟩ (λn v=>Tq n v.2.2.1 (m61 v.2.2.2) v.1.2.2.2.1) λaPx=> .z))) (.two (.two .z (.one (.lp ⟨[(2,u2),(3,u8),(4,jO),(12,zS)],[ME,mU,.bw .aM [(1,.own 3),(2,.own 4),(3,.own 5),(4,.own 6),(5,.own 7),(6,.nl)],MF,Q0,Xj,.ar (.n .jg),p68]⟩ (λn v=>Tp n v.2.2.1 (m62 v.2.2.2) v.1.2.2.2.1) λaPw=> .z))) (.two (.two .z (.one (.lp ⟨[(2,u2),(3,u8),(4,jO),(13,zS)],[ME,mU,.bw .aM [(1,.own 3),(2,.own 4),(3,.own 5),(4,.own 6),(5,.own 7),(6,.own 8)],MF,Q0,Xj,.ar (.n .jg),p68,p68]⟩ (λn v=>Tn n v.2.2.1 (m63 v.2.2.2) v.1.2.2.2.1) λaPv=> .z))) .z)))))))) (v3 (vS (v1 (vB (vL λ_=>vZ))) (vS (v1 (vB (vL λ_=>vZ))) (vS (v1 (vB (vL λ_=>v1 (vS (vB (v2 (vC vZ vZ))) vZ)))) (v1 (vS (v1 (vB (vL λ_=>vZ))) (vS (v1 (vB (vL λ_=>vZ))) (vS (v1 (vB (vL λ_=>vZ))) vZ))))))))
def azN:aS:=bA 86 yY ⟨acQ,[p55,p56]⟩ (λv=>aai v.1.1) (λr=>((({r with aH:=([]:List bM),aK:=([]:List gG)},(),(),()),()),r.aH,r.aK,()))
theorem ayJ:aW azN:=cu 35 aV [] Tryz.func86 (λv=>{v.1.1.1 with aH:=v.2.1,aK:=v.2.2.1}) (.zz 2 (.two (.two .z (.one (.lp ⟨[(1,u2),(2,u8),(3,jO),(4,zS)],[p51,zK,.bw .aN [(2,.own 3),(3,.nl)],p55]⟩ (λn v=>Uf v.2.1 n {v.2.2.2.1.1 with aH:=(bD v).1,aK:=[]} v.1.2.2.2.1) λaPS=> .z))) (.two (.two .z (.one (.lp ⟨[(1,u2),(2,u8),(3,jO),(5,zS)],[p51,zK,.bw .aN [(2,.own 3),(3,.own 4)],p55,p56]⟩ (λn v=>Ue v.2.1 n {v.2.2.2.1.1 with aH:=(bD v).1,aK:=(dH v).1} v.1.2.2.2.1) λaPR=> .z))) .z))) (v2 (vS (v1 (vB (vL λ_=>vZ))) (vS (v1 (vB (vL λ_=>vZ))) vZ)))
def aDb:aS:=kV 87 ⟨[(0,u2)],[mU]⟩ ⟨[(0,u1)],[mU]⟩ (λv=>af4 v.2.1) (λr=>((r.1,()),r.2,())) (λv=>(aG,v.2.1))
theorem aCv:aW aDb:=bN 13 aV [] Tryz.func87 (λv=>(v.1.1,v.2.1))
def aGS:aS:=bA 145 ⟨BG,[]⟩ Wt (λv=>K6 v.1.1 v.1.2.1) dK
theorem anG:aW aGS:=bN 8 aV [] Tryz.func145 dx
def aGV:aS:=bA 21 ⟨BG,[]⟩ iW (λv=>I8 v.1.1 v.1.2.1) dK
theorem Uc:aW aGV:=bN 19 aV [] Tryz.func21 dx
def aDL:aS:=kV 144 ⟨[(0,u2),(1,u0),(2,uh),(3,zS)],[mU]⟩ ⟨[(0,rC)],[mU]⟩ (λv=>Y4 v.2.1 v.1.2.1 v.1.2.2.1 v.1.2.2.2.1) (λr=>((r.1,()),r.2,())) (λv=>(aG,v.2.1))
theorem aCZ:aW aDL:=cu 112 aV [kO anG,kO Ky,kO afh,kO Uc] Tryz.func144 (λv=>(v.1.1,v.2.1)) (.zz 4 (.cut ⟨[(8,u8),(9,jO)],[mU,p65,p65]⟩ (λv=>Aw v.2.1 v.2.2.2.1) (.two .z (.one (.zz 4 (.cut ⟨[(0,u2),(3,zS),(5,u8),(6,jO),(8,u16),(9,sV),(10,zS),(11,Ap),(25,zS),(43,u1)],[mU,p51,p64,p65,p65,p67]⟩ (λv=>NR v.2.2.1 v.2.2.2.1 v.1.2.1 (dH v).1 (dR v).1 v.2.1 (dR v.1).1 (fF v.1).1 (l7 v.1).1) .z (.two .z (.cut ⟨[(0,u2),(3,zS),(5,u8),(6,jO),(8,u16),(9,sV),(10,zS),(11,Ap),(25,zS),(56,u1)],[mU,p51,p64,p65,p65,p67]⟩ (λv=>NQ v.2.2.1 v.2.2.2.1 v.1.2.1 (dH v).1 (dR v).1 v.2.1 (dR v.1).1 (fF v.1).1 (l7 v.1).1) .z .z)))))) .z)) (v4 (vC (v1 (vB (v1 (vD vZ (v1 (vD vZ (vC vZ (vD vZ (vC vZ vZ))))))))) vZ))
def aEj:aS:=bA 339 ⟨He,[]⟩ jC (λv=>agm v.1.1 v.1.2.1) dK
theorem aDA:aW aEj:=bN 20 aV [] Tryz.func339 dx
def aDd:aS:=bA 288 ⟨He,[]⟩ jC (λv=>KF v.1.1 v.1.2.1) dK
theorem afA:aW aDd:=bN 17 aV [kO aDA] Tryz.func288 dx
def aGW:aS:=bA 223 ⟨JI,[]⟩ iW (λv=>Gd v.1.1 v.1.2.1 v.1.2.2.1) dK
theorem Ud:aW aGW:=bN 28 aV [kO afA,kO Uc] Tryz.func223 dx
def aE8:aS:=bA 147 ⟨He,[]⟩ yZ (λv=>Ut v.1.1 v.1.2.1) dK
theorem aD8:aW aE8:=cu 23 aV [kO Ud] Tryz.func147 dx (.zz 2 (.two (.two .z (.one (.lp atJ (λn v=>Ob v.2.1 v.1.1 n v.2.2.1 v.1.2.2.2.1) λafz=>.two .z (.cut atJ (λv=>YR (λy1 y2=>afz ((v.1.1,(),(),y2,()),v.2.1,y1,())) v.1.2.2.2.1 v.2.2.1) .z .z)))) .z)) (v2 (vS (v1 (vB (vL λ_=>v1 (vC vZ vZ)))) vZ))
def aGT:aS:=kV 146 ⟨[(0,u2),(1,u5)],[mU]⟩ ⟨[(0,zS)],[mU]⟩ (λv=>K7 v.2.1 v.1.2.1) (λr=>((r.1,()),r.2,())) (λv=>(aG,v.2.1))
theorem aFF:aW aGT:=bN 15 aV [kO Ky] Tryz.func146 (λv=>(v.1.1,v.2.1))
def aE7:aS:=bA 224 ⟨JI,[]⟩ iW (λv=>Us v.1.1 v.1.2.1 v.1.2.2.1) dK
theorem anm:aW aE7:=bN 26 aV [kO afA] Tryz.func224 dx
def aDe:aS:=bA 148 ⟨JI,[]⟩ yZ (λv=>Tx v.1.1 v.1.2.1 v.1.2.2.1) dK
theorem aCw:aW aDe:=cu 31 aV [kO Ud,kO anm] Tryz.func148 dx (.zz 2 (.two (.two .z (.one (.lp ⟨auG,[p51,p68]⟩ (λn v=>NK v.2.1 v.1.1 v.1.2.1 n v.2.2.1 (bD v.1).1) λaeL=>.two .z (.cut ⟨auG,[p51,p68]⟩ (λv=>Yu (λy1 y2=>aeL ((v.1.1,v.1.2.1,(),(),y2,()),v.2.1,y1,())) (bD v.1).1 v.2.2.1) .z .z)))) .z)) (v2 (vS (v1 (vB (vL λ_=>v1 (vC vZ vZ)))) vZ))
def aF5:aS:=kV 149 ⟨[(0,u2),(1,u0),(2,uh),(3,rC)],[mU]⟩ ⟨[(0,rC)],[mU]⟩ (λv=>ZV v.2.1 v.1.2.1 v.1.2.2.1 v.1.2.2.2.1) (λr=>((r.1,()),r.2,())) (λv=>(aG,v.2.1))
theorem aEV:aW aF5:=cu 129 aV [kO afG,kO Ky,kO afh] Tryz.func149 (λv=>(v.1.1,v.2.1)) (.zz 3 (.cut aj1 (λv=>Ol v.2.2.1 v.2.2.2.1 (dR v).1 v.2.1 (bD v).1) .z (.two .z (.cut aj1 (λv=>TU v.2.2.1 v.2.2.2.1 (dR v).1 v.2.1 (bD v).1) .z (.cut aj1 (λv=>TT v.2.2.1 v.2.2.2.1 (dR v).1 v.2.1 (bD v).1) .z (.two .z (.cut ⟨[(0,u2),(5,u8),(6,jO),(7,u16),(8,sV)],[mU,p51,p64,p65,p65]⟩ (λv=>TQ v.2.2.1 v.2.2.2.1 v.2.1 (bD v).1) .z (.zz 2 (.cut ⟨[(7,u8),(8,jO)],[mU,p65,p65]⟩ (λv=>Y3 v.2.1 v.2.2.1) .z .z))))))))) (v3 (vC vZ (v1 (vC vZ (vC vZ (v1 (vC vZ (v2 (vC vZ vZ)))))))))
def aF3:aS:=kV 88 ⟨[(0,u2),(1,u0),(2,uh)],[mU]⟩ ⟨[(0,rC)],[mU]⟩ (λv=>ZU v.2.1 v.1.2.1 v.1.2.2.1) (λr=>((r.1,()),r.2,())) (λv=>(aG,v.2.1))
theorem aEU:aW aF3:=cu 126 aV [kO Ky,kO afG,kO aCZ,kO anG,kO aD8,kO aFF,kO aCw,kO aEV] Tryz.func88 (λv=>(v.1.1,v.2.1)) (.zz 2 (.cut ⟨[(0,u2),(4,u8),(5,jO),(6,u16),(7,zS)],[mU,p51,p64,p65]⟩ (λv=>TP v.2.2.1 v.2.2.2.1 v.2.1 (bD v.1).1) .z (.zz 6 (.cut ⟨[(6,u8),(11,jO)],[mU,p65,p65]⟩ (λv=>F3 v.2.1 v.2.2.2.1) .z .z)))) (v2 (vC vZ (v6 (vC vZ vZ))))
def aHN:aS:=bA 289 ⟨WR,[]⟩ iW (λv=>wK v.1.1 v.1.2.1 v.1.2.2.1) dK
theorem agx:aW aHN:=bN 15 aV [] Tryz.func289 dx
def aF7:aS:=bA 370 jC Wv (λv=>agT v.1.1) dK
theorem aEX:aW aF7:=bN 17 aV [] Tryz.func370 dx
def aGX:aS:=bA 340 ⟨[(0,zS),(1,.c (.ty (.i .u8)))],[]⟩ iW (λv=>rG v.1.1 v.1.2.1) dK
theorem anI:aW aGX:=cu 20 aV [kO aEX] Tryz.func340 dx (.zz 2 (.two (.two .z (.one (.lp ⟨[(1,.c (.ty (.i .u8))),(5,u32),(6,zS)],[]⟩ (λn v=>Zl v.1.1 v.1.2.1 n v.1.2.2.1) λaPQ=> .z))) .z)) (v2 (vS (v1 (vB (vL λ_=>vZ))) vZ))
def aEk:aS:=bA 290 ⟨[(0,rC),(1,zS),(2,zS),(3,zS)],[]⟩ iW (λv=>Oy v.1.1 v.1.2.1 v.1.2.2.1 v.1.2.2.2.1) dK
theorem aDB:aW aEk:=cu 105 aV [kO anI,kO agx] Tryz.func290 dx (.zz 3 (.two (.one (.cut ⟨[(2,zS),(3,zS),(4,u2),(9,zS),(30,u1)],[p65]⟩ (λv=>Te v.2.1 v.1.1 v.1.2.1 v.1.2.2.2.1 (bD v.1).1) .z (.two .z (.cut ⟨[(64,u1)],[]⟩ (λv=>Td v.1.1) .z .z)))) .z)) (v3 (vS (vB (vC vZ (vD vZ (vC vZ vZ)))) vZ))
def aDM:aS:=bA 291 aj6 iW (λv=>Oo v.1.1 v.1.2.1) dK
theorem aC0:aW aDM:=cu 82 aV [kO anI,kO agx] Tryz.func291 dx (.zz 2 (.two (.one (.cut ⟨[(1,zS),(2,u2),(5,zS),(8,u1)],[p65]⟩ (λv=>YA v.2.1 v.1.1 v.1.2.2.1 v.1.2.2.2.1) .z (.two .z (.cut ⟨[(1,zS),(2,u2),(5,zS),(25,u1)],[p65]⟩ (λv=>SI v.2.1 v.1.1 v.1.2.2.1 v.1.2.2.2.1) .z .z)))) .z)) (v2 (vS (vB (vC vZ (vD vZ (vC vZ vZ)))) vZ))
def aFa:aS:=bA 225 ⟨[(0,rC),(1,zS),(2,zS),(3,zS),(4,zS)],[]⟩ iW (λv=>agy v.1.1 v.1.2.1 v.1.2.2.1 v.1.2.2.2.1 (bD v.1).1) dK
theorem aEa:aW aFa:=bN 31 aV [kO agx,kO aDB,kO aC0] Tryz.func225 dx
def aE9:aS:=bA 150 ⟨[(0,u0),(1,rC)],[]⟩ iW (λv=>OE v.1.1 v.1.2.1) dK
theorem aD9:aW aE9:=bN 22 aV [kO aEa] Tryz.func150 dx
def aAD:aS:=bA 151 jC ⟨akG,[p55,p56]⟩ (λv=>jK v.1.1) (λr=>((({r.1 with aH:=([]:List bM),aK:=([]:List gG)},(),(),()),r.2,()),r.1.aH,r.1.aK,()))
theorem zT:aW aAD:=bN 6 aV [] Tryz.func151 (λv=>({v.1.1.1 with aH:=v.2.1,aK:=v.2.2.1},v.1.2.1))
def axU:aS:=bA 152 ⟨[(0,uh)],[]⟩ ⟨acQ,[p55,p56]⟩ (λv=>Zn v.1.1) (λr=>((({r with aH:=([]:List bM),aK:=([]:List gG)},(),(),()),()),r.aH,r.aK,()))
theorem axh:aW axU:=bN 14 aV [] Tryz.func152 (λv=>{v.1.1.1 with aH:=v.2.1,aK:=v.2.2.1})
def aEl:aS:=bA 226 ⟨Ms,[]⟩ iW (λv=>KP v.1.1 v.1.2.1 v.1.2.2.1) dK
theorem afU:aW aEl:=bN 13 aV [kO afA,kO Uc] Tryz.func226 dx
def aDf:aS:=bA 227 ⟨JI,[]⟩ iW (λv=>IK v.1.1 v.1.2.1 v.1.2.2.1) dK
theorem afB:aW aDf:=bN 20 aV [kO anm] Tryz.func227 dx
def aGY:aS:=kV 371 ⟨acR,[p68]⟩ ⟨[],[p68]⟩ (λv=>La v.2.1 v.1.2.1 v.1.2.2.1) (λr=>((),r,())) (λv=>v.2.1)
theorem aFJ:aW aGY:=bN 23 aV [] Tryz.func371 (λv=>v.2.1)
def aAC:aS:=bA 341 ⟨G9,[]⟩ EG (λv=>Zm v.1.1 v.1.2.1) (λr=>(((),()),r,()))
theorem azw:aW aAC:=cu 61 aV [kO aFJ] Tryz.func341 (λv=>v.2.1) (.zz 2 (.two (.two .z (.one (.lp atC (λn v=>IG v.2.1 v.2.2.1 n v.2.2.2.1 v.1.2.2.2.1) λND=>.two .z (.cut atC (λv=>YF (λy1 y2=>ND (((),(),(),y2,()),v.2.1,v.2.2.1,y1,())) v.1.2.2.2.1 v.2.2.2.1) (.one (.zz 2 (.cut ⟨[(2,u2),(3,u8),(5,u22),(6,zS),(7,u16),(8,sV)],[p51,p64,p68,p66,p69]⟩ (λv=>YG (λy1 y2=>ND (((),(),(),y2,()),v.2.1,v.2.2.1,y1,())) v.1.2.2.2.1 (bD v).1 (dH v).1 v.2.2.2.1) .z .z))) .z)))) .z)) (v2 (vS (v1 (vB (vL λ_=>v1 (vC (vB (v2 (vC vZ vZ))) vZ)))) vZ))
def aBN:aS:=bA 292 ⟨G9,[]⟩ EG (λv=>ZX v.1.1 v.1.2.1) (λr=>(((),()),r,()))
theorem aA4:aW aBN:=cu 33 aV [kO azw] Tryz.func292 (λv=>v.2.1) (.zz 3 (.two (.two .z (.one (.lp atA (λn v=>KM v.2.1 v.2.2.2.1 n v.2.2.1 v.1.2.2.2.1) λafK=>.two .z (.cut atA (λv=>Y5 (λy1 y2=>afK (((),(),(),y2,()),v.2.1,y1,v.2.2.2.1,())) v.1.2.2.2.1 v.2.2.1) .z .z)))) .z)) (v3 (vS (v1 (vB (vL λ_=>v1 (vC vZ vZ)))) vZ))
def azP:aS:=bA 228 ⟨aur,[p55,p56]⟩ Aj (λv=>Gf v.1.1 ({v.1.2.1.1 with aH:=v.2.1,aK:=v.2.2.1})) (λr=>((({r.1 with aH:=([]:List bM),aK:=([]:List gG)},(),(),()),r.2,()),(),(),r.1.aH,r.1.aK,()))
theorem RU:aW azP:=bN 13 aV [kO aA4] Tryz.func228 (λv=>({v.1.1.1 with aH:=v.2.2.2.1,aK:=(bD v).1},v.1.2.1))
def ayo:aS:=bA 153 LY Aj (λv=>ZE v.1.1 ({v.1.2.1.1 with aH:=v.2.1,aK:=v.2.2.1}) v.1.2.2.1) (λr=>((({r.1 with aH:=([]:List bM),aK:=([]:List gG)},(),(),()),r.2,()),(),(),r.1.aH,r.1.aK,()))
theorem axG:aW ayo:=bN 119 aV [kO zT,kO afU,kO Ud,kO afB,kO RU] Tryz.func153 (λv=>({v.1.1.1 with aH:=v.2.2.2.1,aK:=(bD v).1},v.1.2.1))
def aDN:aS:=bA 229 ⟨C9,[]⟩ jC (λv=>Y7 v.1.1 v.1.2.1 v.1.2.2.1) dK
theorem aC1:aW aDN:=bN 134 aV [] Tryz.func229 dx
def ayn:aS:=bA 154 LY Aj (λv=>ZB v.1.1 ({v.1.2.1.1 with aH:=v.2.1,aK:=v.2.2.1}) v.1.2.2.1) (λr=>((({r.1 with aH:=([]:List bM),aK:=([]:List gG)},(),(),()),r.2,()),(),(),r.1.aH,r.1.aK,()))
theorem axF:aW ayn:=cu 141 aV [kO zT,kO aC1,kO RU] Tryz.func154 (λv=>({v.1.1.1 with aH:=v.2.2.2.1,aK:=(bD v).1},v.1.2.1)) (.zz 7 (.cut ⟨[(3,jO),(4,u16),(6,sV)],[p55,p56,p51,QB,zK]⟩ (λv=>Tz v.2.2.2.1 {(bD v).1.1 with aH:=v.2.1,aK:=v.2.2.1}) .z .z)) (v7 (vC vZ vZ))
def aGZ:aS:=bA 230 ⟨[(0,u30),(1,zS)],[]⟩ ⟨[(0,u30)],[]⟩ (λv=>ahf v.1.1 v.1.2.1) dK
theorem aFL:aW aGZ:=bN 18 aV [] Tryz.func230 dx
def azO:aS:=bA 155 ⟨acP,[p55,p56]⟩ Aj (λv=>aaj ({v.1.1.1 with aH:=v.2.1,aK:=v.2.2.1}) v.1.2.1) (λr=>((({r.1 with aH:=([]:List bM),aK:=([]:List gG)},(),(),()),r.2,()),(),(),r.1.aH,r.1.aK,()))
theorem ayK:aW azO:=bN 43 aV [kO zT,kO aFL] Tryz.func155 (λv=>({v.1.1.1 with aH:=v.2.2.2.1,aK:=(bD v).1},v.1.2.1))
def axo:aS:=bA 156 LY Aj (λv=>Y9 v.1.1 ({v.1.2.1.1 with aH:=v.2.1,aK:=v.2.2.1}) v.1.2.2.1) (λr=>((({r.1 with aH:=([]:List bM),aK:=([]:List gG)},(),(),()),r.2,()),(),(),r.1.aH,r.1.aK,()))
theorem awZ:aW axo:=cu 118 aV [kO zT,kO afU,kO Ud,kO afB,kO RU] Tryz.func156 (λv=>({v.1.1.1 with aH:=v.2.2.2.1,aK:=(bD v).1},v.1.2.1)) (.zz 2 (.cut ⟨[(3,jO),(4,u16),(5,sV),(6,Ap),(8,u21)],[p55,p56,p51,QB,p65,zK]⟩ (λv=>YB v.2.2.2.1 {(bD v).1.1 with aH:=v.2.1,aK:=v.2.2.1} (dH v).1 (bD v.1).1) .z .z)) (v2 (vC vZ vZ))
def ayq:aS:=bA 157 ⟨acP,[p55,p56]⟩ Aj (λv=>ZG ({v.1.1.1 with aH:=v.2.1,aK:=v.2.2.1}) v.1.2.1) (λr=>((({r.1 with aH:=([]:List bM),aK:=([]:List gG)},(),(),()),r.2,()),(),(),r.1.aH,r.1.aK,()))
theorem axI:aW ayq:=bN 53 aV [kO zT] Tryz.func157 (λv=>({v.1.1.1 with aH:=v.2.2.2.1,aK:=(bD v).1},v.1.2.1))
def axn:aS:=bA 158 LY Aj (λv=>Y8 v.1.1 ({v.1.2.1.1 with aH:=v.2.1,aK:=v.2.2.1}) v.1.2.2.1) (λr=>((({r.1 with aH:=([]:List bM),aK:=([]:List gG)},(),(),()),r.2,()),(),(),r.1.aH,r.1.aK,()))
theorem awY:aW axn:=bN 127 aV [kO zT,kO afU,kO Ud,kO afB,kO RU] Tryz.func158 (λv=>({v.1.1.1 with aH:=v.2.2.2.1,aK:=(bD v).1},v.1.2.1))
def axm:aS:=bA 159 ⟨acP,[p55,p56]⟩ Aj (λv=>Y6 ({v.1.1.1 with aH:=v.2.1,aK:=v.2.2.1}) v.1.2.1) (λr=>((({r.1 with aH:=([]:List bM),aK:=([]:List gG)},(),(),()),r.2,()),(),(),r.1.aH,r.1.aK,()))
theorem awX:aW axm:=bN 31 aV [kO zT] Tryz.func159 (λv=>({v.1.1.1 with aH:=v.2.2.2.1,aK:=(bD v).1},v.1.2.1))
def ay4:aS:=bA 160 LY Aj (λv=>Z4 v.1.1 ({v.1.2.1.1 with aH:=v.2.1,aK:=v.2.2.1}) v.1.2.2.1) (λr=>((({r.1 with aH:=([]:List bM),aK:=([]:List gG)},(),(),()),r.2,()),(),(),r.1.aH,r.1.aK,()))
theorem ayc:aW ay4:=bN 82 aV [kO zT,kO RU] Tryz.func160 (λv=>({v.1.1.1 with aH:=v.2.2.2.1,aK:=(bD v).1},v.1.2.1))
def aEm:aS:=bA 232 ⟨acS,[]⟩ iW (λv=>F7 v.1.1 v.1.2.1) dK
theorem YH:aW aEm:=bN 9 aV [kO Uc] Tryz.func232 dx
def aF8:aS:=bA 231 ⟨acS,[]⟩ iW (λv=>ZY v.1.1 v.1.2.1) dK
theorem aEY:aW aF8:=bN 25 aV [kO YH] Tryz.func231 dx
def ay5:aS:=bA 161 LY Aj (λv=>Z5 v.1.1 ({v.1.2.1.1 with aH:=v.2.1,aK:=v.2.2.1}) v.1.2.2.1) (λr=>((({r.1 with aH:=([]:List bM),aK:=([]:List gG)},(),(),()),r.2,()),(),(),r.1.aH,r.1.aK,()))
theorem ayd:aW ay5:=cu 121 aV [kO aEY,kO zT,kO YH] Tryz.func161 (λv=>({v.1.1.1 with aH:=v.2.2.2.1,aK:=(bD v).1},v.1.2.1)) (.zz 4 (.two (.two .z (.one (.lp atB (λn v=>Ot v.2.2.2.1 {(bD v).1.1 with aH:=v.2.1,aK:=v.2.2.1} (dH v).1 (dz v).1 (bD v.1).1 n (dR v.1).1 (dz v.1).1) λafL=>.two .z (.cut atB (λv=>Za (λy1 y2=>afL (((),(),(),(),(bD v.1).1,(),y1,y2,()),{(bD v).1.1 with aH:=v.2.1,aK:=v.2.2.1}.aH,{(bD v).1.1 with aH:=v.2.1,aK:=v.2.2.1}.aK,v.2.2.2.1,({(bD v).1.1 with aH:=v.2.1,aK:=v.2.2.1},(),(),()),(dH v).1,({(dR v).1.1 with aH:=[],aK:=[]},(),(),()),(dz v).1,())) (dz v.1).1 (dR v.1).1) .z .z)))) .z)) (v4 (vS (v1 (vB (vL λ_=>v1 (vC vZ vZ)))) vZ))
def ay3:aS:=bA 162 ⟨acP,[p55,p56]⟩ Aj (λv=>Z0 ({v.1.1.1 with aH:=v.2.1,aK:=v.2.2.1}) v.1.2.1) (λr=>((({r.1 with aH:=([]:List bM),aK:=([]:List gG)},(),(),()),r.2,()),(),(),r.1.aH,r.1.aK,()))
theorem ayb:aW ay3:=cu 89 aV [kO zT,kO YH] Tryz.func162 (λv=>({v.1.1.1 with aH:=v.2.2.2.1,aK:=(bD v).1},v.1.2.1)) (.zz 3 (.two (.two .z (.one (.lp ⟨[(2,jO),(3,u16),(4,sV),(6,.c (.pe 1 0)),(7,zS)],[p55,p56,QB,p65,zK]⟩ (λn v=>Oq {v.2.2.2.1.1 with aH:=v.2.1,aK:=v.2.2.1} (bD v).1 v.1.2.2.2.1 n (bD v.1).1) λaPL=> .z))) .z)) (v3 (vS (v1 (vB (vL λ_=>vZ))) vZ))
def ayp:aS:=bA 163 LY Aj (λv=>ZF v.1.1 ({v.1.2.1.1 with aH:=v.2.1,aK:=v.2.2.1}) v.1.2.2.1) (λr=>((({r.1 with aH:=([]:List bM),aK:=([]:List gG)},(),(),()),r.2,()),(),(),r.1.aH,r.1.aK,()))
theorem axH:aW ayp:=cu 68 aV [kO YH,kO zT] Tryz.func163 (λv=>({v.1.1.1 with aH:=v.2.2.2.1,aK:=(bD v).1},v.1.2.1)) (.zz 2 (.two (.two .z (.one (.lp ⟨[(3,jO),(4,u16),(5,sV),(6,Ap),(8,zS)],[p55,p56,p51,QB,p65,zK]⟩ (λn v=>Oc v.2.2.2.1 {(bD v).1.1 with aH:=v.2.1,aK:=v.2.2.1} (dH v).1 n (bD v.1).1) λaPA=> .z))) .z)) (v2 (vS (v1 (vB (vL λ_=>vZ))) vZ))
def axV:aS:=bA 164 ⟨aur,[p55,p56]⟩ Aj (λv=>Zo v.1.1 ({v.1.2.1.1 with aH:=v.2.1,aK:=v.2.2.1})) (λr=>((({r.1 with aH:=([]:List bM),aK:=([]:List gG)},(),(),()),r.2,()),(),(),r.1.aH,r.1.aK,()))
theorem axi:aW axV:=cu 66 aV [kO zT] Tryz.func164 (λv=>({v.1.1.1 with aH:=v.2.2.2.1,aK:=(bD v).1},v.1.2.1)) (.zz 2 (.two (.two .z (.one (.lp ⟨[(2,jO),(3,u16),(4,sV),(6,zS)],[p55,p56,p51,QB,zK]⟩ (λn v=>NZ v.2.2.2.1 {(bD v).1.1 with aH:=v.2.1,aK:=v.2.2.1} n v.1.2.2.2.1) λaPq=> .z))) .z)) (v2 (vS (v1 (vB (vL λ_=>vZ))) vZ))
def aym:aS:=bA 89 ⟨C9,[]⟩ ⟨akG,[p55,p56]⟩ (λv=>ZA v.1.1 v.1.2.1 v.1.2.2.1) (λr=>((({r.1 with aH:=([]:List bM),aK:=([]:List gG)},(),(),()),r.2,()),r.1.aH,r.1.aK,()))
theorem axE:aW aym:=cu 201 aV [kO aD9,kO zT,kO axh,kO axG,kO axF,kO ayK,kO awZ,kO axI,kO awY,kO awX,kO ayc,kO ayd,kO ayb,kO axH,kO Uc,kO axi] Tryz.func89 (λv=>({v.1.1.1 with aH:=v.2.1,aK:=v.2.2.1},v.1.2.1)) (.zz 4 (.cut ⟨[(4,u2),(6,u16)],[akp,p55,p56,zK]⟩ (λv=>FW {v.2.1.1 with aH:=v.2.2.1,aK:=v.2.2.2.1}) .z .z)) (v4 (vC vZ vZ))
def aCG:aS:=bA 37 ⟨[(0,u5),(1,u0),(2,zS)],[]⟩ ⟨[(0,oh)],[p72]⟩ (λv=>U5 v.1.1 v.1.2.1 v.1.2.2.1) (λr=>(((),()),r,()))
theorem amQ:aW aCG:=cu 44 aV [kO anU,kO ayJ,kO aCv,kO aEU,kO axE] Tryz.func37 (λv=>v.2.1) (.zz 4 (.two (.one (.lp ⟨auD,[p51,mU,p64,p72]⟩ (λn v=>Uo v.2.1 v.1.1 n v.2.2.1 v.2.2.2.1 (bD v).1) λYQ=>.cut ⟨auD,[p51,mU,p64,p72]⟩ (λv=>agu (λy1 y2 y3=>YQ ((v.1.1,(),(),(),(),()),v.2.1,y1,y2,y3,())) v.2.1 v.2.2.2.1 (bD v).1 v.2.2.1) .z .z)) .z)) (v4 (vS (vB (vL λ_=>vC vZ vZ)) vZ))
def avw:aS:=bA 8 ⟨[(0,u0),(1,u5),(2,zS)],[]⟩ Wm (λv=>OV v.1.1 v.1.2.1 v.1.2.2.1) (λr=>(((),()),g4 r))
theorem avu:aW avw:=cu 65 aV [kO alI,kO amQ,kO XW,kO Sd] Tryz.func8 (λv=>m7 v.2) (.zz 4 (.two (.two .z (.one (.lp ⟨[(3,u2),(7,u8),(9,.c (.own 10)),(10,zS)],[p51,xA,EM,Bv,xB,y7,y8,p52,p53,p54,p72]⟩ (λn v=>IY v.2.1 (jc v).1 n v.1.2.2.2.1 (m7 v.2.2)) λaDz=> .z))) .z)) (v4 (vS (v1 (vB (vL λ_=>vZ))) vZ))
def aFm:aS:=bA 39 ⟨JI,[]⟩ iW (λv=>ZK v.1.1 v.1.2.1 v.1.2.2.1) dK
theorem aEG:aW aFm:=bN 20 aV [kO Og] Tryz.func39 dx
def aDW:aS:=bA 10 ⟨He,[]⟩ iW (λv=>KN v.1.1 v.1.2.1) dK
theorem am9:aW aDW:=cu 31 aV [kO amI,kO aEG] Tryz.func10 dx (.zz 2 (.two (.two .z (.one (.lp ⟨aus,[p51]⟩ (λn v=>KA v.2.1 v.1.1 v.1.2.2.2.1 (bD v.1).1 n v.1.2.2.1 (dH v.1).1) λae9=>.zz 2 (.cut ⟨aus,[p51]⟩ (λv=>YE (λy1 y2=>ae9 ((v.1.1,(),y1,v.1.2.2.2.1,(bD v.1).1,y2,()),v.2.1,())) (dH v.1).1 v.1.2.2.1) .z .z)))) .z)) (v2 (vS (v1 (vB (vL λ_=>v2 (vC vZ vZ)))) vZ))
def aCb:aS:=bA 93 aco ato (λv=>am1 (m7 v.2) v.1.2.1) (λr=>((r.1,()),g22 r.2))
theorem aBw:aW aCb:=bN 39 aV [kO ae1,kO amK] Tryz.func93 (λv=>(v.1.1,QY v.2))
def aCc:aS:=bA 41 aco ato (λv=>SH (m7 v.2) v.1.2.1) (λr=>((r.1,()),g22 r.2))
theorem aBx:aW aCc:=cu 40 aV [kO aBw] Tryz.func41 (λv=>(v.1.1,QY v.2)) (.zz 2 (.two (.two .z (.one (.lp atp (λn v=>Ny v.1.2.1 v.1.2.2.2.1 (bD v.1).1 n v.1.2.2.1 (dH v.1).1 (m32 v.2)) λDx=>.zz 2 (.cut atp (λv=>Nw (λy1 y2 y3=>Dx (((),v.1.2.1,y1,v.1.2.2.2.1,(bD v.1).1,y2,()),g38 y3)) (dH v.1).1 v.1.2.2.1 (m32 v.2)) (.one (.two .z (.cut ⟨auk,[kT,QA,sS,kU,ET,yB,.dd,.dd,.dd,p54,p53,p52]⟩ (λv=>Io (λy1 y2 y3=>Dx (((),v.1.2.1,y1,v.1.2.2.2.1,(bD v.1).1,y2,()),g38 y3)) v.1.2.2.1 (dH v.1).1 (dR v.1).1 (m32 v.2)) (.gs [11]) .z))) .z)))) .z)) (v2 (vS (v1 (vB (vL λ_=>v2 (vC (vB (v1 (vC vG vZ))) vZ)))) vZ))
def aDV:aS:=bA 42 ⟨He,[]⟩ yZ (λv=>T9 v.1.1 v.1.2.1) dK
theorem am8:aW aDV:=cu 24 aV [kO IC] Tryz.func42 dx (.zz 2 (.two (.two .z (.one (.lp ⟨auE,[p51,p68]⟩ (λn v=>FT v.2.1 v.1.1 v.1.2.2.2.1 n v.2.2.1 (bD v.1).1) λae8=>.zz 2 (.cut ⟨auE,[p51,p68]⟩ (λv=>YD (λy1 y2=>ae8 ((v.1.1,(),(),v.1.2.2.2.1,y2,()),v.2.1,y1,())) (bD v.1).1 v.2.2.1) .z .z)))) .z)) (v2 (vS (v1 (vB (vL λ_=>v2 (vC vZ vZ)))) vZ))
def aHP:aS:=bA 43 ⟨BG,[]⟩ Wt (λv=>U9 v.1.1 v.1.2.1) dK
theorem aob:aW aHP:=bN 8 aV [] Tryz.func43 dx
def aHO:aS:=bA 11 ⟨[(0,u0),(1,u2),(2,zS)],[kT,CX,sS,kU,sP,qD,p52,p53,p54]⟩ atn (λv=>aaF v.1.1 (m7 v.2) v.1.2.2.1) (λr=>((r.1,()),g22 r.2))
theorem aG8:aW aHO:=cu 69 aV [kO aBx,kO Sd,kO am8,kO aob,kO XW] Tryz.func11 (λv=>(v.1.1,QY v.2)) (.zz 4 (.two (.two .z (.one (.lp atg (λn v=>F9 (bZ v).1 v.1.2.2.1 n v.1.2.2.2.1 (m32 v.2)) λTw=>.two .z (.cut atg (λv=>IZ (λy1 y2=>Tw (((),(),v.1.2.2.1,y1,()),e3 y2,((),(),y2.bg.lY,()),((),()),e0 (y2.bg.aT.getD 0 aG),e2 (y2.bg.aT.getD 0 aG).aR,((y2.bg.aT.getD 0 aG).aR.bX,(),()),(),(),(),y2.bg.bg,(y2.bg.aT.getD 0 aG).aR.bT,((y2.bg.aT.getD 0 aG).aR.bX).data,(bZ v).1,())) v.1.2.2.2.1 (m32 v.2)) .z .z)))) .z)) (v4 (vS (v1 (vB (vL λ_=>v1 (vC vZ vZ)))) vZ))
def awm:aS:=bA 46 ⟨G9,[]⟩ ⟨[(0,u2)],[Qy,Dk,p68]⟩ (λv=>YL v.1.1 v.1.2.1) (λr=>(((),()),({r with dL:=([]:List mG),dM:=([]:List Int)},(),(),()),r.dL,r.dM,()))
theorem awg:aW awm:=cu 69 aV [kO X8] Tryz.func46 (λv=>{v.2.1.1 with dL:=v.2.2.1,dM:=v.2.2.2.1}) (.zz 2 (.two (.two .z (.one (.lp ⟨[(2,u2),(3,u8),(5,jO),(21,u10),(22,zS),(23,zS)],[p51,p64,.bw .j4 [(18,.own 3),(19,.nl)],Dk]⟩ (λn v=>Iz v.2.1 v.2.2.1 v.1.2.2.2.1 (bD v.1).1 n {v.2.2.2.1.1 with dL:=(bD v).1,dM:=[]} (dH v.1).1) λaPm=> .z))) .z)) (v2 (vS (v1 (vB (vL λ_=>vZ))) vZ))
def aDk:aS:=bA 173 ⟨auw,[]⟩ jC (λv=>KH v.1.1 v.1.2.1 v.1.2.2.1) dK
theorem aCS:aW aDk:=bN 33 aV [kO Yo,kO Y1] Tryz.func173 dx
def aAH:aS:=kV 172 ⟨[(0,oh),(1,.c (.fn 173 [1]))],[p68,p51]⟩ ⟨[],[p68,p51]⟩ (λv=>afc v.2.1 v.2.2.1) (λr=>((),r.1,r.2,())) (λv=>(v.2.1,v.2.2.1))
theorem az2:kR Tryz.prog aAH:=aqj (n:=.aM) (cmp:=λc x y=>KH x y c) Tryz.aqM rfl aC aC (λc x y r h=>(@aCS GD).2 ((x,y,c,()),()) r h)
def aEt:aS:=bA 94 yY yZ (λv=>KR v.1.1) dK
theorem anh:aW aEt:=cu 24 aV [kO az2] Tryz.func94 dx (.zz 2 (.two (.two .z (.one (.lp ⟨[(1,u2),(3,u20),(11,zS),(12,zS)],[p51,p68]⟩ (λn v=>II v.2.1 v.1.2.2.1 n v.2.2.1 v.1.2.2.2.1) λaPs=> .z))) .z)) (v2 (vS (v1 (vB (vL λ_=>vZ))) vZ))
def aAk:aS:=bA 47 ⟨Ms,[]⟩ yZ (λv=>Yj v.1.1 v.1.2.1 v.1.2.2.1) dK
theorem aze:aW aAk:=cu 53 aV [kO anh,kO IC] Tryz.func47 dx (.zz 2 (.two (.two .z (.one (.lp acp (λn v=>Dw v.2.1 v.2.2.1 v.1.1 (bD v.1).1 (dH v.1).1 n v.2.2.2.1 (dR v.1).1) λad7=>.zz 2 (.cut acp (λv=>RY (λy1 y2=>ad7 ((v.1.1,(),(),(),(bD v.1).1,(dH v.1).1,y2,()),v.2.1,v.2.2.1,y1,())) (dR v.1).1 v.2.2.2.1) .z .z)))) .z)) (v2 (vS (v1 (vB (vL λ_=>v2 (vC vZ vZ)))) vZ))
def aCF:aS:=bA 95 ⟨Ms,[]⟩ iW (λv=>IE v.1.1 v.1.2.1 v.1.2.2.1) dK
theorem aff:aW aCF:=bN 56 aV [kO IC] Tryz.func95 dx
def aEn:aS:=bA 250 ⟨auw,[]⟩ jC (λv=>Oz v.1.1 v.1.2.1 v.1.2.2.1) dK
theorem aDY:aW aEn:=bN 37 aV [kO Yo,kO Y1] Tryz.func250 dx
def aBP:aS:=kV 172 ⟨[(0,oh),(1,.c (.fn 250 [1]))],[p68,p51]⟩ ⟨[],[p68,p51]⟩ (λv=>afC v.2.1 v.2.2.1) (λr=>((),r.1,r.2,())) (λv=>(v.2.1,v.2.2.1))
theorem aBp:kR Tryz.prog aBP:=aqj (n:=.aM) (cmp:=λc x y=>Oz x y c) Tryz.aqM rfl aC aC (λc x y r h=>(@aDY GD).2 ((x,y,c,()),()) r h)
def awz:aS:=bA 251 EG ⟨[(0,u20)],[.dd,p68]⟩ (λv=>aeA v.2.1) (λr=>(((),()),(),r,()))
theorem awt:kR Tryz.prog awz:=aIW Tryz.aJ6 rfl aC
def aBO:aS:=bA 174 ⟨[(0,u0),(1,u5)],[]⟩ EG (λv=>KZ v.1.1 v.1.2.1) (λr=>(((),()),r,()))
theorem aBo:aW aBO:=cu 33 aV [kO aBp,kO awt] Tryz.func174 (λv=>v.2.1) (.zz 2 (.two (.two .z (.one (.lp ⟨auF,[p51,p68]⟩ (λn v=>F4 v.2.1 v.1.2.2.1 v.1.2.2.2.1 n v.2.2.1 (bD v.1).1) λafM=>.zz 2 (.cut ⟨auF,[p51,p68]⟩ (λv=>Zb (λy1 y2=>afM (((),(),v.1.2.2.1,v.1.2.2.2.1,y2,()),v.2.1,y1,())) (bD v.1).1 v.2.2.1) .z .z)))) .z)) (v2 (vS (v1 (vB (vL λ_=>v2 (vC vZ vZ)))) vZ))
def axl:aS:=bA 96 ⟨[(0,u42),(1,zS),(2,zS)],[]⟩ yZ (λv=>RA v.1.1 v.1.2.1 v.1.2.2.1) dK
theorem awW:aW axl:=cu 52 aV [kO aBo] Tryz.func96 dx (.zz 2 (.two (.two .z (.one (.lp ⟨auf,[p68]⟩ (λn v=>Fh v.1.1 v.1.2.1 v.1.2.2.1 (bD v.1).1 (dH v.1).1 n v.2.1 (dR v.1).1) λadP=>.zz 2 (.cut ⟨auf,[p68]⟩ (λv=>XH (λy1 y2=>adP ((v.1.1,v.1.2.1,v.1.2.2.1,(),(bD v.1).1,(dH v.1).1,y2,()),y1,())) (dR v.1).1 v.2.1) .z .z)))) .z)) (v2 (vS (v1 (vB (vL λ_=>v2 (vC vZ vZ)))) vZ))
def awn:aS:=bA 48 ⟨[(0,u42),(1,zS)],[]⟩ ⟨[(0,oh)],[zN]⟩ (λv=>XR v.1.1 v.1.2.1) (λr=>(((),()),r,()))
theorem awh:aW awn:=cu 111 aV [kO aff,kO awW] Tryz.func48 (λv=>v.2.1) (.zz 7 (.cut ⟨[(1,zS),(5,u2),(8,zS),(9,u20)],[.bs .mG,zN]⟩ (λv=>Rl v.1.1 v.2.1 v.1.2.2.1 v.2.2.1) (.two .z (.one (.lp ⟨[(0,u42),(1,zS),(5,u2),(8,zS),(9,u20),(75,u5),(76,zS),(77,zS)],[.bs .mG,zN]⟩ (λn v=>Dm v.1.1 v.1.2.1 v.2.1 (dH v.1).1 (dR v.1).1 n v.1.2.2.2.1 v.2.2.1 (dz v.1).1) λaO4=> .z))) .z)) (v7 (vC (v1 (vB (vL λ_=>vZ))) vZ))
def ayf:aS:=kV 97 ⟨G8,[Qy,Dk,p68]⟩ ⟨[],[Qy,Dk,p68]⟩ (λv=>Fw ({v.2.1.1 with dL:=v.2.2.1,dM:=v.2.2.2.1}) v.1.2.1 v.1.2.2.1) (λr=>((),({r with dL:=([]:List mG),dM:=([]:List Int)},(),(),()),r.dL,r.dM,())) (λv=>{v.2.1.1 with dL:=v.2.2.1,dM:=v.2.2.2.1})
theorem axy:aW ayf:=bN 27 aV [] Tryz.func97 (λv=>{v.2.1.1 with dL:=v.2.2.1,dM:=v.2.2.2.1})
def axP:aS:=kV 49 ⟨[(0,u2),(1,u43)],[Qy,Dk,p68]⟩ ⟨[(0,u1)],[Qy,Dk,p68]⟩ (λv=>XT ({v.2.1.1 with dL:=v.2.2.1,dM:=v.2.2.2.1}) v.1.2.1) (λr=>((r.1,()),({r.2 with dL:=([]:List mG),dM:=([]:List Int)},(),(),()),r.2.dL,r.2.dM,())) (λv=>(aG,{v.2.1.1 with dL:=v.2.2.1,dM:=v.2.2.2.1}))
theorem axa:aW axP:=cu 168 aV [kO axy,kO aff] Tryz.func49 (λv=>(v.1.1,{v.2.1.1 with dL:=v.2.2.1,dM:=v.2.2.2.1})) (.zz 4 (.cut ⟨[],[Qy,Dk,p68]⟩ (λv=>Ro {v.2.1.1 with dL:=v.2.2.1,dM:=v.2.2.2.1}) .z .z)) (v4 (vC vZ vZ))
def azC:aS:=bA 13 ⟨Ms,[]⟩ ⟨[(0,.sw .fH [(1,.own 0)]),(1,zS)],[zN]⟩ (λv=>KJ v.1.1 v.1.2.1 v.1.2.2.1) (λr=>((({r.1 with bH:=([]:List eu)},(),()),r.2,()),r.1.bH,()))
theorem ami:aW azC:=cu 76 aV [kO awg,kO aze,kO awh,kO axa] Tryz.func13 (λv=>(m64 v,v.1.2.1)) (.zz 4 (.one (.lp ⟨[(6,u2),(8,u8),(9,sV)],[acF,acC,Dk,p68,acI,zN]⟩ (λn v=>SE n {v.2.2.1.1 with dL:=v.2.2.2.1,dM:=(bD v).1} (E9 (dH v))) λYn=>.one (.two .z (.two (.two .z (.one (.lp ⟨[(6,u2),(8,u8),(9,sV),(10,u27),(35,u5),(36,zS),(37,zS)],[acF,acC,Dk,p68,acI,zN,p68]⟩ (λn v=>FR (λy1 y2=>Yn (((),(),(),()),(m66 v.2.1.1,(),(),()),(y1,(),(),()),y1.dL,y1.dM,(y2,(),()),y2.bH,())) (bD v.1).1 (dH v.1).1 n {v.2.2.1.1 with dL:=v.2.2.2.1,dM:=(bD v).1} (E9 (dH v)) (dz v).1 (dR v.1).1) λIu=>.zz 2 (.two (.one (.zz 2 (.two (.two .z (.one (.lp ⟨[(6,u2),(8,u8),(9,sV),(10,u27),(12,zS),(13,.c (.own 7)),(35,u5),(36,zS),(37,zS),(44,.c (.own 7)),(45,zS),(46,zS)],[acF,acC,Dk,p68,acI,zN,p68,zN]⟩ (λn v=>FQ (λy1 y2 y3 y4=>Iu (((),(),(),(),(dR v.1).1,(dz v.1).1,y4,()),(m66 v.2.1.1,(),(),()),(y1,(),(),()),y1.dL,y1.dM,(y2,(),()),y2.bH,y3,())) (E9 (dH v)) (dz v).1 (fF v.1).1 (bD v.1).1 (fF v).1 (nI v.1).1 n {v.2.2.1.1 with dL:=v.2.2.2.1,dM:=(bD v).1} (jc v.1).1) λaPn=> .z))) (.cut ⟨[(6,u2),(8,u8),(9,sV),(10,u27),(13,.c (.own 7)),(35,u5),(36,zS),(37,zS)],[acF,acC,Dk,p68,acI,zN,p68,zN]⟩ (λv=>Yy (λy1 y2 y3 y4=>Iu (((),(),(),(),(dH v.1).1,(dR v.1).1,y4,()),(m66 v.2.1.1,(),(),()),(y1,(),(),()),y1.dL,y1.dM,(y2,(),()),y2.bH,y3,())) (E9 (dH v)) (dz v.1).1 (fF v).1 {v.2.2.1.1 with dL:=v.2.2.2.1,dM:=(bD v).1} (dz v).1) .z .z)))) .z)))) .z))))) (v4 (vB (vL λ_=>vB (v1 (vS (v1 (vB (vL λ_=>v2 (vS (vB (v2 (vS (v1 (vB (vL λ_=>vZ))) (vC vZ vZ)))) vZ)))) vZ)))))
def ayW:aS:=bA 61 ⟨[(0,u44),(1,zS)],[]⟩ EG (λv=>Tj v.1.1 v.1.2.1) (λr=>(((),()),r,()))
theorem amd:aW ayW:=cu 26 aV [] Tryz.func61 (λv=>v.2.1) (.zz 2 (.two (.two .z (.one (.lp ⟨auy,[p68]⟩ (λn v=>FM v.1.1 v.1.2.2.1 v.1.2.2.2.1 n v.2.1 (bD v.1).1) λaeK=>.zz 2 (.cut ⟨auy,[p68]⟩ (λv=>Yt (λy1 y2=>aeK ((v.1.1,(),v.1.2.2.1,v.1.2.2.2.1,y2,()),y1,())) (bD v.1).1 v.2.1) .z .z)))) .z)) (v2 (vS (v1 (vB (vL λ_=>v2 (vC vZ vZ)))) vZ))
def azD:aS:=bA 16 ⟨[(0,u44)],[]⟩ EG (λv=>Oi v.1.1) (λr=>(((),()),r,()))
theorem amj:aW azD:=bN 5 aV [kO amd] Tryz.func16 (λv=>v.2.1)
def awM:aS:=bA 50 ⟨Ms,[]⟩ EG (λv=>Yb v.1.1 v.1.2.1 v.1.2.2.1) (λr=>(((),()),r,()))
theorem awC:aW awM:=cu 53 aV [kO anh,kO IC] Tryz.func50 (λv=>v.2.1) (.zz 2 (.two (.two .z (.one (.lp acp (λn v=>Dt v.2.1 v.2.2.1 v.1.1 (bD v.1).1 (dH v.1).1 n v.2.2.2.1 (dR v.1).1) λadZ=>.zz 2 (.cut acp (λv=>RH (λy1 y2=>adZ ((v.1.1,(),(),(),(bD v.1).1,(dH v.1).1,y2,()),v.2.1,v.2.2.1,y1,())) (dR v.1).1 v.2.2.2.1) .z .z)))) .z)) (v2 (vS (v1 (vB (vL λ_=>v2 (vC vZ vZ)))) vZ))
def awk:aS:=bA 51 ⟨G9,[]⟩ ⟨[(0,u2)],[y5,rT,p68]⟩ (λv=>NU v.1.1 v.1.2.1) (λr=>(((),()),({r with dL:=([]:List mF),dM:=([]:List Int)},(),(),()),r.dL,r.dM,()))
theorem adJ:aW awk:=cu 69 aV [kO X8] Tryz.func51 (λv=>{v.2.1.1 with dL:=v.2.2.1,dM:=v.2.2.2.1}) (.zz 2 (.two (.two .z (.one (.lp ⟨[(2,u2),(3,u8),(5,jO),(6,zS)],[p51,p64,.bw .jm [(18,.own 3),(19,.nl)],rT]⟩ (λn v=>Iy v.2.1 v.2.2.1 n {v.2.2.2.1.1 with dL:=(bD v).1,dM:=[]} v.1.2.2.2.1) λaPl=> .z))) .z)) (v2 (vS (v1 (vB (vL λ_=>vZ))) vZ))
def azz:aS:=kV 175 ⟨G8,[y5,rT,p68]⟩ ⟨[],[y5,rT,p68]⟩ (λv=>FE ({v.2.1.1 with dL:=v.2.2.1,dM:=v.2.2.2.1}) v.1.2.1 v.1.2.2.1) (λr=>((),({r with dL:=([]:List mF),dM:=([]:List Int)},(),(),()),r.dL,r.dM,())) (λv=>{v.2.1.1 with dL:=v.2.2.1,dM:=v.2.2.2.1})
theorem ayy:aW azz:=bN 27 aV [] Tryz.func175 (λv=>{v.2.1.1 with dL:=v.2.2.1,dM:=v.2.2.2.1})
def aCE:aS:=bA 102 ⟨Ms,[]⟩ iW (λv=>NV v.1.1 v.1.2.1 v.1.2.2.1) dK
theorem amP:aW aCE:=bN 43 aV [kO aff] Tryz.func102 dx
def ayU:aS:=kV 98 ⟨[(0,u2),(1,u43)],[y5,rT,p68]⟩ aj4 (λv=>R7 ({v.2.1.1 with dL:=v.2.2.1,dM:=v.2.2.2.1}) v.1.2.1) (λr=>((r.1,()),({r.2 with dL:=([]:List mF),dM:=([]:List Int)},(),(),()),r.2.dL,r.2.dM,())) (λv=>(aG,{v.2.1.1 with dL:=v.2.2.1,dM:=v.2.2.2.1}))
theorem amc:aW ayU:=cu 162 aV [kO ayy,kO amP] Tryz.func98 (λv=>(v.1.1,{v.2.1.1 with dL:=v.2.2.1,dM:=v.2.2.2.1})) (.zz 3 (.cut ⟨[],[y5,rT,p68]⟩ (λv=>Rz {v.2.1.1 with dL:=v.2.2.1,dM:=v.2.2.2.1}) .z .z)) (v3 (vC vZ vZ))
def azZ:aS:=bA 99 ⟨[(0,u5),(1,zS)],[]⟩ jC (λv=>Yi v.1.1 v.1.2.1) dK
theorem aza:aW azZ:=cu 19 aV [] Tryz.func99 dx (.two .z (.two (.two .z (.one (.lp ⟨[(0,u5),(1,zS),(7,zS),(8,zS)],[]⟩ (λn v=>Ij v.1.1 v.1.2.1 v.1.2.2.1 n v.1.2.2.2.1) λaPd=> .z))) .z)) (v1 (vS (v1 (vB (vL λ_=>vZ))) vZ))
def ax0:aS:=bA 54 ⟨[(0,u5),(1,zS)],[]⟩ iW (λv=>M8 v.1.1 v.1.2.1) dK
theorem al9:aW ax0:=bN 9 aV [kO aza] Tryz.func54 dx
def ayT:aS:=jk 55 ⟨[(0,u2)],[y5,rT,p68]⟩ aj4 (λv=>aeC ({v.2.1.1 with dL:=v.2.2.1,dM:=v.2.2.2.1})) (λr=>((r.1,()),({r.2 with dL:=([]:List mF),dM:=([]:List Int)},(),(),()),r.2.dL,r.2.dM,())) (λv=>M4 ({v.2.1.1 with dL:=v.2.2.1,dM:=v.2.2.2.1})) (λx v=>(x,{v.2.1.1 with dL:=v.2.2.1,dM:=v.2.2.2.1})) (λ_=>ax5 _)
theorem ax4:aW ayT:=cu 27 aV [] Tryz.func55 (λv=>(v.1.1,{v.2.1.1 with dL:=v.2.2.1,dM:=v.2.2.2.1})) (.two .z (.two (.two .z (.one (.lp ⟨[(0,u2),(8,u22),(9,zS),(10,zS)],[y5,rT,p68]⟩ (λn v=>Ry {v.2.1.1 with dL:=v.2.2.1,dM:=v.2.2.2.1} v.1.2.2.1 n v.1.2.2.2.1) λaO8=> .z))) .z)) (v1 (vS (v1 (vB (vL λ_=>vZ))) vZ))
def aye:aS:=bA 176 jC iW (λv=>amw v.1.1) dK
theorem axx:aW aye:=bN 3 aV [] Tryz.func176 dx
def axO:aS:=kV 52 ⟨[(0,u2),(1,u45),(2,.c (.fn 176 []))],[y5,rT,p68]⟩ ⟨[(0,zS)],[y5,rT,p68]⟩ (λv=>aeg ({v.2.1.1 with dL:=v.2.2.1,dM:=v.2.2.2.1}) v.1.2.1) (λr=>((r.1,()),({r.2 with dL:=([]:List mF),dM:=([]:List Int)},(),(),()),r.2.dL,r.2.dM,())) (λv=>(aG,{v.2.1.1 with dL:=v.2.2.1,dM:=v.2.2.2.1}))
theorem aw9:aW axO:=cu 30 aV [kO amc,kO axx] Tryz.func52 (λv=>(v.1.1,{v.2.1.1 with dL:=v.2.2.1,dM:=v.2.2.2.1})) (.two .z (.two (.two .z (.one (.lp ⟨[(0,u2),(1,u45),(2,.c (.fn 176 [])),(9,u45),(10,zS),(11,zS)],[y5,rT,p68]⟩ (λn v=>Fq v.1.2.1 v.1.2.2.2.1 (bD v.1).1 n {v.2.1.1 with dL:=v.2.2.1,dM:=v.2.2.2.1} (dH v.1).1) λaO6=> .z))) .z)) (v1 (vS (v1 (vB (vL λ_=>vZ))) vZ))
def azA:aS:=kV 100 ⟨[(0,u2),(1,u45)],[y5,rT,p68]⟩ aj4 (λv=>Il ({v.2.1.1 with dL:=v.2.2.1,dM:=v.2.2.2.1}) v.1.2.1) (λr=>((r.1,()),({r.2 with dL:=([]:List mF),dM:=([]:List Int)},(),(),()),r.2.dL,r.2.dM,())) (λv=>(aG,{v.2.1.1 with dL:=v.2.2.1,dM:=v.2.2.2.1}))
theorem amh:aW azA:=bN 11 aV [kO aw9] Tryz.func100 (λv=>(v.1.1,{v.2.1.1 with dL:=v.2.2.1,dM:=v.2.2.2.1}))
def aB8:aS:=bA 56 ⟨akH,[]⟩ iW (λv=>SB v.1.1 v.1.2.1 v.1.2.2.1 v.1.2.2.2.1) dK
theorem aBt:aW aB8:=cu 181 aV [kO adJ,kO amh] Tryz.func56 dx (.zz 7 (.two (.one (.lp ⟨[(3,zS),(4,u2),(6,u8),(9,jO),(10,Ap),(11,zS),(12,zS)],[p51,zO,.bw .jm [(18,.own 3),(19,.own 4)],rT,p68,.bs .eu]⟩ (λn v=>Nv v.2.1 v.2.2.1 v.1.1 (dR v).1 (dH v.1).1 {v.2.2.2.1.1 with dL:=(bD v).1,dM:=(dH v).1} n (dR v.1).1) λaPj=> .z)) .z)) (v7 (vS (vB (vL λ_=>vZ)) vZ))
def aBD:aS:=kV 53 ⟨[(0,zS),(1,u2),(2,u8),(3,u16),(4,sV),(5,.c (.pb 8 0)),(6,.c (.pb 9 0))],[zO,Mh,p68,.bx [zC],.bx [.pb 5 0],akn,rT,p68,p51,p64]⟩ ⟨[(0,u1)],[zO,Mh,p68,.bx [zC],.bx [.pb 5 0],akn,rT,p68,p51,p64]⟩ (λv=>Yq v.1.1 v.2.1 v.2.2.2.1 (bD v).1.1 ({(dR v).1.1 with dL:=(dz v).1,dM:=(fF v).1}) (l7 v).1 (nI v).1) (λr=>((r.1,()),g31 r.2)) (λv=>(aG,v.2.1,v.2.2.2.1,(bD v).1.1,{(dR v).1.1 with dL:=(dz v).1,dM:=(fF v).1},(l7 v).1,(nI v).1))
theorem aAP:aW aBD:=cu 43 aV [kO al9,kO ax4,kO aBt] Tryz.func53 (λv=>(v.1.1,v.2.1,v.2.2.2.1,(bD v).1.1,{(dR v).1.1 with dL:=(dz v).1,dM:=(fF v).1},(l7 v).1,(nI v).1)) (.zz 2 (.cut ⟨[(3,u16)],[zO,Mh,p68,.bx [zC],.bx [.pb 5 0],akn,rT,p68,p51,p64]⟩ (λv=>Nk v.2.1 v.2.2.2.1 {(dR v).1.1 with dL:=(dz v).1,dM:=(fF v).1} (l7 v).1 (nI v).1 (bD v).1.1) .z .z)) (v2 (vC vZ vZ))
end Go.Proofs
