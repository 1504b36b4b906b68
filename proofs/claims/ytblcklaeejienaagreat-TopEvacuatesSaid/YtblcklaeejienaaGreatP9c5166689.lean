/- The walks, printed by tx.py. -/
import Derived.Test.YtblcklaeejienaaGreatP876738022
set_option linter.defProp false
set_option linter.unusedSectionVars false
set_option linter.unusedSimpArgs false
set_option linter.unusedVariables false
namespace Go.Proofs
open Go Go.AM Go.CP Go.RowKit
set_option maxRecDepth 100000
variable [Fuel]
def awE:aR:=jg 268 ⟨[(0,u34),(1,.c (.fn 330 [0]))],[zI]⟩ ⟨[(0,zS)],[zI]⟩ (λv=>adS v.1.1 v.2.1) (λr=>((r.1,()),r.2,())) (λv=>XJ v.1.1 v.2.1) (λx v=>(x,v.2.1)) (λ_=>awy _ _)
theorem awx:aX awE:=cu 19 aW [kO az6] Tryz.func268 (λv=>(v.1.1,v.2.1)) (.two .z (.two (.two .z (.one (.lp ⟨[(0,u34),(1,.c (.fn 330 [0])),(7,zS),(8,zS)],[zI]⟩ (λn v=>Rn v.1.1 v.2.1 v.1.2.2.1 n v.1.2.2.2.1) λaPI=> .z))) .z)) (v1 (vS (v1 (vB (vL λ_=>vZ))) vZ))
def awu:aR:=bB 331 ⟨ac4,[p73]⟩ ⟨[(0,u20)],[.dd,p73]⟩ (λv=>amo v.2.1 v.1.2.1 v.1.2.2.1) (λr=>(((),()),(),r,()))
theorem awt:aX awu:=bM 33 aW [] Tryz.func331 (λv=>v.2.2.1)
def aBh:aR:=jg 333 ⟨[(0,.st .jr),(1,u2)],[zI]⟩ ⟨[(0,u1)],[zI]⟩ (λv=>afj v.1.1 v.2.1) (λr=>((r.1,()),r.2,())) (λv=>Ns v.1.1 v.2.1) (λx v=>(x,v.2.1)) (λ_=>az8 _ _)
theorem am4:aX aBh:=bM 9 aW [] Tryz.func333 (λv=>(v.1.1,v.2.1))
def awJ:aR:=jg 368 ⟨[(0,u35),(1,.c (.fn 333 [0]))],[zI]⟩ ⟨[(0,zS)],[zI]⟩ (λv=>adV v.1.1 v.2.1) (λr=>((r.1,()),r.2,())) (λv=>XL v.1.1 v.2.1) (λx v=>(x,v.2.1)) (λ_=>awH _ _)
theorem awG:aX awJ:=cu 19 aW [kO am4] Tryz.func368 (λv=>(v.1.1,v.2.1)) (.two .z (.two (.two .z (.one (.lp ⟨[(0,u35),(1,.c (.fn 333 [0])),(7,zS),(8,zS)],[zI]⟩ (λn v=>Rp v.1.1 v.2.1 v.1.2.2.1 n v.1.2.2.2.1) λaPJ=> .z))) .z)) (v1 (vS (v1 (vB (vL λ_=>vZ))) vZ))
def awl:aR:=bB 332 ⟨[(0,nZ),(1,.c (.fn 333 [1]))],[p75,zI]⟩ ⟨[(0,u22)],[.dd,zI,p75]⟩ (λv=>amg v.2.1 v.2.2.1) (λr=>(((),()),(),r.2,r.1,()))
theorem awk:aX awl:=cu 42 aW [kO awG,kO am4] Tryz.func332 (λv=>(v.2.2.2.1,v.2.2.1)) (.zz 3 (.two (.two .z (.one (.lp ⟨au4,[p75,zI]⟩ (λn v=>XH v.2.2.1 n v.2.1 v.1.2.2.1 v.1.2.2.2.1) λadN=>.two .z (.cut ⟨au4,[p75,zI]⟩ (λv=>adP (λy1 y2 y3=>adN (((),(),y2,y3,()),y1,v.2.2.1,())) v.1.2.2.2.1 v.2.1 v.1.2.2.1) .z .z)))) .z)) (v3 (vS (v1 (vB (vL λ_=>v1 (vC vZ vZ)))) vZ))
def aCt:aR:=bB 276 ⟨ac7,[.bw .iw [(0,.own 1),(1,.own 2)],p73,p75]⟩ ⟨[(0,zS)],[akT,.dd,.dd,p73,p75]⟩ (λv=>anu (m51 v.2) v.1.2.1) (λr=>((r.1,()),g28 r.2))
theorem aBH:aX aCt:=cu 75 aW [kO Za,kO awx,kO awt,kO awk] Tryz.func276 (λv=>(v.1.1,m53 v.2)) (.zz 2 (.cut ⟨[],[akT,.dd,.dd,p73,p75]⟩ (λv=>Yp (m54 v.2)) .z .z)) (v2 (vC vZ vZ))
def aDM:aR:=bB 213 ⟨[(0,.ag [.pb 0 0,.pb 2 0,.pb 5 0]),(1,u36)],[.bx [.mc 1],.ms,akT,p73,p75,p58]⟩ ⟨[(0,zS)],[.bx [.mc 1],.ms,.bw .iw [(0,.own 6),(1,.own 7)],.dd,.dd,p58,p73,p75]⟩ (λv=>anR (m52 v.2.2) v.1.2.1) (λr=>((r.1,()),g29 r.2))
theorem aC8:aX aDM:=bM 25 aW [kO aAJ,kO aCb,kO aBH] Tryz.func213 (λv=>(v.1.1,m8 v.2.2.1,m55 v.2.2.2,(dR v).1))
def aDh:aR:=bB 128 ⟨ac7,[QH,p60,.bx [.mc 3],.ms,p57,p58,GL,p59]⟩ ⟨[(0,zS)],[akR,.dd,.dd,.dd,.dd,.dd,GL,p59,p60,.bx [.mc 10],.ms,p57,p58]⟩ (λv=>anJ (m11 v.2) v.1.2.1) (λr=>((r.1,()),g30 r.2))
theorem aCI:aX aDh:=bM 48 aW [kO Za,kO anx,kO ani,kO awS,kO aC8] Tryz.func128 (λv=>(v.1.1,m56 v.2))
def aDj:aR:=bB 80 akr atO (λv=>anK (m11 v.2) v.1.2.1 v.1.2.2.1 v.1.2.2.2.1) (λr=>((r.1,()),g30 r.2))
theorem aCK(hD:¬Dr):aX aDj:=cu 82 aW [kO aBt,kO anx,kO (azU hD),kO aCI] Tryz.func80 (λv=>(v.1.1,m56 v.2)) (.zz 6 (.cut ⟨[(0,u2),(7,.c (.pb 13 0)),(8,.c (.pb 14 0)),(9,.c (.pb 15 0)),(10,zS)],[akR,.dd,.dd,.dd,.dd,.dd,GL,p59,p60,.bx [.mc 10],.ms,p57,p58,p74,.bs .kY,.bs .kY]⟩ (λv=>afu (dY (dY v)).1 (bH v.1).1 (m56 v.2)) .z .z)) (v6 (vC vZ vZ))
def aCn:aR:=bB 29 akr atO (λv=>anr (m11 v.2) v.1.2.1 v.1.2.2.1 v.1.2.2.2.1) (λr=>((r.1,()),g30 r.2))
theorem aBz(hD:¬Dr):aX aCn:=bM 112 aW [kO aFt,kO aBC,kO ani,kO anp,kO (aCK hD)] Tryz.func29 (λv=>(v.1.1,m56 v.2))
def aCm:aR:=bB 81 ⟨[(0,u0),(1,u37)],[]⟩ ⟨[(0,u39)],[]⟩ (λv=>anq v.1.1 v.1.2.1) dJ
theorem aBy:aX aCm:=cu 62 aW [kO aev,kO aDD,kO awn,kO axO] Tryz.func81 dw (.zz 3 (.two (.two .z (.one (.lp auh (λn v=>Sr v.1.2.1 v.1.2.2.1 n v.2.1 v.1.2.2.2.1) λaeB=>.zz 2 (.cut auh (λv=>Yl (λy1 y2=>aeB (((),v.1.2.1,v.1.2.2.1,y2,()),y1,())) v.1.2.2.2.1 v.2.1) .z .z)))) .z)) (v3 (vS (v1 (vB (vL λ_=>v2 (vC vZ vZ)))) vZ))
def aBQ:aR:=bB 82 ⟨[(0,u30),(1,zS)],[]⟩ iU (λv=>anh v.1.1 v.1.2.1) dJ
theorem aAL:aX aBQ:=bM 15 aW [] Tryz.func82 dw
def aCP:aR:=bB 30 ⟨[(0,u0),(1,u37),(2,zS),(3,zS)],[]⟩ ⟨[(0,u38),(1,u1)],[]⟩ (λv=>anw v.1.1 v.1.2.1 v.1.2.2.1 v.1.2.2.2.1) (λr=>((r.1,r.2,()),()))
theorem aCc:aX aCP:=cu 33 aW [kO aBy,kO aAL] Tryz.func30 (λv=>(v.1.1,v.1.2.1)) (.two .z (.two (.two .z (.one (.lp ⟨[(2,zS),(3,zS),(8,u2),(14,u39),(15,zS),(16,zS)],[.bs .iM]⟩ (λn v=>ae8 v.1.1 v.1.2.1 v.1.2.2.2.1 (bH v.1).1 n (dH v.1).1) λaP2=> .z))) .z)) (v1 (vS (v1 (vB (vL λ_=>vZ))) vZ))
def aHK:aR:=bB 5 ⟨[],[]⟩ iU (λv=>O9) dJ
theorem aoi(hD:¬Dr):aX aHK:=cu 63 aW [kO aII,kO avZ,kO aC4,kO aC3,kO (aBz hD),kO am2,kO aCc] Tryz.func5 dw (.zz 2 (.two (.cut ⟨[(1,u2),(20,u1)],[Xv,Dh,Mi,GQ,Di,GK,GN,p52,p53,p54,Mk,Mj,Mg,p60,Ml,.ms,p57,p58,QM,p59,Mh,p60,Mq,.ms,p57,p58,QN,p59,p61]⟩ (λv=>Ut v.1.2.1 (m12 v.2)) (.gs [2,8]) .z) .z)) (v2 (vS (vC vG vZ) vZ))
def aGL:aR:=bB 6 yt iU (λv=>DR v.1.1) dJ
theorem an4:aX aGL:=bM 6 aW [] Tryz.func6 dw
def aIz:aR:=bB 31 yt ⟨[(0,u2)],[mQ]⟩ (λv=>Vj v.1.1) (λr=>(((),()),r,()))
theorem aoq:aX aIz:=bM 6 aW [] Tryz.func31 (λv=>v.2.1)
def aDU:aR:=kV 33 ⟨CZ,[mQ]⟩ ⟨[(0,zS)],[mQ]⟩ (λv=>lZ v.2.1 v.1.2.1) (λr=>((r.1,()),r.2,())) (λv=>(aG,v.2.1))
theorem Ky:aX aDU:=bM 53 aW [kO UE] Tryz.func33 (λv=>(v.1.1,v.2.1))
def aEX:aR:=bB 32 ⟨Xe,[]⟩ jD (λv=>Zy v.1.1 v.1.2.1 v.1.2.2.1) dJ
theorem aEf:aX aEX:=bM 15 aW [kO UE] Tryz.func32 dw
def aDr:aR:=kV 34 ⟨G5,[mQ]⟩ ⟨[(0,zS)],[mQ]⟩ (λv=>zf v.2.1 v.1.2.1 v.1.2.2.1) (λr=>((r.1,()),r.2,())) (λv=>(aG,v.2.1))
theorem afy:aX aDr:=bM 15 aW [kO Ky] Tryz.func34 (λv=>(v.1.1,v.2.1))
def aEs:aR:=kV 35 ⟨CZ,[mQ]⟩ ⟨[(0,u1)],[mQ]⟩ (λv=>qM v.2.1 v.1.2.1) (λr=>((r.1,()),r.2,())) (λv=>(aG,v.2.1))
theorem afZ:aX aEs:=bM 9 aW [kO Ky] Tryz.func35 (λv=>(v.1.1,v.2.1))
def aFO:aR:=bB 7 yt yV (λv=>KR v.1.1) dJ
theorem anU:aX aFO:=cu 182 aW [kO aoq,kO Ky,kO aEf,kO afy,kO afZ] Tryz.func7 dw (.zz 3 (.two (.two .z (.one (.lp ⟨[(2,u2),(3,u8),(4,jL),(5,zS)],[MP,mQ,.bw .aN [(1,.own 3),(2,.nl),(3,.nl),(4,.nl),(5,.nl),(6,.nl)],MQ]⟩ (λn v=>TJ n v.2.2.1 (m57 v.2.2.2) v.1.2.2.2.1) λaQl=> .z))) (.two (.two .z (.one (.lp ⟨[(2,u2),(3,u8),(4,jL),(6,zS)],[MP,mQ,.bw .aN [(1,.own 3),(2,.own 4),(3,.nl),(4,.nl),(5,.nl),(6,.nl)],MQ,Ri]⟩ (λn v=>TI n v.2.2.1 (m58 v.2.2.2) v.1.2.2.2.1) λaQk=> .z))) (.two (.two .z (.one (.lp ⟨[(2,u2),(3,u8),(4,jL),(7,zS)],[MP,mQ,o88,MQ,Ri,Xx]⟩ (λn v=>KD n v.2.2.1 (m59 v.2.2.2) v.1.2.2.2.1) λafQ=>.two .z (.two (.one (.zz 2 (.cut ⟨[(2,u2),(3,u8),(4,jL),(7,zS),(9,u9)],[MP,mQ,o88,MQ,Ri,Xx,p69]⟩ (λv=>TD (λy1 y2 y3=>afQ (((),(),(),y3,()),(m60 v.2.1.1,(),(),(),(),(),(),()),y1,(y2,(),(),(),(),(),(),()),y2.iO,y2.aJ,y2.aH,())) (m59 v.2.2.2) v.1.2.2.2.1 v.2.2.1 (dY v).1) .z .z))) .z)))) (.two .z (.two (.two .z (.one (.lp ⟨[(2,u2),(3,u8),(4,jL),(10,zS)],[MP,mQ,.bw .aN [(1,.own 3),(2,.own 4),(3,.own 5),(4,.own 6),(5,.nl),(6,.nl)],MQ,Ri,Xx,.ar (.n .ji)]⟩ (λn v=>TH n v.2.2.1 (m61 v.2.2.2) v.1.2.2.2.1) λaQj=> .z))) (.two (.two .z (.one (.lp ⟨[(2,u2),(3,u8),(4,jL),(12,zS)],[MP,mQ,.bw .aN [(1,.own 3),(2,.own 4),(3,.own 5),(4,.own 6),(5,.own 7),(6,.nl)],MQ,Ri,Xx,.ar (.n .ji),p68]⟩ (λn v=>TG n v.2.2.1 (m62 v.2.2.2) v.1.2.2.2.1) λaQi=> .z))) (.two (.two .z (.one (.lp ⟨[(2,u2),(3,u8),(4,jL),(13,zS)],[MP,mQ,.bw .aN [(1,.own 3),(2,.own 4),(3,.own 5),(4,.own 6),(5,.own 7),(6,.own 8)],MQ,Ri,Xx,.ar (.n .ji),p68,p68]⟩ (λn v=>TF n v.2.2.1 (m63 v.2.2.2) v.1.2.2.2.1) λaQh=> .z))) .z)))))))) (v3 (vS (v1 (vB (vL λ_=>vZ))) (vS (v1 (vB (vL λ_=>vZ))) (vS (v1 (vB (vL λ_=>v1 (vS (vB (v2 (vC vZ vZ))) vZ)))) (v1 (vS (v1 (vB (vL λ_=>vZ))) (vS (v1 (vB (vL λ_=>vZ))) (vS (v1 (vB (vL λ_=>vZ))) vZ))))))))
def aAv:aR:=bB 86 yV ⟨ac3,[p55,p56]⟩ (λv=>aax v.1.1) (λr=>((({r with aH:=([]:List bI),aJ:=([]:List gG)},(),(),()),()),r.aH,r.aJ,()))
theorem azq:aX aAv:=cu 35 aW [] Tryz.func86 (λv=>{v.1.1.1 with aH:=v.2.1,aJ:=v.2.2.1}) (.zz 2 (.two (.two .z (.one (.lp ⟨[(1,u2),(2,u8),(3,jL),(4,zS)],[p51,zF,.bw .aO [(2,.own 3),(3,.nl)],p55]⟩ (λn v=>Uq v.2.1 n {v.2.2.2.1.1 with aH:=(bH v).1,aJ:=[]} v.1.2.2.2.1) λaQD=> .z))) (.two (.two .z (.one (.lp ⟨[(1,u2),(2,u8),(3,jL),(5,zS)],[p51,zF,.bw .aO [(2,.own 3),(3,.own 4)],p55,p56]⟩ (λn v=>Uo v.2.1 n {v.2.2.2.1.1 with aH:=(bH v).1,aJ:=(dH v).1} v.1.2.2.2.1) λaQC=> .z))) .z))) (v2 (vS (v1 (vB (vL λ_=>vZ))) (vS (v1 (vB (vL λ_=>vZ))) vZ)))
def aDT:aR:=kV 87 ⟨[(0,u2)],[mQ]⟩ ⟨[(0,u1)],[mQ]⟩ (λv=>agu v.2.1) (λr=>((r.1,()),r.2,())) (λv=>(aG,v.2.1))
theorem aDf:aX aDT:=bM 13 aW [] Tryz.func87 (λv=>(v.1.1,v.2.1))
def aHz:aR:=bB 145 ⟨Bw,[]⟩ WO (λv=>K6 v.1.1 v.1.2.1) dJ
theorem aoc:aX aHz:=bM 8 aW [] Tryz.func145 dw
def aHC:aR:=bB 21 ⟨Bw,[]⟩ iU (λv=>DW v.1.1 v.1.2.1) dJ
theorem KM:aX aHC:=bM 19 aW [] Tryz.func21 dw
def aEt:aR:=kV 144 ⟨[(0,u2),(1,u0),(2,su),(3,zS)],[mQ]⟩ ⟨[(0,rF)],[mQ]⟩ (λv=>Zf v.2.1 v.1.2.1 v.1.2.2.1 v.1.2.2.2.1) (λr=>((r.1,()),r.2,())) (λv=>(aG,v.2.1))
theorem aDH:aX aEt:=cu 112 aW [kO aoc,kO Ky,kO afy,kO KM] Tryz.func144 (λv=>(v.1.1,v.2.1)) (.zz 4 (.cut ⟨[(8,u8),(9,jL)],[mQ,p65,p65]⟩ (λv=>Ao v.2.1 v.2.2.2.1) (.two .z (.one (.zz 4 (.cut ⟨[(0,u2),(3,zS),(5,u8),(6,jL),(8,u16),(9,uq),(10,zS),(11,Ah),(25,zS),(43,u1)],[mQ,p51,p64,p65,p65,p67]⟩ (λv=>N8 v.2.2.1 v.2.2.2.1 v.1.2.1 (dH v).1 (dR v).1 v.2.1 (dR v.1).1 (gB v.1).1 (nH v.1).1) .z (.two .z (.cut ⟨[(0,u2),(3,zS),(5,u8),(6,jL),(8,u16),(9,uq),(10,zS),(11,Ah),(25,zS),(56,u1)],[mQ,p51,p64,p65,p65,p67]⟩ (λv=>N7 v.2.2.1 v.2.2.2.1 v.1.2.1 (dH v).1 (dR v).1 v.2.1 (dR v.1).1 (gB v.1).1 (nH v.1).1) .z .z)))))) .z)) (v4 (vC (v1 (vB (v1 (vD vZ (v1 (vD vZ (vC vZ (vD vZ (vC vZ vZ))))))))) vZ))
def aEZ:aR:=bB 339 ⟨G7,[]⟩ jD (λv=>agK v.1.1 v.1.2.1) dJ
theorem aEh:aX aEZ:=bM 20 aW [] Tryz.func339 dw
def aDV:aR:=bB 288 ⟨G7,[]⟩ jD (λv=>KE v.1.1 v.1.2.1) dJ
theorem afS:aX aDV:=bM 17 aW [kO aEh] Tryz.func288 dw
def aHD:aR:=bB 223 ⟨JI,[]⟩ iU (λv=>F9 v.1.1 v.1.2.1 v.1.2.2.1) dJ
theorem Un:aX aHD:=bM 28 aW [kO afS,kO KM] Tryz.func223 dw
def aFQ:aR:=bB 147 ⟨G7,[]⟩ yt (λv=>UH v.1.1 v.1.2.1) dJ
theorem aEO:aX aFQ:=cu 23 aW [kO Un] Tryz.func147 dw (.zz 2 (.two (.two .z (.one (.lp aug (λn v=>Oq v.2.1 v.1.1 n v.2.2.1 v.1.2.2.2.1) λafR=>.two .z (.cut aug (λv=>Y2 (λy1 y2=>afR ((v.1.1,(),(),y2,()),v.2.1,y1,())) v.1.2.2.2.1 v.2.2.1) .z .z)))) .z)) (v2 (vS (v1 (vB (vL λ_=>v1 (vC vZ vZ)))) vZ))
def aHA:aR:=kV 146 ⟨[(0,u2),(1,u5)],[mQ]⟩ ⟨[(0,zS)],[mQ]⟩ (λv=>K7 v.2.1 v.1.2.1) (λr=>((r.1,()),r.2,())) (λv=>(aG,v.2.1))
theorem aGl:aX aHA:=bM 15 aW [kO Ky] Tryz.func146 (λv=>(v.1.1,v.2.1))
def aFP:aR:=bB 224 ⟨JI,[]⟩ iU (λv=>UG v.1.1 v.1.2.1 v.1.2.2.1) dJ
theorem anV:aX aFP:=bM 26 aW [kO afS] Tryz.func224 dw
def aDW:aR:=bB 148 ⟨JI,[]⟩ yt (λv=>TL v.1.1 v.1.2.1 v.1.2.2.1) dJ
theorem aDg:aX aDW:=cu 31 aW [kO Un,kO anV] Tryz.func148 dw (.zz 2 (.two (.two .z (.one (.lp ⟨avg,[p51,p68]⟩ (λn v=>NV v.2.1 v.1.1 v.1.2.1 n v.2.2.1 (bH v.1).1) λae0=>.two .z (.cut ⟨avg,[p51,p68]⟩ (λv=>YG (λy1 y2=>ae0 ((v.1.1,v.1.2.1,(),(),y2,()),v.2.1,y1,())) (bH v.1).1 v.2.2.1) .z .z)))) .z)) (v2 (vS (v1 (vB (vL λ_=>v1 (vC vZ vZ)))) vZ))
def aGM:aR:=kV 149 ⟨[(0,u2),(1,u0),(2,su),(3,rF)],[mQ]⟩ ⟨[(0,rF)],[mQ]⟩ (λv=>aac v.2.1 v.1.2.1 v.1.2.2.1 v.1.2.2.2.1) (λr=>((r.1,()),r.2,())) (λv=>(aG,v.2.1))
theorem aFC:aX aGM:=cu 129 aW [kO afZ,kO Ky,kO afy] Tryz.func149 (λv=>(v.1.1,v.2.1)) (.zz 3 (.cut akt (λv=>OB v.2.2.1 v.2.2.2.1 (dR v).1 v.2.1 (bH v).1) .z (.two .z (.cut akt (λv=>Uf v.2.2.1 v.2.2.2.1 (dR v).1 v.2.1 (bH v).1) .z (.cut akt (λv=>Ue v.2.2.1 v.2.2.2.1 (dR v).1 v.2.1 (bH v).1) .z (.two .z (.cut ⟨[(0,u2),(5,u8),(6,jL),(7,u16),(8,uq)],[mQ,p51,p64,p65,p65]⟩ (λv=>Ud v.2.2.1 v.2.2.2.1 v.2.1 (bH v).1) .z (.zz 2 (.cut ⟨[(7,u8),(8,jL)],[mQ,p65,p65]⟩ (λv=>Ze v.2.1 v.2.2.1) .z .z))))))))) (v3 (vC vZ (v1 (vC vZ (vC vZ (v1 (vC vZ (v2 (vC vZ vZ)))))))))
def aGK:aR:=kV 88 ⟨[(0,u2),(1,u0),(2,su)],[mQ]⟩ ⟨[(0,rF)],[mQ]⟩ (λv=>Z9 v.2.1 v.1.2.1 v.1.2.2.1) (λr=>((r.1,()),r.2,())) (λv=>(aG,v.2.1))
theorem aFB:aX aGK:=cu 126 aW [kO Ky,kO afZ,kO aDH,kO aoc,kO aEO,kO aGl,kO aDg,kO aFC] Tryz.func88 (λv=>(v.1.1,v.2.1)) (.zz 2 (.cut ⟨[(0,u2),(4,u8),(5,jL),(6,u16),(7,zS)],[mQ,p51,p64,p65]⟩ (λv=>Uc v.2.2.1 v.2.2.2.1 v.2.1 (bH v.1).1) .z (.zz 6 (.cut ⟨[(6,u8),(11,jL)],[mQ,p65,p65]⟩ (λv=>FV v.2.1 v.2.2.2.1) .z .z)))) (v2 (vC vZ (v6 (vC vZ vZ))))
def aIA:aR:=bB 289 ⟨Xe,[]⟩ iU (λv=>wH v.1.1 v.1.2.1 v.1.2.2.1) dJ
theorem agV:aX aIA:=bM 15 aW [] Tryz.func289 dw
def aGO:aR:=bB 370 jD WR (λv=>ahh v.1.1) dJ
theorem aFE:aX aGO:=bM 17 aW [] Tryz.func370 dw
def aHE:aR:=bB 340 ⟨[(0,zS),(1,.c (.ty (.i .u8)))],[]⟩ iU (λv=>rJ v.1.1 v.1.2.1) dJ
theorem aoe:aX aHE:=cu 20 aW [kO aFE] Tryz.func340 dw (.zz 2 (.two (.two .z (.one (.lp ⟨[(1,.c (.ty (.i .u8))),(5,u32),(6,zS)],[]⟩ (λn v=>Zz v.1.1 v.1.2.1 n v.1.2.2.1) λaQB=> .z))) .z)) (v2 (vS (v1 (vB (vL λ_=>vZ))) vZ))
def aE0:aR:=bB 290 ⟨[(0,rF),(1,zS),(2,zS),(3,zS)],[]⟩ iU (λv=>OL v.1.1 v.1.2.1 v.1.2.2.1 v.1.2.2.2.1) dJ
theorem aEi:aX aE0:=cu 105 aW [kO aoe,kO agV] Tryz.func290 dw (.zz 3 (.two (.one (.cut ⟨[(2,zS),(3,zS),(4,u2),(9,zS),(30,u1)],[p65]⟩ (λv=>Tx v.2.1 v.1.1 v.1.2.1 v.1.2.2.2.1 (bH v.1).1) .z (.two .z (.cut ⟨[(64,u1)],[]⟩ (λv=>Tw v.1.1) .z .z)))) .z)) (v3 (vS (vB (vC vZ (vD vZ (vC vZ vZ)))) vZ))
def aEu:aR:=bB 291 aky iU (λv=>OC v.1.1 v.1.2.1) dJ
theorem aDI:aX aEu:=cu 82 aW [kO aoe,kO agV] Tryz.func291 dw (.zz 2 (.two (.one (.cut ⟨[(1,zS),(2,u2),(5,zS),(8,u1)],[p65]⟩ (λv=>YL v.2.1 v.1.1 v.1.2.2.1 v.1.2.2.2.1) .z (.two .z (.cut ⟨[(1,zS),(2,u2),(5,zS),(25,u1)],[p65]⟩ (λv=>Tg v.2.1 v.1.1 v.1.2.2.1 v.1.2.2.2.1) .z .z)))) .z)) (v2 (vS (vB (vC vZ (vD vZ (vC vZ vZ)))) vZ))
def aFS:aR:=bB 225 ⟨[(0,rF),(1,zS),(2,zS),(3,zS),(4,zS)],[]⟩ iU (λv=>agW v.1.1 v.1.2.1 v.1.2.2.1 v.1.2.2.2.1 (bH v.1).1) dJ
theorem aEQ:aX aFS:=bM 31 aW [kO agV,kO aEi,kO aDI] Tryz.func225 dw
def aFR:aR:=bB 150 ⟨[(0,u0),(1,rF)],[]⟩ iU (λv=>OW v.1.1 v.1.2.1) dJ
theorem aEP:aX aFR:=bM 22 aW [kO aEQ] Tryz.func150 dw
def aBm:aR:=bB 151 jD ⟨ala,[p55,p56]⟩ (λv=>jM v.1.1) (λr=>((({r.1 with aH:=([]:List bI),aJ:=([]:List gG)},(),(),()),r.2,()),r.1.aH,r.1.aJ,()))
theorem zM:aX aBm:=bM 6 aW [] Tryz.func151 (λv=>({v.1.1.1 with aH:=v.2.1,aJ:=v.2.2.1},v.1.2.1))
def ayz:aR:=bB 152 ⟨[(0,su)],[]⟩ ⟨ac3,[p55,p56]⟩ (λv=>ZB v.1.1) (λr=>((({r with aH:=([]:List bI),aJ:=([]:List gG)},(),(),()),()),r.aH,r.aJ,()))
theorem axX:aX ayz:=bM 14 aW [] Tryz.func152 (λv=>{v.1.1.1 with aH:=v.2.1,aJ:=v.2.2.1})
def aE1:aR:=bB 226 ⟨GZ,[]⟩ iU (λv=>KN v.1.1 v.1.2.1 v.1.2.2.1) dJ
theorem agj:aX aE1:=bM 13 aW [kO afS,kO KM] Tryz.func226 dw
def aDX:aR:=bB 227 ⟨JI,[]⟩ iU (λv=>IG v.1.1 v.1.2.1 v.1.2.2.1) dJ
theorem afT:aX aDX:=bM 20 aW [kO anV] Tryz.func227 dw
def aHF:aR:=kV 371 ⟨ac4,[p68]⟩ ⟨[],[p68]⟩ (λv=>Lb v.2.1 v.1.2.1 v.1.2.2.1) (λr=>((),r,())) (λv=>v.2.1)
theorem aGp:aX aHF:=bM 23 aW [] Tryz.func371 (λv=>v.2.1)
def aBl:aR:=bB 341 ⟨G6,[]⟩ EK (λv=>ZA v.1.1 v.1.2.1) (λr=>(((),()),r,()))
theorem aAe:aX aBl:=cu 61 aW [kO aGp] Tryz.func341 (λv=>v.2.1) (.zz 2 (.two (.two .z (.one (.lp at7 (λn v=>IB v.2.1 v.2.2.1 n v.2.2.2.1 v.1.2.2.2.1) λNS=>.two .z (.cut at7 (λv=>YQ (λy1 y2=>NS (((),(),(),y2,()),v.2.1,v.2.2.1,y1,())) v.1.2.2.2.1 v.2.2.2.1) (.one (.zz 2 (.cut ⟨[(2,u2),(3,u8),(5,u22),(6,zS),(7,u16),(8,uq)],[p51,p64,p68,p66,p69]⟩ (λv=>YR (λy1 y2=>NS (((),(),(),y2,()),v.2.1,v.2.2.1,y1,())) v.1.2.2.2.1 (bH v).1 (dH v).1 v.2.2.2.1) .z .z))) .z)))) .z)) (v2 (vS (v1 (vB (vL λ_=>v1 (vC (vB (v2 (vC vZ vZ))) vZ)))) vZ))
def aCy:aR:=bB 292 ⟨G6,[]⟩ EK (λv=>aae v.1.1 v.1.2.1) (λr=>(((),()),r,()))
theorem aBP:aX aCy:=cu 33 aW [kO aAe] Tryz.func292 (λv=>v.2.1) (.zz 3 (.two (.two .z (.one (.lp at5 (λn v=>KI v.2.1 v.2.2.2.1 n v.2.2.1 v.1.2.2.2.1) λaf6=>.two .z (.cut at5 (λv=>Zg (λy1 y2=>af6 (((),(),(),y2,()),v.2.1,y1,v.2.2.2.1,())) v.1.2.2.2.1 v.2.2.1) .z .z)))) .z)) (v3 (vS (v1 (vB (vL λ_=>v1 (vC vZ vZ)))) vZ))
def aAx:aR:=bB 228 ⟨au1,[p55,p56]⟩ Ad (λv=>Ga v.1.1 ({v.1.2.1.1 with aH:=v.2.1,aJ:=v.2.2.1})) (λr=>((({r.1 with aH:=([]:List bI),aJ:=([]:List gG)},(),(),()),r.2,()),(),(),r.1.aH,r.1.aJ,()))
theorem R9:aX aAx:=bM 13 aW [kO aBP] Tryz.func228 (λv=>({v.1.1.1 with aH:=v.2.2.2.1,aJ:=(bH v).1},v.1.2.1))
def ay6:aR:=bB 153 Ma Ad (λv=>ZQ v.1.1 ({v.1.2.1.1 with aH:=v.2.1,aJ:=v.2.2.1}) v.1.2.2.1) (λr=>((({r.1 with aH:=([]:List bI),aJ:=([]:List gG)},(),(),()),r.2,()),(),(),r.1.aH,r.1.aJ,()))
theorem ayl:aX ay6:=bM 119 aW [kO zM,kO agj,kO Un,kO afT,kO R9] Tryz.func153 (λv=>({v.1.1.1 with aH:=v.2.2.2.1,aJ:=(bH v).1},v.1.2.1))
def aEv:aR:=bB 229 ⟨CY,[]⟩ jD (λv=>Zi v.1.1 v.1.2.1 v.1.2.2.1) dJ
theorem aDJ:aX aEv:=bM 134 aW [] Tryz.func229 dw
def ay5:aR:=bB 154 Ma Ad (λv=>ZP v.1.1 ({v.1.2.1.1 with aH:=v.2.1,aJ:=v.2.2.1}) v.1.2.2.1) (λr=>((({r.1 with aH:=([]:List bI),aJ:=([]:List gG)},(),(),()),r.2,()),(),(),r.1.aH,r.1.aJ,()))
theorem ayk:aX ay5:=cu 141 aW [kO zM,kO aDJ,kO R9] Tryz.func154 (λv=>({v.1.1.1 with aH:=v.2.2.2.1,aJ:=(bH v).1},v.1.2.1)) (.zz 7 (.cut ⟨[(3,jL),(4,u16),(6,uq)],[p55,p56,p51,QL,zF]⟩ (λv=>TM v.2.2.2.1 {(bH v).1.1 with aH:=v.2.1,aJ:=v.2.2.1}) .z .z)) (v7 (vC vZ vZ))
def aHG:aR:=bB 230 ⟨[(0,u30),(1,zS)],[]⟩ ⟨[(0,u30)],[]⟩ (λv=>ahF v.1.1 v.1.2.1) dJ
theorem aGr:aX aHG:=bM 18 aW [] Tryz.func230 dw
def aAw:aR:=bB 155 ⟨ac2,[p55,p56]⟩ Ad (λv=>aay ({v.1.1.1 with aH:=v.2.1,aJ:=v.2.2.1}) v.1.2.1) (λr=>((({r.1 with aH:=([]:List bI),aJ:=([]:List gG)},(),(),()),r.2,()),(),(),r.1.aH,r.1.aJ,()))
theorem azr:aX aAw:=bM 43 aW [kO zM,kO aGr] Tryz.func155 (λv=>({v.1.1.1 with aH:=v.2.2.2.1,aJ:=(bH v).1},v.1.2.1))
def ax4:aR:=bB 156 Ma Ad (λv=>Zk v.1.1 ({v.1.2.1.1 with aH:=v.2.1,aJ:=v.2.2.1}) v.1.2.2.1) (λr=>((({r.1 with aH:=([]:List bI),aJ:=([]:List gG)},(),(),()),r.2,()),(),(),r.1.aH,r.1.aJ,()))
theorem axE:aX ax4:=cu 118 aW [kO zM,kO agj,kO Un,kO afT,kO R9] Tryz.func156 (λv=>({v.1.1.1 with aH:=v.2.2.2.1,aJ:=(bH v).1},v.1.2.1)) (.zz 2 (.cut ⟨[(3,jL),(4,u16),(5,uq),(6,Ah),(8,u21)],[p55,p56,p51,QL,p65,zF]⟩ (λv=>YM v.2.2.2.1 {(bH v).1.1 with aH:=v.2.1,aJ:=v.2.2.1} (dH v).1 (bH v.1).1) .z .z)) (v2 (vC vZ vZ))
def ay8:aR:=bB 157 ⟨ac2,[p55,p56]⟩ Ad (λv=>ZT ({v.1.1.1 with aH:=v.2.1,aJ:=v.2.2.1}) v.1.2.1) (λr=>((({r.1 with aH:=([]:List bI),aJ:=([]:List gG)},(),(),()),r.2,()),(),(),r.1.aH,r.1.aJ,()))
theorem ayn:aX ay8:=bM 53 aW [kO zM] Tryz.func157 (λv=>({v.1.1.1 with aH:=v.2.2.2.1,aJ:=(bH v).1},v.1.2.1))
def ax3:aR:=bB 158 Ma Ad (λv=>Zj v.1.1 ({v.1.2.1.1 with aH:=v.2.1,aJ:=v.2.2.1}) v.1.2.2.1) (λr=>((({r.1 with aH:=([]:List bI),aJ:=([]:List gG)},(),(),()),r.2,()),(),(),r.1.aH,r.1.aJ,()))
theorem axD:aX ax3:=bM 127 aW [kO zM,kO agj,kO Un,kO afT,kO R9] Tryz.func158 (λv=>({v.1.1.1 with aH:=v.2.2.2.1,aJ:=(bH v).1},v.1.2.1))
def ax2:aR:=bB 159 ⟨ac2,[p55,p56]⟩ Ad (λv=>Zh ({v.1.1.1 with aH:=v.2.1,aJ:=v.2.2.1}) v.1.2.1) (λr=>((({r.1 with aH:=([]:List bI),aJ:=([]:List gG)},(),(),()),r.2,()),(),(),r.1.aH,r.1.aJ,()))
theorem axC:aX ax2:=bM 31 aW [kO zM] Tryz.func159 (λv=>({v.1.1.1 with aH:=v.2.2.2.1,aJ:=(bH v).1},v.1.2.1))
def azM:aR:=bB 160 Ma Ad (λv=>aah v.1.1 ({v.1.2.1.1 with aH:=v.2.1,aJ:=v.2.2.1}) v.1.2.2.1) (λr=>((({r.1 with aH:=([]:List bI),aJ:=([]:List gG)},(),(),()),r.2,()),(),(),r.1.aH,r.1.aJ,()))
theorem ayU:aX azM:=bM 82 aW [kO zM,kO R9] Tryz.func160 (λv=>({v.1.1.1 with aH:=v.2.2.2.1,aJ:=(bH v).1},v.1.2.1))
def aE2:aR:=bB 232 ⟨ac5,[]⟩ iU (λv=>FZ v.1.1 v.1.2.1) dJ
theorem YS:aX aE2:=bM 9 aW [kO KM] Tryz.func232 dw
def aGP:aR:=bB 231 ⟨ac5,[]⟩ iU (λv=>aaf v.1.1 v.1.2.1) dJ
theorem aFF:aX aGP:=bM 25 aW [kO YS] Tryz.func231 dw
def azN:aR:=bB 161 Ma Ad (λv=>aai v.1.1 ({v.1.2.1.1 with aH:=v.2.1,aJ:=v.2.2.1}) v.1.2.2.1) (λr=>((({r.1 with aH:=([]:List bI),aJ:=([]:List gG)},(),(),()),r.2,()),(),(),r.1.aH,r.1.aJ,()))
theorem ayV:aX azN:=cu 121 aW [kO aFF,kO zM,kO YS] Tryz.func161 (λv=>({v.1.1.1 with aH:=v.2.2.2.1,aJ:=(bH v).1},v.1.2.1)) (.zz 4 (.two (.two .z (.one (.lp at6 (λn v=>OE v.2.2.2.1 {(bH v).1.1 with aH:=v.2.1,aJ:=v.2.2.1} (dH v).1 (dY v).1 (bH v.1).1 n (dR v.1).1 (dY v.1).1) λaf7=>.two .z (.cut at6 (λv=>Zl (λy1 y2=>af7 (((),(),(),(),(bH v.1).1,(),y1,y2,()),{(bH v).1.1 with aH:=v.2.1,aJ:=v.2.2.1}.aH,{(bH v).1.1 with aH:=v.2.1,aJ:=v.2.2.1}.aJ,v.2.2.2.1,({(bH v).1.1 with aH:=v.2.1,aJ:=v.2.2.1},(),(),()),(dH v).1,({(dR v).1.1 with aH:=[],aJ:=[]},(),(),()),(dY v).1,())) (dY v.1).1 (dR v.1).1) .z .z)))) .z)) (v4 (vS (v1 (vB (vL λ_=>v1 (vC vZ vZ)))) vZ))
def azL:aR:=bB 162 ⟨ac2,[p55,p56]⟩ Ad (λv=>aag ({v.1.1.1 with aH:=v.2.1,aJ:=v.2.2.1}) v.1.2.1) (λr=>((({r.1 with aH:=([]:List bI),aJ:=([]:List gG)},(),(),()),r.2,()),(),(),r.1.aH,r.1.aJ,()))
theorem ayT:aX azL:=cu 89 aW [kO zM,kO YS] Tryz.func162 (λv=>({v.1.1.1 with aH:=v.2.2.2.1,aJ:=(bH v).1},v.1.2.1)) (.zz 3 (.two (.two .z (.one (.lp ⟨[(2,jL),(3,u16),(4,uq),(6,.c (.pe 1 0)),(7,zS)],[p55,p56,QL,p65,zF]⟩ (λn v=>OD {v.2.2.2.1.1 with aH:=v.2.1,aJ:=v.2.2.1} (bH v).1 v.1.2.2.2.1 n (bH v.1).1) λaQw=> .z))) .z)) (v3 (vS (v1 (vB (vL λ_=>vZ))) vZ))
def ay7:aR:=bB 163 Ma Ad (λv=>ZR v.1.1 ({v.1.2.1.1 with aH:=v.2.1,aJ:=v.2.2.1}) v.1.2.2.1) (λr=>((({r.1 with aH:=([]:List bI),aJ:=([]:List gG)},(),(),()),r.2,()),(),(),r.1.aH,r.1.aJ,()))
theorem aym:aX ay7:=cu 68 aW [kO YS,kO zM] Tryz.func163 (λv=>({v.1.1.1 with aH:=v.2.2.2.1,aJ:=(bH v).1},v.1.2.1)) (.zz 2 (.two (.two .z (.one (.lp ⟨[(3,jL),(4,u16),(5,uq),(6,Ah),(8,zS)],[p55,p56,p51,QL,p65,zF]⟩ (λn v=>Ot v.2.2.2.1 {(bH v).1.1 with aH:=v.2.1,aJ:=v.2.2.1} (dH v).1 n (bH v.1).1) λaQm=> .z))) .z)) (v2 (vS (v1 (vB (vL λ_=>vZ))) vZ))
def ayA:aR:=bB 164 ⟨au1,[p55,p56]⟩ Ad (λv=>ZE v.1.1 ({v.1.2.1.1 with aH:=v.2.1,aJ:=v.2.2.1})) (λr=>((({r.1 with aH:=([]:List bI),aJ:=([]:List gG)},(),(),()),r.2,()),(),(),r.1.aH,r.1.aJ,()))
theorem axY:aX ayA:=cu 66 aW [kO zM] Tryz.func164 (λv=>({v.1.1.1 with aH:=v.2.2.2.1,aJ:=(bH v).1},v.1.2.1)) (.zz 2 (.two (.two .z (.one (.lp ⟨[(2,jL),(3,u16),(4,uq),(6,zS)],[p55,p56,p51,QL,zF]⟩ (λn v=>Oh v.2.2.2.1 {(bH v).1.1 with aH:=v.2.1,aJ:=v.2.2.1} n v.1.2.2.2.1) λaQc=> .z))) .z)) (v2 (vS (v1 (vB (vL λ_=>vZ))) vZ))
def ay4:aR:=bB 89 ⟨CY,[]⟩ ⟨ala,[p55,p56]⟩ (λv=>ZO v.1.1 v.1.2.1 v.1.2.2.1) (λr=>((({r.1 with aH:=([]:List bI),aJ:=([]:List gG)},(),(),()),r.2,()),r.1.aH,r.1.aJ,()))
theorem ayj:aX ay4:=cu 201 aW [kO aEP,kO zM,kO axX,kO ayl,kO ayk,kO azr,kO axE,kO ayn,kO axD,kO axC,kO ayU,kO ayV,kO ayT,kO aym,kO KM,kO axY] Tryz.func89 (λv=>({v.1.1.1 with aH:=v.2.1,aJ:=v.2.2.1},v.1.2.1)) (.zz 4 (.cut ⟨[(4,u2),(6,u16)],[akU,p55,p56,zF]⟩ (λv=>FQ {v.2.1.1 with aH:=v.2.2.1,aJ:=v.2.2.2.1}) .z .z)) (v4 (vC vZ vZ))
def aDq:aR:=bB 37 ⟨[(0,u5),(1,u0),(2,zS)],[]⟩ ⟨[(0,nZ)],[p72]⟩ (λv=>Vi v.1.1 v.1.2.1 v.1.2.2.1) (λr=>(((),()),r,()))
theorem anl:aX aDq:=cu 44 aW [kO aoq,kO azq,kO aDf,kO aFB,kO ayj] Tryz.func37 (λv=>v.2.1) (.zz 4 (.two (.one (.lp ⟨avd,[p51,mQ,p64,p72]⟩ (λn v=>UD v.2.1 v.1.1 n v.2.2.1 v.2.2.2.1 (bH v).1) λY1=>.cut ⟨avd,[p51,mQ,p64,p72]⟩ (λv=>agS (λy1 y2 y3=>Y1 ((v.1.1,(),(),(),(),()),v.2.1,y1,y2,y3,())) v.2.1 v.2.2.2.1 (bH v).1 v.2.2.1) .z .z)) .z)) (v4 (vS (vB (vL λ_=>vC vZ vZ)) vZ))
def av9:aR:=bB 8 ⟨[(0,u0),(1,u5),(2,zS)],[]⟩ WH (λv=>Pb v.1.1 v.1.2.1 v.1.2.2.1) (λr=>(((),()),g4 r))
theorem av7:aX av9:=cu 65 aW [kO al8,kO anl,kO Yc,kO Sw] Tryz.func8 (λv=>m7 v.2) (.zz 4 (.two (.two .z (.one (.lp ⟨[(3,u2),(7,u8),(9,.c (.own 10)),(10,zS)],[p51,Dh,Mi,GQ,Di,GK,GN,p52,p53,p54,p72]⟩ (λn v=>IW v.2.1 (jO v).1 n v.1.2.2.2.1 (m7 v.2.2)) λaEg=> .z))) .z)) (v4 (vS (v1 (vB (vL λ_=>vZ))) vZ))
def aFN:aR:=bB 67 ⟨[(0,u0),(1,.st .bI),(2,zS)],[]⟩ iU (λv=>UC v.1.1 v.1.2.1 v.1.2.2.1) dJ
theorem anT:aX aFN:=bM 21 aW [kO anS,kO Ap] Tryz.func67 dw
def aGH:aR:=bB 64 ⟨GZ,[]⟩ yt (λv=>Z7 v.1.1 v.1.2.1 v.1.2.2.1) dJ
theorem aFz:aX aGH:=cu 54 aW [kO agx,kO anT,kO agn,kO aoo] Tryz.func64 dw (.zz 2 (.two (.two .z (.one (.lp ⟨auY,[p51,p64,p68]⟩ (λn v=>OA v.2.1 v.2.2.1 v.1.1 (bH v.1).1 n v.2.2.2.1 (dH v.1).1) λaf5=>.zz 2 (.cut ⟨auY,[p51,p64,p68]⟩ (λv=>Zd (λy1 y2=>af5 ((v.1.1,(),(),(),(bH v.1).1,y2,()),v.2.1,v.2.2.1,y1,())) (dH v.1).1 v.2.2.2.1) .z .z)))) .z)) (v2 (vS (v1 (vB (vL λ_=>v2 (vC vZ vZ)))) vZ))
def aGJ:aR:=bB 68 ⟨[(0,u0),(1,su),(2,.st .bI),(3,zS)],[]⟩ iU (λv=>Z8 v.1.1 v.1.2.1 v.1.2.2.1 v.1.2.2.2.1) dJ
theorem aFA:aX aGJ:=bM 55 aW [kO Ap] Tryz.func68 dw
def aEr:aR:=bB 20 ⟨GZ,[]⟩ iU (λv=>Ub v.1.1 v.1.2.1 v.1.2.2.1) dJ
theorem anA:aX aEr:=cu 80 aW [kO Sm,kO aFz,kO Ap,kO agx,kO anT,kO aFA] Tryz.func20 dw (.zz 3 (.two (.two .z (.one (.lp ⟨[(2,zS),(3,u2),(4,u8),(7,u22),(8,u5),(29,u4),(30,zS),(31,zS)],[p51,p64,p68]⟩ (λn v=>NZ v.2.1 v.2.2.1 v.1.1 v.2.2.2.1 (bH v.1).1 (dH v.1).1 (dR v.1).1 n (dY v.1).1) λaP9=> .z))) (.two (.two .z (.one (.lp ⟨[(2,zS),(3,u2),(4,u8),(58,zS),(59,zS)],[p51,p64]⟩ (λn v=>Te v.2.1 v.2.2.1 v.1.1 v.1.2.2.2.1 n (bH v.1).1) λaP8=> .z))) .z))) (v3 (vS (v1 (vB (vL λ_=>vZ))) (vS (v1 (vB (vL λ_=>vZ))) vZ)))
def aF3:aR:=bB 39 ⟨JI,[]⟩ iU (λv=>ZW v.1.1 v.1.2.1 v.1.2.2.1) dJ
theorem aFm:aX aF3:=bM 20 aW [kO Ov] Tryz.func39 dw
def aEE:aR:=bB 10 ⟨G7,[]⟩ iU (λv=>Uk v.1.1 v.1.2.1) dJ
theorem anI:aX aEE:=cu 31 aW [kO anc,kO aFm] Tryz.func10 dw (.zz 2 (.two (.two .z (.one (.lp ⟨au2,[p51]⟩ (λn v=>KA v.2.1 v.1.1 v.1.2.2.2.1 (bH v.1).1 n v.1.2.2.1 (dH v.1).1) λafp=>.zz 2 (.cut ⟨au2,[p51]⟩ (λv=>YP (λy1 y2=>afp ((v.1.1,(),y1,v.1.2.2.2.1,(bH v.1).1,y2,()),v.2.1,())) (dH v.1).1 v.1.2.2.1) .z .z)))) .z)) (v2 (vS (v1 (vB (vL λ_=>v2 (vC vZ vZ)))) vZ))
def aCU:aR:=bB 93 acE atS (λv=>anB (m7 v.2) v.1.2.1) (λr=>((r.1,()),g22 r.2))
theorem aCh:aX aCU:=bM 39 aW [kO afh,kO anf] Tryz.func93 (λv=>(v.1.1,Rf v.2))
def aCV:aR:=bB 41 acE atS (λv=>Tf (m7 v.2) v.1.2.1) (λr=>((r.1,()),g22 r.2))
theorem aCi:aX aCV:=cu 40 aW [kO aCh] Tryz.func41 (λv=>(v.1.1,Rf v.2)) (.zz 2 (.two (.two .z (.one (.lp atT (λn v=>NN v.1.2.1 v.1.2.2.2.1 (bH v.1).1 n v.1.2.2.1 (dH v.1).1 (m32 v.2)) λDy=>.zz 2 (.cut atT (λv=>NM (λy1 y2 y3=>Dy (((),v.1.2.1,y1,v.1.2.2.2.1,(bH v.1).1,y2,()),g38 y3)) (dH v.1).1 v.1.2.2.1 (m32 v.2)) (.one (.two .z (.cut ⟨auU,[kR,QK,sV,kS,ES,xw,.dd,.dd,.dd,p54,p53,p52]⟩ (λv=>Ik (λy1 y2 y3=>Dy (((),v.1.2.1,y1,v.1.2.2.2.1,(bH v.1).1,y2,()),g38 y3)) v.1.2.2.1 (dH v.1).1 (dR v.1).1 (m32 v.2)) (.gs [11]) .z))) .z)))) .z)) (v2 (vS (v1 (vB (vL λ_=>v2 (vC (vB (v1 (vC vG vZ))) vZ)))) vZ))
def aED:aR:=bB 42 ⟨G7,[]⟩ yt (λv=>Uj v.1.1 v.1.2.1) dJ
theorem anH:aX aED:=cu 24 aW [kO Ap] Tryz.func42 dw (.zz 2 (.two (.two .z (.one (.lp ⟨ave,[p51,p68]⟩ (λn v=>FN v.2.1 v.1.1 v.1.2.2.2.1 n v.2.2.1 (bH v.1).1) λafo=>.zz 2 (.cut ⟨ave,[p51,p68]⟩ (λv=>YO (λy1 y2=>afo ((v.1.1,(),(),v.1.2.2.2.1,y2,()),v.2.1,y1,())) (bH v.1).1 v.2.2.1) .z .z)))) .z)) (v2 (vS (v1 (vB (vL λ_=>v2 (vC vZ vZ)))) vZ))
def aIC:aR:=bB 43 ⟨Bw,[]⟩ WO (λv=>Vp v.1.1 v.1.2.1) dJ
theorem aoF:aX aIC:=bM 8 aW [] Tryz.func43 dw
def aIB:aR:=bB 11 ⟨[(0,u0),(1,u2),(2,zS)],[kR,CJ,sV,kS,rT,qg,p52,p53,p54]⟩ atQ (λv=>aaX v.1.1 (m7 v.2) v.1.2.2.1) (λr=>((r.1,()),g22 r.2))
theorem aHQ:aX aIB:=cu 69 aW [kO aCi,kO Sw,kO anH,kO aoF,kO Yc] Tryz.func11 (λv=>(v.1.1,Rf v.2)) (.zz 4 (.two (.two .z (.one (.lp atK (λn v=>F4 (dG v).1 v.1.2.2.1 n v.1.2.2.2.1 (m32 v.2)) λTK=>.two .z (.cut atK (λv=>IY (λy1 y2=>TK (((),(),v.1.2.2.1,y1,()),e3 y2,((),(),y2.bn.kW,()),((),()),e0 (y2.bn.aU.getD 0 aG),e2 (y2.bn.aU.getD 0 aG).aS,((y2.bn.aU.getD 0 aG).aS.bW,(),()),(),(),(),y2.bn.bn,(y2.bn.aU.getD 0 aG).aS.bT,((y2.bn.aU.getD 0 aG).aS.bW).data,(dG v).1,())) v.1.2.2.2.1 (m32 v.2)) .z .z)))) .z)) (v4 (vS (v1 (vB (vL λ_=>v1 (vC vZ vZ)))) vZ))
def aw0:aR:=bB 46 ⟨G6,[]⟩ ⟨[(0,u2)],[QI,Dj,p68]⟩ (λv=>YW v.1.1 v.1.2.1) (λr=>(((),()),({r with dQ:=([]:List mF),dM:=([]:List Int)},(),(),()),r.dQ,r.dM,()))
theorem awU:aX aw0:=cu 69 aW [kO Sm] Tryz.func46 (λv=>{v.2.1.1 with dQ:=v.2.2.1,dM:=v.2.2.2.1}) (.zz 2 (.two (.two .z (.one (.lp ⟨[(2,u2),(3,u8),(5,jL),(21,u10),(22,zS),(23,zS)],[p51,p64,.bw .ku [(18,.own 3),(19,.nl)],Dj]⟩ (λn v=>Iw v.2.1 v.2.2.1 v.1.2.2.2.1 (bH v.1).1 n {v.2.2.2.1.1 with dQ:=(bH v).1,dM:=[]} (dH v.1).1) λaP6=> .z))) .z)) (v2 (vS (v1 (vB (vL λ_=>vZ))) vZ))
def aD2:aR:=bB 173 ⟨au7,[]⟩ jD (λv=>KG v.1.1 v.1.2.1 v.1.2.2.1) dJ
theorem aDC:aX aD2:=bM 33 aW [kO YB,kO Zb] Tryz.func173 dw
def aBq:aR:=kV 172 ⟨[(0,nZ),(1,.c (.fn 173 [1]))],[p68,p51]⟩ ⟨[],[p68,p51]⟩ (λv=>afs v.2.1 v.2.2.1) (λr=>((),r.1,r.2,())) (λv=>(v.2.1,v.2.2.1))
theorem aAK:kU Tryz.prog aBq:=aqS (n:=.aN) (cmp:=λc x y=>KG x y c) Tryz.ark rfl aC aC (λc x y r h=>(@aDC Gx).2 ((x,y,c,()),()) r h)
def aE9:aR:=bB 94 yV yt (λv=>KP v.1.1) dJ
theorem anO:aX aE9:=cu 24 aW [kO aAK] Tryz.func94 dw (.zz 2 (.two (.two .z (.one (.lp ⟨[(1,u2),(3,u20),(11,zS),(12,zS)],[p51,p68]⟩ (λn v=>IC v.2.1 v.1.2.2.1 n v.2.2.1 v.1.2.2.2.1) λaQe=> .z))) .z)) (v2 (vS (v1 (vB (vL λ_=>vZ))) vZ))
def aA2:aR:=bB 47 ⟨GZ,[]⟩ yt (λv=>Yw v.1.1 v.1.2.1 v.1.2.2.1) dJ
theorem azW:aX aA2:=cu 53 aW [kO anO,kO Ap] Tryz.func47 dw (.zz 2 (.two (.two .z (.one (.lp acF (λn v=>Dx v.2.1 v.2.2.1 v.1.1 (bH v.1).1 (dH v.1).1 n v.2.2.2.1 (dR v.1).1) λael=>.zz 2 (.cut acF (λv=>Sc (λy1 y2=>ael ((v.1.1,(),(),(),(bH v.1).1,(dH v.1).1,y2,()),v.2.1,v.2.2.1,y1,())) (dR v.1).1 v.2.2.2.1) .z .z)))) .z)) (v2 (vS (v1 (vB (vL λ_=>v2 (vC vZ vZ)))) vZ))
def aDp:aR:=bB 95 ⟨GZ,[]⟩ iU (λv=>Iz v.1.1 v.1.2.1 v.1.2.2.1) dJ
theorem afw:aX aDp:=bM 56 aW [kO Ap] Tryz.func95 dw
def aE3:aR:=bB 250 ⟨au7,[]⟩ jD (λv=>OM v.1.1 v.1.2.1 v.1.2.2.1) dJ
theorem aEG:aX aE3:=bM 37 aW [kO YB,kO Zb] Tryz.func250 dw
def aCA:aR:=kV 172 ⟨[(0,nZ),(1,.c (.fn 250 [1]))],[p68,p51]⟩ ⟨[],[p68,p51]⟩ (λv=>afU v.2.1 v.2.2.1) (λr=>((),r.1,r.2,())) (λv=>(v.2.1,v.2.2.1))
theorem aCa:kU Tryz.prog aCA:=aqS (n:=.aN) (cmp:=λc x y=>OM x y c) Tryz.ark rfl aC aC (λc x y r h=>(@aEG Gx).2 ((x,y,c,()),()) r h)
def axd:aR:=bB 251 EK ⟨[(0,u20)],[.dd,p68]⟩ (λv=>aeN v.2.1) (λr=>(((),()),(),r,()))
theorem aw7:kU Tryz.prog axd:=aJJ Tryz.aKR rfl aC
def aCz:aR:=bB 174 ⟨[(0,u0),(1,u5)],[]⟩ EK (λv=>KY v.1.1 v.1.2.1) (λr=>(((),()),r,()))
theorem aB9:aX aCz:=cu 33 aW [kO aCa,kO aw7] Tryz.func174 (λv=>v.2.1) (.zz 2 (.two (.two .z (.one (.lp ⟨avf,[p51,p68]⟩ (λn v=>FW v.2.1 v.1.2.2.1 v.1.2.2.2.1 n v.2.2.1 (bH v.1).1) λaf8=>.zz 2 (.cut ⟨avf,[p51,p68]⟩ (λv=>Zn (λy1 y2=>af8 (((),(),v.1.2.2.1,v.1.2.2.2.1,y2,()),v.2.1,y1,())) (bH v.1).1 v.2.2.1) .z .z)))) .z)) (v2 (vS (v1 (vB (vL λ_=>v2 (vC vZ vZ)))) vZ))
def ax1:aR:=bB 96 ⟨[(0,u42),(1,zS),(2,zS)],[]⟩ yt (λv=>RU v.1.1 v.1.2.1 v.1.2.2.1) dJ
theorem axB:aX ax1:=cu 52 aW [kO aB9] Tryz.func96 dw (.zz 2 (.two (.two .z (.one (.lp ⟨auO,[p68]⟩ (λn v=>Fe v.1.1 v.1.2.1 v.1.2.2.1 (bH v.1).1 (dH v.1).1 n v.2.1 (dR v.1).1) λad2=>.zz 2 (.cut ⟨auO,[p68]⟩ (λv=>XW (λy1 y2=>ad2 ((v.1.1,v.1.2.1,v.1.2.2.1,(),(bH v.1).1,(dH v.1).1,y2,()),y1,())) (dR v.1).1 v.2.1) .z .z)))) .z)) (v2 (vS (v1 (vB (vL λ_=>v2 (vC vZ vZ)))) vZ))
def aw1:aR:=bB 48 ⟨[(0,u42),(1,zS)],[]⟩ ⟨[(0,nZ)],[E8]⟩ (λv=>X8 v.1.1 v.1.2.1) (λr=>(((),()),r,()))
theorem awV:aX aw1:=cu 111 aW [kO afw,kO axB] Tryz.func48 (λv=>v.2.1) (.zz 7 (.cut ⟨[(1,zS),(5,u2),(8,zS),(9,u20)],[.bs .mF,E8]⟩ (λv=>Ry v.1.1 v.2.1 v.1.2.2.1 v.2.2.1) (.two .z (.one (.lp ⟨[(0,u42),(1,zS),(5,u2),(8,zS),(9,u20),(75,u5),(76,zS),(77,zS)],[.bs .mF,E8]⟩ (λn v=>Dn v.1.1 v.1.2.1 v.2.1 (dH v.1).1 (dR v.1).1 n v.1.2.2.2.1 v.2.2.1 (dY v.1).1) λaPO=> .z))) .z)) (v7 (vC (v1 (vB (vL λ_=>vZ))) vZ))
def ayX:aR:=kV 97 ⟨G5,[QI,Dj,p68]⟩ ⟨[],[QI,Dj,p68]⟩ (λv=>Fq ({v.2.1.1 with dQ:=v.2.2.1,dM:=v.2.2.2.1}) v.1.2.1 v.1.2.2.1) (λr=>((),({r with dQ:=([]:List mF),dM:=([]:List Int)},(),(),()),r.dQ,r.dM,())) (λv=>{v.2.1.1 with dQ:=v.2.2.1,dM:=v.2.2.2.1})
theorem ayd:aX ayX:=bM 27 aW [] Tryz.func97 (λv=>{v.2.1.1 with dQ:=v.2.2.1,dM:=v.2.2.2.1})
def ayu:aR:=kV 49 ⟨[(0,u2),(1,u43)],[QI,Dj,p68]⟩ ⟨[(0,u1)],[QI,Dj,p68]⟩ (λv=>X9 ({v.2.1.1 with dQ:=v.2.2.1,dM:=v.2.2.2.1}) v.1.2.1) (λr=>((r.1,()),({r.2 with dQ:=([]:List mF),dM:=([]:List Int)},(),(),()),r.2.dQ,r.2.dM,())) (λv=>(aG,{v.2.1.1 with dQ:=v.2.2.1,dM:=v.2.2.2.1}))
theorem axQ:aX ayu:=cu 168 aW [kO ayd,kO afw] Tryz.func49 (λv=>(v.1.1,{v.2.1.1 with dQ:=v.2.2.1,dM:=v.2.2.2.1})) (.zz 4 (.cut ⟨[],[QI,Dj,p68]⟩ (λv=>RB {v.2.1.1 with dQ:=v.2.2.1,dM:=v.2.2.2.1}) .z .z)) (v4 (vC vZ vZ))
def aAk:aR:=bB 13 ⟨GZ,[]⟩ ⟨[(0,.sw .gD [(1,.own 0)]),(1,zS)],[E8]⟩ (λv=>Ox v.1.1 v.1.2.1 v.1.2.2.1) (λr=>((({r.1 with bY:=([]:List eU)},(),()),r.2,()),r.1.bY,()))
theorem amL:aX aAk:=cu 76 aW [kO awU,kO azW,kO awV,kO axQ] Tryz.func13 (λv=>(m64 v,v.1.2.1)) (.zz 4 (.one (.lp ⟨[(6,u2),(8,u8),(9,uq)],[acS,acP,Dj,p68,acV,E8]⟩ (λn v=>S9 n {v.2.2.1.1 with dQ:=v.2.2.2.1,dM:=(bH v).1} (m65 (dH v))) λYA=>.one (.two .z (.two (.two .z (.one (.lp ⟨[(6,u2),(8,u8),(9,uq),(10,u27),(35,u5),(36,zS),(37,zS)],[acS,acP,Dj,p68,acV,E8,p68]⟩ (λn v=>FM (λy1 y2=>YA (((),(),(),()),(m66 v.2.1.1,(),(),()),(y1,(),(),()),y1.dQ,y1.dM,(y2,(),()),y2.bY,())) (bH v.1).1 (dH v.1).1 n {v.2.2.1.1 with dQ:=v.2.2.2.1,dM:=(bH v).1} (m65 (dH v)) (dY v).1 (dR v.1).1) λIp=>.zz 2 (.two (.one (.zz 2 (.two (.two .z (.one (.lp ⟨[(6,u2),(8,u8),(9,uq),(10,u27),(12,zS),(13,.c (.own 7)),(35,u5),(36,zS),(37,zS),(44,.c (.own 7)),(45,zS),(46,zS)],[acS,acP,Dj,p68,acV,E8,p68,E8]⟩ (λn v=>FK (λy1 y2 y3 y4=>Ip (((),(),(),(),(dR v.1).1,(dY v.1).1,y4,()),(m66 v.2.1.1,(),(),()),(y1,(),(),()),y1.dQ,y1.dM,(y2,(),()),y2.bY,y3,())) (m65 (dH v)) (dY v).1 (gB v.1).1 (bH v.1).1 (gB v).1 (ow v.1).1 n {v.2.2.1.1 with dQ:=v.2.2.2.1,dM:=(bH v).1} (jO v.1).1) λaP7=> .z))) (.cut ⟨[(6,u2),(8,u8),(9,uq),(10,u27),(13,.c (.own 7)),(35,u5),(36,zS),(37,zS)],[acS,acP,Dj,p68,acV,E8,p68,E8]⟩ (λv=>YJ (λy1 y2 y3 y4=>Ip (((),(),(),(),(dH v.1).1,(dR v.1).1,y4,()),(m66 v.2.1.1,(),(),()),(y1,(),(),()),y1.dQ,y1.dM,(y2,(),()),y2.bY,y3,())) (m65 (dH v)) (dY v.1).1 (gB v).1 {v.2.2.1.1 with dQ:=v.2.2.2.1,dM:=(bH v).1} (dY v).1) .z .z)))) .z)))) .z))))) (v4 (vB (vL λ_=>vB (v1 (vS (v1 (vB (vL λ_=>v2 (vS (vB (v2 (vS (v1 (vB (vL λ_=>vZ))) (vC vZ vZ)))) vZ)))) vZ)))))
def azD:aR:=bB 61 ⟨[(0,u44),(1,zS)],[]⟩ EK (λv=>TA v.1.1 v.1.2.1) (λr=>(((),()),r,()))
theorem amF:aX azD:=cu 26 aW [] Tryz.func61 (λv=>v.2.1) (.zz 2 (.two (.two .z (.one (.lp ⟨au8,[p68]⟩ (λn v=>FI v.1.1 v.1.2.2.1 v.1.2.2.2.1 n v.2.1 (bH v.1).1) λaeZ=>.zz 2 (.cut ⟨au8,[p68]⟩ (λv=>YF (λy1 y2=>aeZ ((v.1.1,(),v.1.2.2.1,v.1.2.2.2.1,y2,()),y1,())) (bH v.1).1 v.2.1) .z .z)))) .z)) (v2 (vS (v1 (vB (vL λ_=>v2 (vC vZ vZ)))) vZ))
def aAl:aR:=bB 16 ⟨[(0,u44)],[]⟩ EK (λv=>Oy v.1.1) (λr=>(((),()),r,()))
theorem amM:aX aAl:=bM 5 aW [kO amF] Tryz.func16 (λv=>v.2.1)
def axo:aR:=bB 50 ⟨GZ,[]⟩ EK (λv=>Ym v.1.1 v.1.2.1 v.1.2.2.1) (λr=>(((),()),r,()))
theorem axe:aX axo:=cu 53 aW [kO anO,kO Ap] Tryz.func50 (λv=>v.2.1) (.zz 2 (.two (.two .z (.one (.lp acF (λn v=>Du v.2.1 v.2.2.1 v.1.1 (bH v.1).1 (dH v.1).1 n v.2.2.2.1 (dR v.1).1) λaed=>.zz 2 (.cut acF (λv=>R3 (λy1 y2=>aed ((v.1.1,(),(),(),(bH v.1).1,(dH v.1).1,y2,()),v.2.1,v.2.2.1,y1,())) (dR v.1).1 v.2.2.2.1) .z .z)))) .z)) (v2 (vS (v1 (vB (vL λ_=>v2 (vC vZ vZ)))) vZ))
def awY:aR:=bB 51 ⟨G6,[]⟩ ⟨[(0,u2)],[yX,sj,p68]⟩ (λv=>Oc v.1.1 v.1.2.1) (λr=>(((),()),({r with dQ:=([]:List mE),dM:=([]:List Int)},(),(),()),r.dQ,r.dM,()))
theorem adW:aX awY:=cu 69 aW [kO Sm] Tryz.func51 (λv=>{v.2.1.1 with dQ:=v.2.2.1,dM:=v.2.2.2.1}) (.zz 2 (.two (.two .z (.one (.lp ⟨[(2,u2),(3,u8),(5,jL),(6,zS)],[p51,p64,.bw .jm [(18,.own 3),(19,.nl)],sj]⟩ (λn v=>Iu v.2.1 v.2.2.1 n {v.2.2.2.1.1 with dQ:=(bH v).1,dM:=[]} v.1.2.2.2.1) λaP5=> .z))) .z)) (v2 (vS (v1 (vB (vL λ_=>vZ))) vZ))
def aAh:aR:=kV 175 ⟨G5,[yX,sj,p68]⟩ ⟨[],[yX,sj,p68]⟩ (λv=>FC ({v.2.1.1 with dQ:=v.2.2.1,dM:=v.2.2.2.1}) v.1.2.1 v.1.2.2.1) (λr=>((),({r with dQ:=([]:List mE),dM:=([]:List Int)},(),(),()),r.dQ,r.dM,())) (λv=>{v.2.1.1 with dQ:=v.2.2.1,dM:=v.2.2.2.1})
theorem azf:aX aAh:=bM 27 aW [] Tryz.func175 (λv=>{v.2.1.1 with dQ:=v.2.2.1,dM:=v.2.2.2.1})
def aDo:aR:=bB 102 ⟨GZ,[]⟩ iU (λv=>Od v.1.1 v.1.2.1 v.1.2.2.1) dJ
theorem ank:aX aDo:=bM 43 aW [kO afw] Tryz.func102 dw
def azB:aR:=kV 98 ⟨[(0,u2),(1,u43)],[yX,sj,p68]⟩ akw (λv=>Sl ({v.2.1.1 with dQ:=v.2.2.1,dM:=v.2.2.2.1}) v.1.2.1) (λr=>((r.1,()),({r.2 with dQ:=([]:List mE),dM:=([]:List Int)},(),(),()),r.2.dQ,r.2.dM,())) (λv=>(aG,{v.2.1.1 with dQ:=v.2.2.1,dM:=v.2.2.2.1}))
theorem amE:aX azB:=cu 162 aW [kO azf,kO ank] Tryz.func98 (λv=>(v.1.1,{v.2.1.1 with dQ:=v.2.2.1,dM:=v.2.2.2.1})) (.zz 3 (.cut ⟨[],[yX,sj,p68]⟩ (λv=>RQ {v.2.1.1 with dQ:=v.2.2.1,dM:=v.2.2.2.1}) .z .z)) (v3 (vC vZ vZ))
def aAH:aR:=bB 99 ⟨[(0,u5),(1,zS)],[]⟩ jD (λv=>Yv v.1.1 v.1.2.1) dJ
theorem azS:aX aAH:=cu 19 aW [] Tryz.func99 dw (.two .z (.two (.two .z (.one (.lp ⟨[(0,u5),(1,zS),(7,zS),(8,zS)],[]⟩ (λn v=>Ih v.1.1 v.1.2.1 v.1.2.2.1 n v.1.2.2.2.1) λaPX=> .z))) .z)) (v1 (vS (v1 (vB (vL λ_=>vZ))) vZ))
def ayF:aR:=bB 54 ⟨[(0,u5),(1,zS)],[]⟩ iU (λv=>Nl v.1.1 v.1.2.1) dJ
theorem amB:aX ayF:=bM 9 aW [kO azS] Tryz.func54 dw
def azA:aR:=jg 55 ⟨[(0,u2)],[yX,sj,p68]⟩ akw (λv=>aeP ({v.2.1.1 with dQ:=v.2.2.1,dM:=v.2.2.2.1})) (λr=>((r.1,()),({r.2 with dQ:=([]:List mE),dM:=([]:List Int)},(),(),()),r.2.dQ,r.2.dM,())) (λv=>Nh ({v.2.1.1 with dQ:=v.2.2.1,dM:=v.2.2.2.1})) (λx v=>(x,{v.2.1.1 with dQ:=v.2.2.1,dM:=v.2.2.2.1})) (λ_=>ayK _)
theorem ayJ:aX azA:=cu 27 aW [] Tryz.func55 (λv=>(v.1.1,{v.2.1.1 with dQ:=v.2.2.1,dM:=v.2.2.2.1})) (.two .z (.two (.two .z (.one (.lp ⟨[(0,u2),(8,u22),(9,zS),(10,zS)],[yX,sj,p68]⟩ (λn v=>RP {v.2.1.1 with dQ:=v.2.2.1,dM:=v.2.2.2.1} v.1.2.2.1 n v.1.2.2.2.1) λaPS=> .z))) .z)) (v1 (vS (v1 (vB (vL λ_=>vZ))) vZ))
def ayW:aR:=bB 176 jD iU (λv=>amY v.1.1) dJ
theorem ayc:aX ayW:=bM 3 aW [] Tryz.func176 dw
def ayt:aR:=kV 52 ⟨[(0,u2),(1,u45),(2,.c (.fn 176 []))],[yX,sj,p68]⟩ ⟨[(0,zS)],[yX,sj,p68]⟩ (λv=>amK ({v.2.1.1 with dQ:=v.2.2.1,dM:=v.2.2.2.1}) v.1.2.1) (λr=>((r.1,()),({r.2 with dQ:=([]:List mE),dM:=([]:List Int)},(),(),()),r.2.dQ,r.2.dM,())) (λv=>(aG,{v.2.1.1 with dQ:=v.2.2.1,dM:=v.2.2.2.1}))
theorem axP:aX ayt:=cu 30 aW [kO amE,kO ayc] Tryz.func52 (λv=>(v.1.1,{v.2.1.1 with dQ:=v.2.2.1,dM:=v.2.2.2.1})) (.two .z (.two (.two .z (.one (.lp ⟨[(0,u2),(1,u45),(2,.c (.fn 176 [])),(9,u45),(10,zS),(11,zS)],[yX,sj,p68]⟩ (λn v=>aec v.1.2.1 v.1.2.2.2.1 (bH v.1).1 n {v.2.1.1 with dQ:=v.2.2.1,dM:=v.2.2.2.1} (dH v.1).1) λaPQ=> .z))) .z)) (v1 (vS (v1 (vB (vL λ_=>vZ))) vZ))
def aAi:aR:=kV 100 ⟨[(0,u2),(1,u45)],[yX,sj,p68]⟩ akw (λv=>Yn ({v.2.1.1 with dQ:=v.2.2.1,dM:=v.2.2.2.1}) v.1.2.1) (λr=>((r.1,()),({r.2 with dQ:=([]:List mE),dM:=([]:List Int)},(),(),()),r.2.dQ,r.2.dM,())) (λv=>(aG,{v.2.1.1 with dQ:=v.2.2.1,dM:=v.2.2.2.1}))
theorem amJ:aX aAi:=bM 11 aW [kO axP] Tryz.func100 (λv=>(v.1.1,{v.2.1.1 with dQ:=v.2.2.1,dM:=v.2.2.2.1}))
def aCR:aR:=bB 56 ⟨alb,[]⟩ iU (λv=>afX v.1.1 v.1.2.1 v.1.2.2.1 v.1.2.2.2.1) dJ
theorem aCe:aX aCR:=cu 181 aW [kO adW,kO amJ] Tryz.func56 dw (.zz 7 (.two (.one (.lp ⟨[(3,zS),(4,u2),(6,u8),(9,jL),(10,Ah),(11,zS),(12,zS)],[p51,zJ,.bw .jm [(18,.own 3),(19,.own 4)],sj,p68,.bs .eU]⟩ (λn v=>afc v.2.1 v.2.2.1 v.1.1 (dR v).1 (dH v.1).1 {v.2.2.2.1.1 with dQ:=(bH v).1,dM:=(dH v).1} n (dR v.1).1) λaP3=> .z)) .z)) (v7 (vS (vB (vL λ_=>vZ)) vZ))
def aCo:aR:=kV 53 ⟨[(0,zS),(1,u2),(2,u8),(3,u16),(4,uq),(5,.c (.pb 8 0)),(6,.c (.pb 9 0))],[zJ,Mr,p68,.bx [zC],.bx [.pb 5 0],akS,sj,p68,p51,p64]⟩ ⟨[(0,u1)],[zJ,Mr,p68,.bx [zC],.bx [.pb 5 0],akS,sj,p68,p51,p64]⟩ (λv=>YD v.1.1 v.2.1 v.2.2.2.1 (bH v).1.1 ({(dR v).1.1 with dQ:=(dY v).1,dM:=(gB v).1}) (nH v).1 (ow v).1) (λr=>((r.1,()),g31 r.2)) (λv=>(aG,v.2.1,v.2.2.2.1,(bH v).1.1,{(dR v).1.1 with dQ:=(dY v).1,dM:=(gB v).1},(nH v).1,(ow v).1))
theorem aBA:aX aCo:=cu 43 aW [kO amB,kO ayJ,kO aCe] Tryz.func53 (λv=>(v.1.1,v.2.1,v.2.2.2.1,(bH v).1.1,{(dR v).1.1 with dQ:=(dY v).1,dM:=(gB v).1},(nH v).1,(ow v).1)) (.zz 2 (.cut ⟨[(3,u16)],[zJ,Mr,p68,.bx [zC],.bx [.pb 5 0],akS,sj,p68,p51,p64]⟩ (λv=>Ny v.2.1 v.2.2.2.1 {(dR v).1.1 with dQ:=(dY v).1,dM:=(gB v).1} (nH v).1 (ow v).1 (bH v).1.1) .z .z)) (v2 (vC vZ vZ))
end Go.Proofs
