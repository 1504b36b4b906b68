/- The claim: YtodbmegkcniehaaGreat.TopRefuted (cellplane/cellplanetop.TopRefuted): for every input the call returns true and each argument reads as it did. By the walk of the code and the plain law. -/
import Derived.Test.YtodbmegkcniehaaGreatRows
import Derived.WalkKit
import Derived.ProofKit
import Derived.OpenShut
import Derived.ShutString
import Derived.ChangeOld
import Derived.Below
import Derived.Test.YtodbmegkcniehaaGreatP1030d6f1c4
set_option linter.unusedVariables false
set_option linter.unusedSimpArgs false
namespace Go.Proofs
open Go Go.AM Go.CP Go.RowKit
set_option maxRecDepth 100000
def FR [Fuel]:aS:={f:=76,ps:=⟨amR,[]⟩,rs:=⟨zh,[]⟩,β:=Bool,F:=λv=>GY v.1.1 v.1.2.1,g:=(λr=>((r,()),())),d:=λ_=>default}
theorem Hz [Fuel]:bL Tryz.prog FR:=fnI 19 tmL [] [] Tryz.aBw (λv=>v.1.1) .z ok0 vZ
def RJ [Fuel]:aS:={f:=56,ps:=⟨[(0,.c (.pb 0 0)),(1,.st .ak),(2,.st .aB),(3,zS)],[.bs .aP]⟩,rs:=⟨aq0,[.bs .aP]⟩,β:=(aA×aP),F:=λv=>I6 v.2.1 v.1.2.1 v.1.2.2.1 v.1.2.2.2.1,g:=(λr=>((r.1,()),(r.2,()))),d:=λv=>(default,v.2.1),dk:=true,hd:=λ_ _=>rfl}
theorem Y1 [Fuel]:bL Tryz.prog RJ:=fnI 112 tmL [UH,lV,zf,FR] [] Tryz.aBx (λv=>(v.1.1,v.2.1)) (.two .z (.two .z (.two .z (.two .z (.cut ⟨[(8,.c (.pb 1 0)),(9,.c (.pb 2 0))],[.bs .aP,.bs .aA,.bs .aA]⟩ (λv=>ig v.2.1 v.2.2.2.1) (.two .z (.one (.two .z (.two .z (.two .z (.two .z (.cut ⟨[(0,.c (.pb 0 0)),(3,zS),(5,.c (.pb 1 0)),(6,.c (.pb 2 0)),(8,.c (.pb 3 0)),(9,.c (.pb 4 0)),(10,zS),(11,.c (.pb 5 0)),(25,zS),(43,.c (.ty .b))],[.bs .aP,.bs .ak,.bs .aB,.bs .aA,.bs .aA,.bs .aH]⟩ (λv=>qV v.2.2.1 v.2.2.2.1 v.1.2.1 v.2.2.2.2.2.1 v.2.2.2.2.2.2.1 v.2.1 v.1.2.2.2.2.2.2.1 v.1.2.2.2.2.2.2.2.2.1 v.1.2.2.2.2.2.2.2.2.2.1) .z (.two .z (.cut ⟨[(0,.c (.pb 0 0)),(3,zS),(5,.c (.pb 1 0)),(6,.c (.pb 2 0)),(8,.c (.pb 3 0)),(9,.c (.pb 4 0)),(10,zS),(11,.c (.pb 5 0)),(25,zS),(56,.c (.ty .b))],[.bs .aP,.bs .ak,.bs .aB,.bs .aA,.bs .aA,.bs .aH]⟩ (λv=>qU v.2.2.1 v.2.2.2.1 v.1.2.1 v.2.2.2.2.2.1 v.2.2.2.2.2.2.1 v.2.1 v.1.2.2.2.2.2.2.1 v.1.2.2.2.2.2.2.2.2.1 v.1.2.2.2.2.2.2.2.2.2.1) .z .z))))))))) .z))))) (okC Yu (okC mQ (okC Es (okC Hz ok0)))) (vS vZ (vS vZ (vS vZ (vS vZ (vC (vS vZ (vB (vS vZ (vD vZ (vS vZ (vD vZ (vC vZ (vD vZ (vC vZ vZ))))))))) vZ)))))
def T9 [Fuel]:aS:={f:=283,ps:=⟨aqZ,[]⟩,rs:=⟨[(0,zS)],[]⟩,β:=Int,F:=λv=>QW v.1.1 v.1.2.1,g:=(λr=>((r,()),())),d:=λ_=>default}
theorem aaY [Fuel]:bL Tryz.prog T9:=fnI 20 tmL [] [] Tryz.azz (λv=>v.1.1) .z ok0 vZ
def Br [Fuel]:aS:={f:=217,ps:=⟨aqZ,[]⟩,rs:=⟨[(0,zS)],[]⟩,β:=Int,F:=λv=>r9 v.1.1 v.1.2.1,g:=(λr=>((r,()),())),d:=λ_=>default}
theorem FT [Fuel]:bL Tryz.prog Br:=fnI 17 tmL [T9] [] Tryz.azA (λv=>v.1.1) .z (okC aaY ok0) vZ
def FU [Fuel]:aS:={f:=135,ps:=⟨aqY,[]⟩,rs:=⟨zh,[]⟩,β:=Bool,F:=λv=>DN v.1.1 v.1.2.1 v.1.2.2.1,g:=(λr=>((r,()),())),d:=λ_=>default}
theorem HV [Fuel]:bL Tryz.prog FU:=fnI 28 tmL [Br,FR] [] Tryz.azB (λv=>v.1.1) .z (okC FT (okC Hz ok0)) vZ
def WC [Fuel]:aS:={f:=59,ps:=⟨aqZ,[]⟩,rs:=⟨ahx,[]⟩,β:=(List Int),F:=λv=>JN v.1.1 v.1.2.1,g:=(λr=>((r,()),())),d:=λ_=>default}
theorem abQ [Fuel]:bL Tryz.prog WC:=fnI 23 tmL [FU] [] Tryz.aBy (λv=>v.1.1) (.two .z (.two .z (.two (.two .z (.one (.lp ⟨aAg,[.bs .ak,.ar (.i .i64)]⟩ (λn v=>wB v.2.1 v.1.1 n v.2.2.1 v.1.2.2.2.1) ajU=>(.two .z (.cut ⟨aAg,[.bs .ak,.ar (.i .i64)]⟩ (λv=>Gj (λy1 y2=>MO ((v.1.1,((),((),(y2,())))),(v.2.1,(y1,())))) v.1.2.2.2.1 v.2.2.1) .z .z))))) .z))) (okC HV ok0) (vS vZ (vS vZ (vS (vS vZ (vB (vL λ_=>(vS vZ (vC vZ vZ))))) vZ)))
def aaZ [Fuel]:aS:={f:=58,ps:=⟨[(0,.c (.pb 0 0)),(1,.c (.ty (.l (.i .i64))))],[.bs .aP]⟩,rs:=⟨[(0,zS)],[.bs .aP]⟩,β:=(Int×aP),F:=λv=>JO v.2.1 v.1.2.1,g:=(λr=>((r.1,()),(r.2,()))),d:=λv=>(default,v.2.1),dk:=true,hd:=λ_ _=>rfl}
theorem agu [Fuel]:bL Tryz.prog aaZ:=fnI 15 tmL [lV] [] Tryz.aBz (λv=>(v.1.1,v.2.1)) .z (okC mQ ok0) vZ
def OV [Fuel]:aS:={f:=136,ps:=⟨aqY,[]⟩,rs:=⟨zh,[]⟩,β:=Bool,F:=λv=>JQ v.1.1 v.1.2.1 v.1.2.2.1,g:=(λr=>((r,()),())),d:=λ_=>default}
theorem Ua [Fuel]:bL Tryz.prog OV:=fnI 26 tmL [Br] [] Tryz.azC (λv=>v.1.1) .z (okC FT ok0) vZ
def PS [Fuel]:aS:={f:=60,ps:=⟨aqY,[]⟩,rs:=⟨ahx,[]⟩,β:=(List Int),F:=λv=>Ay v.1.1 v.1.2.1 v.1.2.2.1,g:=(λr=>((r,()),())),d:=λ_=>default}
theorem XE [Fuel]:bL Tryz.prog PS:=fnI 31 tmL [FU,OV] [] Tryz.aBA (λv=>v.1.1) (.two .z (.two .z (.two (.two .z (.one (.lp ⟨w90,[.bs .ak,.ar (.i .i64)]⟩ (λn v=>p9 v.2.1 v.1.1 v.1.2.1 n v.2.2.1 v.1.2.2.2.2.1) agv=>(.two .z (.cut ⟨w90,[.bs .ak,.ar (.i .i64)]⟩ (λv=>yS (λy1 y2=>Iq ((v.1.1,(v.1.2.1,((),((),(y2,()))))),(v.2.1,(y1,())))) v.1.2.2.2.2.1 v.2.2.1) .z .z))))) .z))) (okC HV (okC Ua ok0)) (vS vZ (vS vZ (vS (vS vZ (vB (vL λ_=>(vS vZ (vC vZ vZ))))) vZ)))
def Yv [Fuel]:aS:={f:=61,ps:=⟨[(0,.c (.pb 0 0)),(1,.st .ak),(2,.st .aB),(3,.st .aA)],[.bs .aP]⟩,rs:=⟨aq0,[.bs .aP]⟩,β:=(aA×aP),F:=λv=>Sk v.2.1 v.1.2.1 v.1.2.2.1 v.1.2.2.2.1,g:=(λr=>((r.1,()),(r.2,()))),d:=λv=>(default,v.2.1),dk:=true,hd:=λ_ _=>rfl}
theorem aed [Fuel]:bL Tryz.prog Yv:=fnI 129 tmL [Et,lV,zf] [] Tryz.aBB (λv=>(v.1.1,v.2.1)) (.two .z (.two .z (.two .z (.cut avi (λv=>yT v.2.2.1 v.2.2.2.1 v.2.2.2.2.2.2.1 v.2.1 v.2.2.2.2.1) .z (.two .z (.cut avi (λv=>DU v.2.2.1 v.2.2.2.1 v.2.2.2.2.2.2.1 v.2.1 v.2.2.2.2.1) .z (.cut avi (λv=>DT v.2.2.1 v.2.2.2.1 v.2.2.2.2.2.2.1 v.2.1 v.2.2.2.2.1) .z (.two .z (.cut ⟨[(0,.c (.pb 0 0)),(5,.c (.pb 1 0)),(6,.c (.pb 2 0)),(7,.c (.pb 3 0)),(8,.c (.pb 4 0))],[.bs .aP,.bs .ak,.bs .aB,.bs .aA,.bs .aA]⟩ (λv=>DR v.2.2.1 v.2.2.2.1 v.2.1 v.2.2.2.2.1) .z (.two .z (.two .z (.cut ⟨[(7,.c (.pb 1 0)),(8,.c (.pb 2 0))],[.bs .aP,.bs .aA,.bs .aA]⟩ (λv=>I7 v.2.1 v.2.2.1) .z .z)))))))))))) (okC Ij (okC mQ (okC Es ok0))) (vS vZ (vS vZ (vS vZ (vC vZ (vS vZ (vC vZ (vC vZ (vS vZ (vC vZ (vS vZ (vS vZ (vC vZ vZ))))))))))))
def Yw [Fuel]:aS:={f:=29,ps:=⟨[(0,.c (.pb 0 0)),(1,.st .ak),(2,.st .aB)],[.bs .aP]⟩,rs:=⟨aq0,[.bs .aP]⟩,β:=(aA×aP),F:=λv=>Sl v.2.1 v.1.2.1 v.1.2.2.1,g:=(λr=>((r.1,()),(r.2,()))),d:=λv=>(default,v.2.1),dk:=true,hd:=λ_ _=>rfl}
theorem aee [Fuel]:bL Tryz.prog Yw:=fnI 126 tmL [lV,Et,RJ,UH,WC,aaZ,PS,Yv] [] Tryz.func29 (λv=>(v.1.1,v.2.1)) (.two .z (.two .z (.cut ⟨[(0,.c (.pb 0 0)),(4,.c (.pb 1 0)),(5,.c (.pb 2 0)),(6,.c (.pb 3 0)),(7,zS)],[.bs .aP,.bs .ak,.bs .aB,.bs .aA]⟩ (λv=>DV v.2.2.1 v.2.2.2.1 v.2.1 v.1.2.2.2.2.1) .z (.two .z (.two .z (.two .z (.two .z (.two .z (.two .z (.cut ⟨[(6,.c (.pb 1 0)),(11,.c (.pb 2 0))],[.bs .aP,.bs .aA,.bs .aA]⟩ (λv=>pI v.2.1 v.2.2.2.1) .z .z)))))))))) (okC mQ (okC Ij (okC Y1 (okC Yu (okC abQ (okC agu (okC XE (okC aed ok0)))))))) (vS vZ (vS vZ (vC vZ (vS vZ (vS vZ (vS vZ (vS vZ (vS vZ (vS vZ (vC vZ vZ))))))))))
def SE [Fuel]:aS:={f:=218,ps:=⟨aur,[]⟩,rs:=⟨zh,[]⟩,β:=Bool,F:=λv=>rM v.1.1 v.1.2.1 v.1.2.2.1,g:=(λr=>((r,()),())),d:=λ_=>default}
theorem UJ [Fuel]:bL Tryz.prog SE:=fnI 15 tmL [] [] Tryz.azD (λv=>v.1.1) .z ok0 vZ
def Yx [Fuel]:aS:={f:=328,ps:=⟨[(0,zS)],[]⟩,rs:=⟨as7,[]⟩,β:=ByteArray,F:=λv=>Xd v.1.1,g:=(λr=>((r,()),())),d:=λ_=>default}
theorem aef [Fuel]:bL Tryz.prog Yx:=fnI 17 tmL [] [] Tryz.azE (λv=>v.1.1) .z ok0 vZ
def UK [Fuel]:aS:={f:=284,ps:=⟨[(0,zS),(1,.c (.ty (.i .u8)))],[]⟩,rs:=⟨zh,[]⟩,β:=Bool,F:=λv=>jL v.1.1 v.1.2.1,g:=(λr=>((r,()),())),d:=λ_=>default}
theorem Yy [Fuel]:bL Tryz.prog UK:=fnI 20 tmL [Yx] [] Tryz.azF (λv=>v.1.1) (.two .z (.two .z (.two (.two .z (.one (.lp ⟨[(1,.c (.ty (.i .u8))),(5,.c (.ty .s)),(6,zS)],[]⟩ (λn v=>K4 v.1.1 v.1.2.1 n v.1.2.2.1) alx=> .z))) .z))) (okC aef ok0) (vS vZ (vS vZ (vS (vS vZ (vB (vL λ_=>vZ))) vZ)))
def Ub [Fuel]:aS:={f:=219,ps:=⟨[(0,.st .aA),(1,zS),(2,zS),(3,zS)],[]⟩,rs:=⟨zh,[]⟩,β:=Bool,F:=λv=>Co v.1.1 v.1.2.1 v.1.2.2.1 v.1.2.2.2.1,g:=(λr=>((r,()),())),d:=λ_=>default}
theorem aa0 [Fuel]:bL Tryz.prog Ub:=fnI 105 tmL [UK,SE] [] Tryz.azG (λv=>v.1.1) (.two .z (.two .z (.two .z (.two (.one (.cut ⟨[(2,zS),(3,zS),(4,.c (.pb 0 0)),(9,zS),(30,.c (.ty .b))],[.bs .aA]⟩ (λv=>yj v.2.1 v.1.1 v.1.2.1 v.1.2.2.2.1 v.1.2.2.2.2.1) .z (.two .z (.cut ⟨[(64,.c (.ty .b))],[]⟩ (λv=>yh v.1.1) .z .z)))) .z)))) (okC Yy (okC UJ ok0)) (vS vZ (vS vZ (vS vZ (vS (vB (vC vZ (vD vZ (vC vZ vZ)))) vZ))))
def RN [Fuel]:aS:={f:=220,ps:=⟨[(0,.st .aA),(1,zS)],[]⟩,rs:=⟨zh,[]⟩,β:=Bool,F:=λv=>yU v.1.1 v.1.2.1,g:=(λr=>((r,()),())),d:=λ_=>default}
theorem Y2 [Fuel]:bL Tryz.prog RN:=fnI 82 tmL [UK,SE] [] Tryz.azH (λv=>v.1.1) (.two .z (.two .z (.two (.one (.cut ⟨[(1,zS),(2,.c (.pb 0 0)),(5,zS),(8,.c (.ty .b))],[.bs .aA]⟩ (λv=>Bo v.2.1 v.1.1 v.1.2.2.1 v.1.2.2.2.1) .z (.two .z (.cut ⟨[(1,zS),(2,.c (.pb 0 0)),(5,zS),(25,.c (.ty .b))],[.bs .aA]⟩ (λv=>vW v.2.1 v.1.1 v.1.2.2.1 v.1.2.2.2.1) .z .z)))) .z))) (okC Yy (okC UJ ok0)) (vS vZ (vS vZ (vS (vB (vC vZ (vD vZ (vC vZ vZ)))) vZ)))
def WE [Fuel]:aS:={f:=137,ps:=⟨[(0,.st .aA),(1,zS),(2,zS),(3,zS),(4,zS)],[]⟩,rs:=⟨zh,[]⟩,β:=Bool,F:=λv=>Ut v.1.1 v.1.2.1 v.1.2.2.1 v.1.2.2.2.1 v.1.2.2.2.2.1,g:=(λr=>((r,()),())),d:=λ_=>default}
theorem abR [Fuel]:bL Tryz.prog WE:=fnI 31 tmL [SE,Ub,RN] [] Tryz.azI (λv=>v.1.1) .z (okC UJ (okC aa0 (okC Y2 ok0))) vZ
def WG [Fuel]:aS:={f:=62,ps:=⟨[(0,.st .ak),(1,.st .aA)],[]⟩,rs:=⟨zh,[]⟩,β:=Bool,F:=λv=>FE v.1.1 v.1.2.1,g:=(λr=>((r,()),())),d:=λ_=>default}
theorem abS [Fuel]:bL Tryz.prog WG:=fnI 22 tmL [WE] [] Tryz.aBC (λv=>v.1.1) .z (okC abR ok0) vZ
def dx [Fuel]:aS:={f:=63,ps:=⟨[(0,zS)],[]⟩,rs:=avk,β:=(aB×Int),F:=λv=>dY v.1.1,g:=(λr=>((({r.1 with ah:=([]:List ay),Cells:=([]:List aH)},((),((),()))),(r.2,())),(r.1.ah,(r.1.Cells,())))),d:=λ_=>default}
theorem dz [Fuel]:bL Tryz.prog dx:=fnI 6 tmL [] [] Tryz.aBD (λv=>(({v.1.1.1 with ah:=v.2.1,Cells:=v.2.2.1}),v.1.2.1)) .z ok0 vZ
def A9 [Fuel]:aS:={f:=64,ps:=⟨aus,[]⟩,rs:=auv,β:=aB,F:=λv=>K5 v.1.1,g:=(λr=>((({r with ah:=([]:List ay),Cells:=([]:List aH)},((),((),()))),()),(r.ah,(r.Cells,())))),d:=λ_=>default}
theorem KN [Fuel]:bL Tryz.prog A9:=fnI 14 tmL [] [] Tryz.aBE (λv=>({v.1.1.1 with ah:=v.2.1,Cells:=v.2.2.1})) .z ok0 vZ
def Gx [Fuel]:aS:={f:=138,ps:=⟨aAh,[]⟩,rs:=⟨zh,[]⟩,β:=Bool,F:=λv=>yt v.1.1 v.1.2.1 v.1.2.2.1,g:=(λr=>((r,()),())),d:=λ_=>default}
theorem Kt [Fuel]:bL Tryz.prog Gx:=fnI 13 tmL [Br,FR] [] Tryz.azJ (λv=>v.1.1) .z (okC FT (okC Hz ok0)) vZ
def Bt [Fuel]:aS:={f:=139,ps:=⟨aqY,[]⟩,rs:=⟨zh,[]⟩,β:=Bool,F:=λv=>pR v.1.1 v.1.2.1 v.1.2.2.1,g:=(λr=>((r,()),())),d:=λ_=>default}
theorem FV [Fuel]:bL Tryz.prog Bt:=fnI 20 tmL [OV] [] Tryz.azK (λv=>v.1.1) .z (okC Ua ok0) vZ
def aa1 [Fuel]:aS:={f:=329,ps:=⟨[(0,.c (.own 0)),(1,zS),(2,zS)],[.ar (.i .i64)]⟩,rs:=⟨[],[.ar (.i .i64)]⟩,β:=(List Int),F:=λv=>JR v.2.1 v.1.2.1 v.1.2.2.1,g:=(λr=>((),(r,()))),d:=λv=>v.2.1,dk:=true,hd:=λ_ _=>rfl}
theorem agw [Fuel]:bL Tryz.prog aa1:=fnI 23 tmL [] [] Tryz.azL (λv=>v.2.1) .z ok0 vZ
def HY [Fuel]:aS:={f:=285,ps:=⟨asb,[]⟩,rs:=auB,β:=(List Int),F:=λv=>K6 v.1.1 v.1.2.1,g:=(λr=>(((),()),(r,()))),d:=λ_=>default}
theorem Qm [Fuel]:bL Tryz.prog HY:=fnI 61 tmL [aa1] [] Tryz.azM (λv=>v.2.1) (.two .z (.two .z (.two (.two .z (.one (.lp aAK (λn v=>nO v.2.1 v.2.2.1 n v.2.2.2.1 v.1.2.2.2.1) ah4=>(.two .z (.cut aAK (λv=>DW (λy1 y2=>rO (((),((),((),(y2,())))),(v.2.1,(v.2.2.1,(y1,()))))) v.1.2.2.2.1 v.2.2.2.1) (.one (.two .z (.two .z (.cut ⟨[(2,.c (.pb 0 0)),(3,.c (.pb 1 0)),(5,.c (.own 2)),(6,zS),(7,.c (.pb 3 0)),(8,.c (.pb 4 0))],[.bs .ak,.bs .aB,.ar (.i .i64),.bs .ay,.bs .aW]⟩ (λv=>DX (λy1 y2=>rO (((),((),((),(y2,())))),(v.2.1,(v.2.2.1,(y1,()))))) v.1.2.2.2.1 v.2.2.2.2.1 v.2.2.2.2.2.1 v.2.2.2.1) .z .z)))) .z))))) .z))) (okC agw ok0) (vS vZ (vS vZ (vS (vS vZ (vB (vL λ_=>(vS vZ (vC (vB (vS vZ (vS vZ (vC vZ vZ)))) vZ))))) vZ)))
def Ku [Fuel]:aS:={f:=221,ps:=⟨asb,[]⟩,rs:=auB,β:=(List Int),F:=λv=>Sm v.1.1 v.1.2.1,g:=(λr=>(((),()),(r,()))),d:=λ_=>default}
theorem Tt [Fuel]:bL Tryz.prog Ku:=fnI 33 tmL [HY] [] Tryz.azN (λv=>v.2.1) (.two .z (.two .z (.two .z (.two (.two .z (.one (.lp aAL (λn v=>uW v.2.1 v.2.2.2.1 n v.2.2.1 v.1.2.2.2.1) ak9=>(.two .z (.cut aAL (λv=>I8 (λy1 y2=>Ph (((),((),((),(y2,())))),(v.2.1,(y1,(v.2.2.2.1,()))))) v.1.2.2.2.1 v.2.2.1) .z .z))))) .z)))) (okC Qm ok0) (vS vZ (vS vZ (vS vZ (vS (vS vZ (vB (vL λ_=>(vS vZ (vC vZ vZ))))) vZ))))
def jU [Fuel]:aS:={f:=140,ps:=aAC,rs:=akA,β:=(aB×Int),F:=λv=>DY v.1.1 ({v.1.2.1.1 with ah:=v.2.1,Cells:=v.2.2.1}),g:=(λr=>((({r.1 with ah:=([]:List ay),Cells:=([]:List aH)},((),((),()))),(r.2,())),((),((),(r.1.ah,(r.1.Cells,())))))),d:=λ_=>default}
theorem lK [Fuel]:bL Tryz.prog jU:=fnI 13 tmL [Ku] [] Tryz.azO (λv=>(({v.1.1.1 with ah:=v.2.2.2.1,Cells:=v.2.2.2.2.1}),v.1.2.1)) .z (okC Tt ok0) vZ
def CF [Fuel]:aS:={f:=65,ps:=aq1,rs:=akA,β:=(aB×Int),F:=λv=>Oh v.1.1 ({v.1.2.1.1 with ah:=v.2.1,Cells:=v.2.2.1}) v.1.2.2.1,g:=(λr=>((({r.1 with ah:=([]:List ay),Cells:=([]:List aH)},((),((),()))),(r.2,())),((),((),(r.1.ah,(r.1.Cells,())))))),d:=λ_=>default}
theorem L6 [Fuel]:bL Tryz.prog CF:=fnI 119 tmL [dx,Gx,FU,Bt,jU] [] Tryz.aBF (λv=>(({v.1.1.1 with ah:=v.2.2.2.1,Cells:=v.2.2.2.2.1}),v.1.2.1)) .z (okC dz (okC Kt (okC HV (okC FV (okC lK ok0))))) vZ
def RO [Fuel]:aS:={f:=141,ps:=⟨w92,[]⟩,rs:=⟨[(0,zS)],[]⟩,β:=Int,F:=λv=>I9 v.1.1 v.1.2.1 v.1.2.2.1,g:=(λr=>((r,()),())),d:=λ_=>default}
theorem Y3 [Fuel]:bL Tryz.prog RO:=fnI 134 tmL [] [] Tryz.azP (λv=>v.1.1) .z ok0 vZ
def CG [Fuel]:aS:={f:=66,ps:=aq1,rs:=akA,β:=(aB×Int),F:=λv=>Oi v.1.1 ({v.1.2.1.1 with ah:=v.2.1,Cells:=v.2.2.1}) v.1.2.2.1,g:=(λr=>((({r.1 with ah:=([]:List ay),Cells:=([]:List aH)},((),((),()))),(r.2,())),((),((),(r.1.ah,(r.1.Cells,())))))),d:=λ_=>default}
theorem L8 [Fuel]:bL Tryz.prog CG:=fnI 141 tmL [dx,RO,jU] [] Tryz.aBG (λv=>(({v.1.1.1 with ah:=v.2.2.2.1,Cells:=v.2.2.2.2.1}),v.1.2.1)) (.two .z (.two .z (.two .z (.two .z (.two .z (.two .z (.two .z (.cut ⟨[(3,.c (.pb 2 0)),(4,.c (.pb 3 0)),(6,.c (.pb 4 0))],[.ar (.n .ay),.ar (.n .aH),.bs .ak,o24,o26]⟩ (λv=>Az v.2.2.2.1 {v.2.2.2.2.1.1 with ah:=v.2.1,Cells:=v.2.2.1}) .z .z)))))))) (okC dz (okC Y3 (okC lK ok0))) (vS vZ (vS vZ (vS vZ (vS vZ (vS vZ (vS vZ (vS vZ (vC vZ vZ))))))))
def aa2 [Fuel]:aS:={f:=142,ps:=⟨[(0,.st .aT),(1,zS)],[]⟩,rs:=⟨[(0,.st .aT)],[]⟩,β:=aT,F:=λv=>aac v.1.1 v.1.2.1,g:=(λr=>((r,()),())),d:=λ_=>default}
theorem agx [Fuel]:bL Tryz.prog aa2:=fnI 18 tmL [] [] Tryz.azQ (λv=>v.1.1) .z ok0 vZ
def E5 [Fuel]:aS:={f:=67,ps:=auw,rs:=akA,β:=(aB×Int),F:=λv=>Vs ({v.1.1.1 with ah:=v.2.1,Cells:=v.2.2.1}) v.1.2.1,g:=(λr=>((({r.1 with ah:=([]:List ay),Cells:=([]:List aH)},((),((),()))),(r.2,())),((),((),(r.1.ah,(r.1.Cells,())))))),d:=λ_=>default}
theorem OW [Fuel]:bL Tryz.prog E5:=fnI 43 tmL [dx,aa2] [] Tryz.aBH (λv=>(({v.1.1.1 with ah:=v.2.2.2.1,Cells:=v.2.2.2.2.1}),v.1.2.1)) .z (okC dz (okC agx ok0)) vZ
def zx [Fuel]:aS:={f:=68,ps:=aq1,rs:=akA,β:=(aB×Int),F:=λv=>Ja v.1.1 ({v.1.2.1.1 with ah:=v.2.1,Cells:=v.2.2.1}) v.1.2.2.1,g:=(λr=>((({r.1 with ah:=([]:List ay),Cells:=([]:List aH)},((),((),()))),(r.2,())),((),((),(r.1.ah,(r.1.Cells,())))))),d:=λ_=>default}
theorem Kv [Fuel]:bL Tryz.prog zx:=fnI 118 tmL [dx,Gx,FU,Bt,jU] [] Tryz.aBI (λv=>(({v.1.1.1 with ah:=v.2.2.2.1,Cells:=v.2.2.2.2.1}),v.1.2.1)) (.two .z (.two .z (.cut ⟨[(3,.c (.pb 2 0)),(4,.c (.pb 3 0)),(5,.c (.pb 4 0)),(6,.c (.pb 5 0)),(8,.c (.pe 0 0))],[.ar (.n .ay),.ar (.n .aH),.bs .ak,o24,.bs .aA,o26]⟩ (λv=>Bp v.2.2.2.1 {v.2.2.2.2.1.1 with ah:=v.2.1,Cells:=v.2.2.1} v.2.2.2.2.2.1 v.1.2.2.2.2.1) .z .z))) (okC dz (okC Kt (okC HV (okC FV (okC lK ok0))))) (vS vZ (vS vZ (vC vZ vZ)))
def CJ [Fuel]:aS:={f:=69,ps:=auw,rs:=akA,β:=(aB×Int),F:=λv=>Oj ({v.1.1.1 with ah:=v.2.1,Cells:=v.2.2.1}) v.1.2.1,g:=(λr=>((({r.1 with ah:=([]:List ay),Cells:=([]:List aH)},((),((),()))),(r.2,())),((),((),(r.1.ah,(r.1.Cells,())))))),d:=λ_=>default}
theorem L9 [Fuel]:bL Tryz.prog CJ:=fnI 53 tmL [dx] [] Tryz.aBJ (λv=>(({v.1.1.1 with ah:=v.2.2.2.1,Cells:=v.2.2.2.2.1}),v.1.2.1)) .z (okC dz ok0) vZ
def zy [Fuel]:aS:={f:=70,ps:=aq1,rs:=akA,β:=(aB×Int),F:=λv=>Jb v.1.1 ({v.1.2.1.1 with ah:=v.2.1,Cells:=v.2.2.1}) v.1.2.2.1,g:=(λr=>((({r.1 with ah:=([]:List ay),Cells:=([]:List aH)},((),((),()))),(r.2,())),((),((),(r.1.ah,(r.1.Cells,())))))),d:=λ_=>default}
theorem Kw [Fuel]:bL Tryz.prog zy:=fnI 127 tmL [dx,Gx,FU,Bt,jU] [] Tryz.aBK (λv=>(({v.1.1.1 with ah:=v.2.2.2.1,Cells:=v.2.2.2.2.1}),v.1.2.1)) .z (okC dz (okC Kt (okC HV (okC FV (okC lK ok0))))) vZ
def zA [Fuel]:aS:={f:=71,ps:=auw,rs:=akA,β:=(aB×Int),F:=λv=>Jc ({v.1.1.1 with ah:=v.2.1,Cells:=v.2.2.1}) v.1.2.1,g:=(λr=>((({r.1 with ah:=([]:List ay),Cells:=([]:List aH)},((),((),()))),(r.2,())),((),((),(r.1.ah,(r.1.Cells,())))))),d:=λ_=>default}
theorem Ky [Fuel]:bL Tryz.prog zA:=fnI 31 tmL [dx] [] Tryz.aBL (λv=>(({v.1.1.1 with ah:=v.2.2.2.1,Cells:=v.2.2.2.2.1}),v.1.2.1)) .z (okC dz ok0) vZ
def Ey [Fuel]:aS:={f:=72,ps:=aq1,rs:=akA,β:=(aB×Int),F:=λv=>Sn v.1.1 ({v.1.2.1.1 with ah:=v.2.1,Cells:=v.2.2.1}) v.1.2.2.1,g:=(λr=>((({r.1 with ah:=([]:List ay),Cells:=([]:List aH)},((),((),()))),(r.2,())),((),((),(r.1.ah,(r.1.Cells,())))))),d:=λ_=>default}
theorem Nh [Fuel]:bL Tryz.prog Ey:=fnI 82 tmL [dx,jU] [] Tryz.aBM (λv=>(({v.1.1.1 with ah:=v.2.2.2.1,Cells:=v.2.2.2.2.1}),v.1.2.1)) .z (okC dz (okC lK ok0)) vZ
def Ba [Fuel]:aS:={f:=144,ps:=⟨ave,[]⟩,rs:=⟨zh,[]⟩,β:=Bool,F:=λv=>rP v.1.1 v.1.2.1,g:=(λr=>((r,()),())),d:=λ_=>default}
theorem Ez [Fuel]:bL Tryz.prog Ba:=fnI 9 tmL [FR] [] Tryz.azR (λv=>v.1.1) .z (okC Hz ok0) vZ
def Yz [Fuel]:aS:={f:=143,ps:=⟨ave,[]⟩,rs:=⟨zh,[]⟩,β:=Bool,F:=λv=>Sq v.1.1 v.1.2.1,g:=(λr=>((r,()),())),d:=λ_=>default}
theorem aeg [Fuel]:bL Tryz.prog Yz:=fnI 25 tmL [Ba] [] Tryz.azS (λv=>v.1.1) .z (okC Ez ok0) vZ
def EA [Fuel]:aS:={f:=73,ps:=aq1,rs:=akA,β:=(aB×Int),F:=λv=>Sr v.1.1 ({v.1.2.1.1 with ah:=v.2.1,Cells:=v.2.2.1}) v.1.2.2.1,g:=(λr=>((({r.1 with ah:=([]:List ay),Cells:=([]:List aH)},((),((),()))),(r.2,())),((),((),(r.1.ah,(r.1.Cells,())))))),d:=λ_=>default}
theorem Ni [Fuel]:bL Tryz.prog EA:=fnI 121 tmL [Yz,dx,Ba] [] Tryz.aBN (λv=>(({v.1.1.1 with ah:=v.2.2.2.1,Cells:=v.2.2.2.2.1}),v.1.2.1)) (.two .z (.two .z (.two .z (.two .z (.two (.two .z (.one (.lp aAk (λn v=>yV v.2.2.2.1 {v.2.2.2.2.1.1 with ah:=v.2.1,Cells:=v.2.2.1} v.2.2.2.2.2.1 v.2.2.2.2.2.2.2.1 v.1.2.2.2.2.1 n v.1.2.2.2.2.2.2.1 v.1.2.2.2.2.2.2.2.1) ala=>(.two .z (.cut aAk (λv=>Jd (λy1 y2=>Pj (((),((),((),((),(v.1.2.2.2.2.1,((),(y1,(y2,())))))))),({v.2.2.2.2.1.1 with ah:=v.2.1,Cells:=v.2.2.1}.ah,({v.2.2.2.2.1.1 with ah:=v.2.1,Cells:=v.2.2.1}.Cells,(v.2.2.2.1,(({v.2.2.2.2.1.1 with ah:=v.2.1,Cells:=v.2.2.1},((),((),()))),(v.2.2.2.2.2.1,(({v.2.2.2.2.2.2.1.1 with ah:= [],Cells:= []},((),((),()))),(v.2.2.2.2.2.2.2.1,()))))))))) v.1.2.2.2.2.2.2.2.1 v.1.2.2.2.2.2.2.1) .z .z))))) .z))))) (okC aeg (okC dz (okC Ez ok0))) (vS vZ (vS vZ (vS vZ (vS vZ (vS (vS vZ (vB (vL λ_=>(vS vZ (vC vZ vZ))))) vZ)))))
def EB [Fuel]:aS:={f:=74,ps:=auw,rs:=akA,β:=(aB×Int),F:=λv=>Sv ({v.1.1.1 with ah:=v.2.1,Cells:=v.2.2.1}) v.1.2.1,g:=(λr=>((({r.1 with ah:=([]:List ay),Cells:=([]:List aH)},((),((),()))),(r.2,())),((),((),(r.1.ah,(r.1.Cells,())))))),d:=λ_=>default}
theorem Nj [Fuel]:bL Tryz.prog EB:=fnI 89 tmL [dx,Ba] [] Tryz.aBO (λv=>(({v.1.1.1 with ah:=v.2.2.2.1,Cells:=v.2.2.2.2.1}),v.1.2.1)) (.two .z (.two .z (.two .z (.two (.two .z (.one (.lp ⟨[(2,.c (.pb 2 0)),(3,.c (.pb 3 0)),(4,.c (.pb 4 0)),(6,.c (.pe 1 0)),(7,zS)],[.ar (.n .ay),.ar (.n .aH),o24,.bs .aA,o26]⟩ (λn v=>yX {v.2.2.2.1.1 with ah:=v.2.1,Cells:=v.2.2.1} v.2.2.2.2.1 v.1.2.2.2.1 n v.1.2.2.2.2.1) alb=> .z))) .z)))) (okC dz (okC Ez ok0)) (vS vZ (vS vZ (vS vZ (vS (vS vZ (vB (vL λ_=>vZ))) vZ))))
def CO [Fuel]:aS:={f:=75,ps:=aq1,rs:=akA,β:=(aB×Int),F:=λv=>Ol v.1.1 ({v.1.2.1.1 with ah:=v.2.1,Cells:=v.2.2.1}) v.1.2.2.1,g:=(λr=>((({r.1 with ah:=([]:List ay),Cells:=([]:List aH)},((),((),()))),(r.2,())),((),((),(r.1.ah,(r.1.Cells,())))))),d:=λ_=>default}
theorem Ma [Fuel]:bL Tryz.prog CO:=fnI 68 tmL [Ba,dx] [] Tryz.aBP (λv=>(({v.1.1.1 with ah:=v.2.2.2.1,Cells:=v.2.2.2.2.1}),v.1.2.1)) (.two .z (.two .z (.two (.two .z (.one (.lp ⟨[(3,.c (.pb 2 0)),(4,.c (.pb 3 0)),(5,.c (.pb 4 0)),(6,.c (.pb 5 0)),(8,zS)],[.ar (.n .ay),.ar (.n .aH),.bs .ak,o24,.bs .aA,o26]⟩ (λn v=>wC v.2.2.2.1 {v.2.2.2.2.1.1 with ah:=v.2.1,Cells:=v.2.2.1} v.2.2.2.2.2.1 n v.1.2.2.2.2.1) ajV=> .z))) .z))) (okC Ez (okC dz ok0)) (vS vZ (vS vZ (vS (vS vZ (vB (vL λ_=>vZ))) vZ)))
def Bb [Fuel]:aS:={f:=77,ps:=aAC,rs:=akA,β:=(aB×Int),F:=λv=>K7 v.1.1 ({v.1.2.1.1 with ah:=v.2.1,Cells:=v.2.2.1}),g:=(λr=>((({r.1 with ah:=([]:List ay),Cells:=([]:List aH)},((),((),()))),(r.2,())),((),((),(r.1.ah,(r.1.Cells,())))))),d:=λ_=>default}
theorem KO [Fuel]:bL Tryz.prog Bb:=fnI 66 tmL [dx] [] Tryz.aBQ (λv=>(({v.1.1.1 with ah:=v.2.2.2.1,Cells:=v.2.2.2.2.1}),v.1.2.1)) (.two .z (.two .z (.two (.two .z (.one (.lp ⟨[(2,.c (.pb 2 0)),(3,.c (.pb 3 0)),(4,.c (.pb 4 0)),(6,zS)],[.ar (.n .ay),.ar (.n .aH),.bs .ak,o24,o26]⟩ (λn v=>tJ v.2.2.2.1 {v.2.2.2.2.1.1 with ah:=v.2.1,Cells:=v.2.2.1} n v.1.2.2.2.1) ah5=> .z))) .z))) (okC dz ok0) (vS vZ (vS vZ (vS (vS vZ (vB (vL λ_=>vZ))) vZ)))
def CQ [Fuel]:aS:={f:=30,ps:=⟨w92,[]⟩,rs:=avk,β:=(aB×Int),F:=λv=>Oo v.1.1 v.1.2.1 v.1.2.2.1,g:=(λr=>((({r.1 with ah:=([]:List ay),Cells:=([]:List aH)},((),((),()))),(r.2,())),(r.1.ah,(r.1.Cells,())))),d:=λ_=>default}
theorem Mc [Fuel]:bL Tryz.prog CQ:=fnI 201 tmL [WG,dx,A9,CF,CG,E5,zx,CJ,zy,zA,Ey,EA,EB,CO,FR,Bb] [] Tryz.func30 (λv=>(({v.1.1.1 with ah:=v.2.1,Cells:=v.2.2.1}),v.1.2.1)) (.two .z (.two .z (.two .z (.two .z (.cut ⟨[(4,.c (.pb 0 0)),(6,.c (.pb 3 0))],[o23,.ar (.n .ay),.ar (.n .aH),o26]⟩ (λv=>nE {v.2.1.1 with ah:=v.2.2.1,Cells:=v.2.2.2.1}) .z .z))))) (okC abS (okC dz (okC KN (okC L6 (okC L8 (okC OW (okC Kv (okC L9 (okC Kw (okC Ky (okC Nh (okC Ni (okC Nj (okC Ma (okC Hz (okC KO ok0)))))))))))))))) (vS vZ (vS vZ (vS vZ (vS vZ (vC vZ vZ)))))
def Nk [Fuel]:aS:={f:=8,ps:=⟨[(0,.c (.ty (.l (.i .i64)))),(1,.st .ak),(2,zS)],[]⟩,rs:=⟨alh,[.ar (.n .aA)]⟩,β:=(List aA),F:=λv=>Vt v.1.1 v.1.2.1 v.1.2.2.1,g:=(λr=>(((),()),(r,()))),d:=λ_=>default}
theorem WH [Fuel]:bL Tryz.prog Nk:=fnI 44 tmL [Xw,EZ,PO,Yw,CQ] [] Tryz.func8 (λv=>v.2.1) (.two .z (.two .z (.two .z (.two .z (.two (.one (.lp aAu (λn v=>JU v.2.1 v.1.1 n v.2.2.1 v.2.2.2.1 v.2.2.2.2.1) an1=>(.cut aAu (λv=>Uu (λy1 y2 y3=>LM ((v.1.1,((),((),((),((),()))))),(v.2.1,(y1,(y2,(y3,())))))) v.2.1 v.2.2.2.1 v.2.2.2.2.1 v.2.2.1) .z .z))) .z))))) (okC aaT (okC OU (okC XD (okC aee (okC Mc ok0))))) (vS vZ (vS vZ (vS vZ (vS vZ (vS (vB (vL λ_=>(vC vZ vZ))) vZ)))))
def pX [Fuel]:aS:={f:=164,ps:=⟨aAc,[]⟩,rs:=⟨[(0,zS)],[]⟩,β:=Int,F:=λv=>kV v.1.1 v.1.2.1,g:=(λr=>((r,()),())),d:=λ_=>default}
theorem z8 [Fuel]:bL Tryz.prog pX:=fnI 19 tmL [] [] Tryz.azT (λv=>v.1.1) (.two .z (.two (.two .z (.one (.lp ⟨[(0,.c (.ty (.l (.n .aI)))),(3,.c (.pb 0 0)),(7,zS),(8,zS)],[.bs .aI]⟩ (λn v=>bY v.1.1 v.2.1 v.1.2.2.1 n v.1.2.2.2.1) Qn=> .z))) .z)) ok0 (vS vZ (vS (vS vZ (vB (vL λ_=>vZ))) vZ))
def nW [Fuel]:aS:={f:=84,ps:=⟨aAc,[]⟩,rs:=⟨zh,[]⟩,β:=Bool,F:=λv=>gZ v.1.1 v.1.2.1,g:=(λr=>((r,()),())),d:=λ_=>default}
theorem xH [Fuel]:bL Tryz.prog nW:=fnI 9 tmL [pX] [] Tryz.aBR (λv=>v.1.1) .z (okC z8 ok0) vZ
def YA [Fuel]:aS:={f:=165,ps:=⟨w88,[]⟩,rs:=⟨[(0,zS)],[]⟩,β:=Int,F:=λv=>MP v.1.1 v.1.2.1 v.1.2.2.1,g:=(λr=>((r,()),())),d:=λ_=>default}
theorem aeh [Fuel]:bL Tryz.prog YA:=fnI 16 tmL [BX,Kq,RH] [] Tryz.azU (λv=>v.1.1) .z (okC CB (okC PL (okC WA ok0))) vZ
def YB [Fuel]:aS:={f:=166,ps:=⟨w88,[]⟩,rs:=⟨[(0,zS)],[]⟩,β:=Int,F:=λv=>MQ v.1.1 v.1.2.1 v.1.2.2.1,g:=(λr=>((r,()),())),d:=λ_=>default}
theorem aei [Fuel]:bL Tryz.prog YB:=fnI 16 tmL [BX,OT,RI] [] Tryz.azV (λv=>v.1.1) .z (okC CB (okC TY (okC WB ok0))) vZ
def E8 [Fuel]:aS:={f:=85,ps:=⟨an8,[o28,.ar (.n .aK)]⟩,rs:=avl,β:=(Bool×aX),F:=λv=>zQ ({v.2.1.1 with places:=v.2.2.1}) v.1.2.1,g:=(λr=>((r.1,()),g41 r.2)),d:=λ_=>default,ro:=some {R:=Bool,Fr:=λv=>jT ({v.2.1.1 with places:=v.2.2.1}) v.1.2.1,dr:=default,pr:=λx v=>(x,({v.2.1.1 with places:=v.2.2.1})),hF:=λ_=>Oq _ _},hr:=λq h v x=>by cases h;rfl}
theorem OX [Fuel]:bL Tryz.prog E8:=fnI 41 tmL [YA,YB] [] Tryz.aBS (λv=>(v.1.1,({v.2.1.1 with places:=v.2.2.1}))) .z (okC aeh (okC aei ok0)) vZ
def ow [Fuel] (nr:Nat):aS:={f:=34,ps:=⟨afp,[o28,.ar (.n .aK)]⟩,rs:=avl,β:=(Bool×aX),F:=λv=>fF nr ({v.2.1.1 with places:=v.2.2.1}),g:=(λr=>((r.1,()),g41 r.2)),d:=λv=>(default,{v.2.1.1 with places:=v.2.2.1}),dk:=true,hd:=λ_ _=>rfl}
def II [Fuel] (nr:Nat):aS:={f:=86,ps:=⟨an8,[o28,.ar (.n .aK)]⟩,rs:=avl,β:=(Bool×aX),F:=λv=>xg (fF nr) ({v.2.1.1 with places:=v.2.2.1}) v.1.2.1,g:=(λr=>((r.1,()),g41 r.2)),d:=λv=>(default,{v.2.1.1 with places:=v.2.2.1}),dk:=true,hd:=λ_ _=>rfl}
theorem RP [Fuel] (nr:Nat) (ih:bL Tryz.prog (ow nr)):bL Tryz.prog (II nr):=fnD 83 tmL [Gw,(ow nr)] [] 3 (Tryz.f167.body.getD .skip) Tryz.aBT (λv=>(v.1.1,({v.2.1.1 with places:=v.2.2.1}))) (.two .z (.two .z (.two .z (.dist .z .z (.two .z (.df ⟨[(0,.c (.pb 0 0)),(5,.c (.pb 2 0))],[o28,.ar (.n .aK),.bx [.pe 1 1]]⟩ (λv=>yu (fF nr) {v.2.1.1 with places:=v.2.2.1} v.2.2.2.1.1) 56 2 (.two (.two .z (.one (.lp aAQ (λn v=>kP (fF nr) v.2.2.2.1.1 v.1.2.2.1 n {v.2.1.1 with places:=v.2.2.1} v.1.2.2.2.1) abT=>(.two .z (.two .z (.cut aAQ (λv=>rQ (λy1 y2=>Cq (((),((),(v.1.2.2.1,(y2,())))),((y1,((),())),(y1.places,((v.2.2.2.1.1,()),()))))) v.1.2.2.2.1 {v.2.1.1 with places:=v.2.2.1}) .z .z)))))) .z))) (.two .z (.df ⟨[(0,.c (.pb 0 0)),(5,.c (.pb 2 0))],[o28,.ar (.n .aK),.bx [.pe 1 0]]⟩ (λv=>yw (fF nr) {v.2.1.1 with places:=v.2.2.1} v.2.2.2.1.1) 56 2 (.two (.two .z (.one (.lp aAR (λn v=>kQ (fF nr) v.2.2.2.1.1 v.1.2.2.1 n {v.2.1.1 with places:=v.2.2.1} v.1.2.2.2.1) abU=>(.two .z (.two .z (.cut aAR (λv=>rR (λy1 y2=>Cr (((),((),(v.1.2.2.1,(y2,())))),((y1,((),())),(y1.places,((v.2.2.2.1.1,()),()))))) v.1.2.2.2.1 {v.2.1.1 with places:=v.2.2.1}) .z .z)))))) .z))))))) (okC Ko (okC ih ok0)) (wT vZ (wT vZ (wT vZ (wI vZ (wT vZ (wF ⟨_,_,_,5,167,_,Tryz.f167,rfl,rfl,rfl,rfl,rfl,rfl,rfl,rfl,rfl,Nat.le_of_ble_eq_true rfl,by intro v;rfl,Tryz.arZ,rfl,by intro vs w;rfl,rfl,Nat.le_of_ble_eq_true rfl,rfl⟩ (vS (vS vZ (vB (vL λ_=>(vS vZ (vS vZ (vC vZ vZ)))))) vZ))) vZ (wT vZ (wF ⟨_,_,_,5,167,_,Tryz.f167,rfl,rfl,rfl,rfl,rfl,rfl,rfl,rfl,rfl,Nat.le_of_ble_eq_true rfl,by intro v;rfl,Tryz.arZ,rfl,by intro vs w;rfl,rfl,Nat.le_of_ble_eq_true rfl,rfl⟩ (vS (vS vZ (vB (vL λ_=>(vS vZ (vS vZ (vC vZ vZ)))))) vZ)))))))
theorem Bc [Fuel]:∀nr:Nat,bL Tryz.prog (ow nr)|0=>⟨by intro vs w;rfl,λv r h=>nomatch h⟩|nr+1=>fnI 91 tmL [wW,nW,E8,(II nr)] [] Tryz.func34 (λv=>(v.1.1,({v.2.1.1 with places:=v.2.2.1}))) .z (okC Eu (okC xH (okC OX (okC (RP nr (Bc nr)) ok0)))) vZ
def Uc [Fuel]:aS:={f:=11,ps:=⟨[(0,.st .aF),(1,.st .eG)],[]⟩,rs:=⟨zh,[]⟩,β:=Bool,F:=λv=>GZ v.1.1 v.1.2.1,g:=(λr=>((r,()),())),d:=λ_=>default}
theorem aa3 [Fuel]:bL Tryz.prog Uc:=fnI 53 tmL [wD,(ow fuel)] [] Tryz.func11 (λv=>v.1.1) (.two .z (.two .z (.two .z (.two (.two .z (.one (.lp ⟨[(2,.c (.pb 0 0)),(3,.c (.pb 1 0)),(5,.c (.own 2)),(30,zS),(31,zS)],[.bs .aF,.bs .eG,.ar (.n .aK)]⟩ (λn v=>nP v.2.1 v.2.2.1 v.1.2.2.2.1 n v.2.2.2.1 v.1.2.2.2.2.1) ah6=> .z))) .z)))) (okC yB (okC (Bc fuel) ok0)) (vS vZ (vS vZ (vS vZ (vS (vS vZ (vB (vL λ_=>vZ))) vZ))))
def Y4 [Fuel]:aS:={f:=3,ps:=⟨[(0,.c (.ty (.l (.i .i64)))),(1,.c (.ty (.l (.i .i64)))),(2,.st .eG)],[]⟩,rs:=⟨zh,[]⟩,β:=Bool,F:=λv=>LP v.1.1 v.1.2.1 v.1.2.2.1,g:=(λr=>((r,()),())),d:=λ_=>default}
theorem XF [Fuel] (hD:¬Dr):bL Tryz.prog Y4:=fnI 158 tmL [aaS,Yq,Ws,Ew,Nk,u7,Gw,Uc] [] Tryz.func3 (λv=>v.1.1) (.two .z (.two .z (.two .z (.two .z (.two (.two .z (.one (.lp ⟨[(1,.c (.ty (.l (.i .i64)))),(5,.c (.pb 0 0)),(7,.c (.pb 1 0)),(8,zS)],[.bs .eG,o40,.ar (.n .aW)]⟩ (λn v=>jJ v.1.1 v.2.1 n {v.2.2.1.1 with ah:=v.2.2.2.1} v.1.2.2.2.1) agy=> .z))) (.two .z (.two .z (.two .z (.two .z (.two (.two .z (.one (.lp aAl (λn v=>fV v.2.1 {v.2.2.1.1 with ah:=v.2.2.2.1} v.1.2.2.2.2.1 (m62 v.2.2.2.2.2) n {v.2.2.2.2.1.1 with Config.ah:=v.2.2.2.1} v.1.2.2.2.2.2.1) agz=>(.cut aAl (λv=>FI (λy1 y2=>lQ (((),((),((),((),(v.1.2.2.2.2.1,(y2,())))))),(v.2.1,(({v.2.2.1.1 with ah:=v.2.2.2.1},((),())),({v.2.2.1.1 with ah:=v.2.2.2.1}.ah,((y1,((),())),(((m62 v.2.2.2.2.2),((),((),()))),((m62 v.2.2.2.2.2).Places,((m62 v.2.2.2.2.2).Tree,()))))))))) v.2.1 {v.2.2.1.1 with ah:=v.2.2.2.1} v.1.2.2.2.2.1 (m62 v.2.2.2.2.2) v.1.2.2.2.2.2.1 {v.2.2.2.2.1.1 with Config.ah:=v.2.2.2.1}) .z (.two (.one (.two .z (.two .z (.two .z (.two (.two .z (.one (.lp ⟨[(5,.c (.pb 0 0)),(7,.c (.pb 1 0)),(9,.c (.pb 3 0)),(10,.c (.pb 4 0)),(12,.c (.ty (.l (.n .aA)))),(13,zS),(14,.c (.pb 7 0)),(17,.c (.ty .b)),(18,zS)],[.bs .eG,o40,.ar (.n .aW),o37,o25,.ar (.n .aK),.ar (.n .dQ),.bw .aB [(2,.own 8),(3,.own 9)],.ar (.n .ay),.ar (.n .aH)]⟩ (λn v=>jI (λy1 y2=>lQ (((),((),((),((),(v.1.2.2.2.2.1,(y2,())))))),(v.2.1,(({v.2.2.1.1 with ah:=v.2.2.2.1},((),())),({v.2.2.1.1 with ah:=v.2.2.2.1}.ah,((y1,((),())),(((m62 v.2.2.2.2.2),((),((),()))),((m62 v.2.2.2.2.2).Places,((m62 v.2.2.2.2.2).Tree,()))))))))) v.2.1 {v.2.2.1.1 with ah:=v.2.2.2.1} (m62 v.2.2.2.2.2) v.1.2.2.2.2.2.1 {v.2.2.2.2.2.2.2.2.1.1 with ah:=v.2.2.2.2.2.2.2.2.2.1,Cells:=v.2.2.2.2.2.2.2.2.2.2.1} n {v.2.2.2.2.1.1 with Config.ah:=v.2.2.2.1} v.1.2.2.2.2.2.2.2.1 v.1.2.2.2.2.2.2.2.2.1) agA=> .z))) .z))))) .z))))) .z)))))))))) (okC (agl hD) (okC ad8 (okC abJ (okC Ng (okC WH (okC Cz (okC Ko (okC aa3 ok0)))))))) (vS vZ (vS vZ (vS vZ (vS vZ (vS (vS vZ (vB (vL λ_=>vZ))) (vS vZ (vS vZ (vS vZ (vS vZ (vS (vS vZ (vB (vL λ_=>(vC vZ (vS (vB (vS vZ (vS vZ (vS vZ (vS (vS vZ (vB (vL λ_=>vZ))) vZ))))) vZ))))) vZ))))))))))
end Go.Proofs
namespace Go.Proofs.YtodbmegkcniehaaGreat.topRefuted
open Go.ChangeShapes Go.WideShapes Go.ChangeAt Go.RowKit Go.AM Go.CP
open Go.ChangeMaps (open_string shut_string)
theorem own:ownKnob Tryz.prog.godebug=none:=by kernel_rfl
theorem laidOut:laidOutB Tryz.prog=true:=by kernel_rfl
theorem c3:Tryz.prog.cellsOf 3=1:=by kernel_rfl
theorem c23:Tryz.prog.cellsOf 23=1:=by kernel_rfl
theorem c24:Tryz.prog.cellsOf 24=1:=by kernel_rfl
theorem c26:Tryz.prog.cellsOf 26=2:=by kernel_rfl
theorem aBU:Tryz.prog.cellsOf 101=2:=by kernel_rfl
theorem aBV:Tryz.prog.cellsOf 153=5:=by kernel_rfl
theorem aBW:Tryz.prog.cellsOf 155=8:=by kernel_rfl
def aqm (s:CP.aK):Prop:=(Lit.int .i64 s.Home).wf=true/\(Lit.int .i64 s.aN).wf=true/\True
theorem atT [Fuel] {H:Type} {UO:TypeId×Value->H} {w:World} {base:Nat} {spare:Nat->Bool} {held:Bool}:Opn UO Tryz.prog w base spare held 101 abW aqm:=by
 intro n cs x h
 obtain⟨xs,k,_,_,hl,hxl,hf⟩:=DataW.trod_struct Tryz.aps h
 rw [aBU]at hl
 have hxl:xs.length=2:=hxl
 obtain⟨v0,cs0,rfl,hl0⟩:=gF hl
 obtain⟨v1,cs1,rfl,hl1⟩:=gF hl0
 obtain rfl:=List.eq_nil_of_length_eq_zero hl1
 obtain⟨y0,xs0,rfl,ar0⟩:=gF hxl
 obtain⟨y1,xs1,rfl,atU⟩:=gF ar0
 have g0:DataW.trod UO Tryz.prog w base spare held k 3 (([v0,v1].drop 0).take (Tryz.prog.cellsOf 3))=some y0:=hf 0 _ rfl
 rw [c3]at g0
 obtain⟨a0,i0,s0⟩:=(Ie Tryz.lJ) _ _ _ g0
 have g1:DataW.trod UO Tryz.prog w base spare held k 3 (([v0,v1].drop 1).take (Tryz.prog.cellsOf 3))=some y1:=hf 1 _ rfl
 rw [c3]at g1
 obtain⟨a1,i1,s1⟩:=(Ie Tryz.lJ) _ _ _ g1
 exact⟨⟨a0,a1⟩,⟨i0,i1,trivial⟩,(D7 s0 s1)⟩
def aqn (s:CP.aI):Prop:=(Lit.int .i64 s.Rule).wf=true/\(Lit.int .i64 s.aD).wf=true/\(Lit.int .i64 s.Other).wf=true/\(Lit.int .i64 s.Cell).wf=true/\(Lit.int .i64 s.Region).wf=true/\True
theorem atV [Fuel] {H:Type} {UO:TypeId×Value->H} {w:World} {base:Nat} {spare:Nat->Bool} {held:Bool}:Opn UO Tryz.prog w base spare held 153 Zi aqn:=by
 intro n cs x h
 obtain⟨xs,k,_,_,hl,hxl,hf⟩:=DataW.trod_struct Tryz.apt h
 rw [aBV]at hl
 have hxl:xs.length=5:=hxl
 obtain⟨v0,cs0,rfl,hl0⟩:=gF hl
 obtain⟨v1,cs1,rfl,hl1⟩:=gF hl0
 obtain⟨v2,cs2,rfl,hl2⟩:=gF hl1
 obtain⟨v3,cs3,rfl,hl3⟩:=gF hl2
 obtain⟨v4,cs4,rfl,hl4⟩:=gF hl3
 obtain rfl:=List.eq_nil_of_length_eq_zero hl4
 obtain⟨y0,xs0,rfl,ar0⟩:=gF hxl
 obtain⟨y1,xs1,rfl,atU⟩:=gF ar0
 obtain⟨y2,xs2,rfl,azW⟩:=gF atU
 obtain⟨y3,xs3,rfl,aBX⟩:=gF azW
 obtain⟨y4,xs4,rfl,aDj⟩:=gF aBX
 have g0:DataW.trod UO Tryz.prog w base spare held k 3 (([v0,v1,v2,v3,v4].drop 0).take (Tryz.prog.cellsOf 3))=some y0:=hf 0 _ rfl
 rw [c3]at g0
 obtain⟨a0,i0,s0⟩:=(Ie Tryz.lJ) _ _ _ g0
 have g1:DataW.trod UO Tryz.prog w base spare held k 3 (([v0,v1,v2,v3,v4].drop 1).take (Tryz.prog.cellsOf 3))=some y1:=hf 1 _ rfl
 rw [c3]at g1
 obtain⟨a1,i1,s1⟩:=(Ie Tryz.lJ) _ _ _ g1
 have g2:DataW.trod UO Tryz.prog w base spare held k 3 (([v0,v1,v2,v3,v4].drop 2).take (Tryz.prog.cellsOf 3))=some y2:=hf 2 _ rfl
 rw [c3]at g2
 obtain⟨a2,i2,s2⟩:=(Ie Tryz.lJ) _ _ _ g2
 have g3:DataW.trod UO Tryz.prog w base spare held k 3 (([v0,v1,v2,v3,v4].drop 3).take (Tryz.prog.cellsOf 3))=some y3:=hf 3 _ rfl
 rw [c3]at g3
 obtain⟨a3,i3,s3⟩:=(Ie Tryz.lJ) _ _ _ g3
 have g4:DataW.trod UO Tryz.prog w base spare held k 3 (([v0,v1,v2,v3,v4].drop 4).take (Tryz.prog.cellsOf 3))=some y4:=hf 4 _ rfl
 rw [c3]at g4
 obtain⟨a4,i4,s4⟩:=(Ie Tryz.lJ) _ _ _ g4
 exact⟨⟨a0,a1,a2,a3,a4⟩,⟨i0,i1,i2,i3,i4,trivial⟩,(D7 s0 (D7 s1 (D7 s2 (D7 s3 s4))))⟩
def aqo (s:CP.dQ):Prop:=(Lit.int .i64 s.Kind).wf=true/\(Lit.int .i64 s.Var).wf=true/\(Lit.int .i64 s.Set).wf=true/\aqn s.jB/\True
theorem atW [Fuel] {H:Type} {UO:TypeId×Value->H} {w:World} {base:Nat} {spare:Nat->Bool} {held:Bool}:Opn UO Tryz.prog w base spare held 155 aep aqo:=by
 intro n cs x h
 obtain⟨xs,k,_,_,hl,hxl,hf⟩:=DataW.trod_struct Tryz.apu h
 rw [aBW]at hl
 have hxl:xs.length=4:=hxl
 obtain⟨v0,cs0,rfl,hl0⟩:=gF hl
 obtain⟨v1,cs1,rfl,hl1⟩:=gF hl0
 obtain⟨v2,cs2,rfl,hl2⟩:=gF hl1
 obtain⟨v3,cs3,rfl,hl3⟩:=gF hl2
 obtain⟨v4,cs4,rfl,hl4⟩:=gF hl3
 obtain⟨v5,cs5,rfl,hl5⟩:=gF hl4
 obtain⟨v6,cs6,rfl,hl6⟩:=gF hl5
 obtain⟨v7,cs7,rfl,hl7⟩:=gF hl6
 obtain rfl:=List.eq_nil_of_length_eq_zero hl7
 obtain⟨y0,xs0,rfl,ar0⟩:=gF hxl
 obtain⟨y1,xs1,rfl,atU⟩:=gF ar0
 obtain⟨y2,xs2,rfl,azW⟩:=gF atU
 obtain⟨y3,xs3,rfl,aBX⟩:=gF azW
 have g0:DataW.trod UO Tryz.prog w base spare held k 3 (([v0,v1,v2,v3,v4,v5,v6,v7].drop 0).take (Tryz.prog.cellsOf 3))=some y0:=hf 0 _ rfl
 rw [c3]at g0
 obtain⟨a0,i0,s0⟩:=(Ie Tryz.lJ) _ _ _ g0
 have g1:DataW.trod UO Tryz.prog w base spare held k 3 (([v0,v1,v2,v3,v4,v5,v6,v7].drop 1).take (Tryz.prog.cellsOf 3))=some y1:=hf 1 _ rfl
 rw [c3]at g1
 obtain⟨a1,i1,s1⟩:=(Ie Tryz.lJ) _ _ _ g1
 have g2:DataW.trod UO Tryz.prog w base spare held k 3 (([v0,v1,v2,v3,v4,v5,v6,v7].drop 2).take (Tryz.prog.cellsOf 3))=some y2:=hf 2 _ rfl
 rw [c3]at g2
 obtain⟨a2,i2,s2⟩:=(Ie Tryz.lJ) _ _ _ g2
 have g3:DataW.trod UO Tryz.prog w base spare held k 153 (([v0,v1,v2,v3,v4,v5,v6,v7].drop 3).take (Tryz.prog.cellsOf 153))=some y3:=hf 3 _ rfl
 rw [aBV]at g3
 obtain⟨a3,i3,s3⟩:=atV _ _ _ g3
 exact⟨⟨a0,a1,a2,a3⟩,⟨i0,i1,i2,i3,trivial⟩,(D7 s0 (D7 s1 (D7 s2 s3)))⟩
def atX (s:CP.eG):Prop:=(∀y∈s.Places,aqm y)/\(∀y∈s.Tree,aqo y)/\True
theorem azX [Fuel] {H:Type} {UO:TypeId×Value->H} {w:World} {base:Nat} {spare:Nat->Bool} {held:Bool}:Opn UO Tryz.prog w base spare held 26 Zj atX:=by
 intro n cs x h
 obtain⟨xs,k,_,_,hl,hxl,hf⟩:=DataW.trod_struct Tryz.agB h
 rw [c26]at hl
 have hxl:xs.length=2:=hxl
 obtain⟨v0,cs0,rfl,hl0⟩:=gF hl
 obtain⟨v1,cs1,rfl,hl1⟩:=gF hl0
 obtain rfl:=List.eq_nil_of_length_eq_zero hl1
 obtain⟨y0,xs0,rfl,ar0⟩:=gF hxl
 obtain⟨y1,xs1,rfl,atU⟩:=gF ar0
 have g0:DataW.trod UO Tryz.prog w base spare held k 23 (([v0,v1].drop 0).take (Tryz.prog.cellsOf 23))=some y0:=hf 0 _ rfl
 rw [c23]at g0
 obtain⟨a0,i0,s0⟩:=(VI (τ:=(.n .aK)) Tryz.aqp aBU (by decide) rfl (λn cs x h=>atT n cs x h)) _ _ _ g0
 have g1:DataW.trod UO Tryz.prog w base spare held k 24 (([v0,v1].drop 1).take (Tryz.prog.cellsOf 24))=some y1:=hf 1 _ rfl
 rw [c24]at g1
 obtain⟨a1,i1,s1⟩:=(VI (τ:=(.n .dQ)) Tryz.aqr aBW (by decide) rfl (λn cs x h=>atW n cs x h)) _ _ _ g1
 exact⟨⟨a0,a1⟩,⟨i0,i1,trivial⟩,(D7 s0 s1)⟩
theorem azY [Fuel] (hD:¬Dr) (w:World) (a0:Option Addr) (auM cap0:Nat) (xs0:List Int) (i0:∀y∈xs0,(Lit.int .i64 y).wf=true) (s0:nX w (λ_=>none) (λ_=>False) (.one (.s (.c (.ls (.i .i64) xs0)))) (.slice a0 auM cap0)) (a1:Option Addr) (len1 auN:Nat) (xs1:List Int) (i1:∀y∈xs1,(Lit.int .i64 y).wf=true) (s1:nX w (λ_=>none) (λ_=>False) (.one (.s (.c (.ls (.i .i64) xs1)))) (.slice a1 len1 auN)) (a2:Array Value) (x2:CP.eG) (i2:atX x2) (s2:nX w (λ_=>none) (λ_=>False) (.one (.agg ((Zj x2).map .c))) (.agg a2)):
  Calls Tryz.prog 3 #[.slice a0 auM cap0,.slice a1 len1 auN,.agg a2] w λe w'=>e= .returned (.bool true)/\Below w.heap.size w w':=
 bL.below (XF hD) ((xs0,xs1,x2,()),()) (r:=true) (aaw (λx hx=>wf_i64 (i0 x hx)) (λx hx=>wf_i64 (i1 x hx)) (λx hx=>wf_i64 (i2.2.1 x hx).2.1)) rfl rfl rfl (.cons s0 (.cons s1 (.cons s2 .nil)))
instance F0:Fuel:=⟨⟨_,rfl,False⟩⟩
set_option maxRecDepth 100000 in
theorem lifted (os:Os) (started:os.Started) (H:Type) (enc:TypeId×Value->H):
  ReturnsInHanded {} Tryz.checked os 3 .any (Rows.topRefutedSpec.pre6 enc Tryz.prog Tryz.f3 Rows.topRefutedRow.domain false) (Rows.topRefutedSpec.post enc Tryz.prog Tryz.f3 false true false false):=by
 refine returnsInHanded_of_change (C:=Tryz.checked) own started (by kernel_rfl) Tryz.func3
  (ChangeSpec.witness6 (enc:=enc) (C:=Tryz.checked) false ⟨#[], #[.slice none 0 0,.slice none 0 0,.agg #[.slice none 0 0,.slice none 0 0]],[]⟩ 8 (by kernel_rfl) (by kernel_rfl) (by kernel_rfl) (by kernel_rfl)) ?_
 intro W base args ds gs before hval0 hW hcnd _
 have hval:∀(j:Nat) t v,Tryz.f3.params[j]? =some t->args[j]? =some v->Value.okWide Tryz.prog W .any base t v:=hval0
 have hW':=hW
 obtain⟨p,q,hA0,hV,rfl,hfz,hnd⟩:=hW
 have hA:DataW.TrodAll enc Tryz.prog W 0 (λ_=>true) true Tryz.f3.params.toList args.toList ds p:=hA0
 rw [Tryz.params3]at hA hval
 obtain⟨v0,vs0,d0,ds0,p0,q0,hargs,rfl,rfl,h0,r0⟩:=trodAll_cons hA
 obtain⟨v1,vs1,d1,ds1,p1,q1,rfl,rfl,rfl,h1,r1⟩:=trodAll_cons r0
 obtain⟨v2,vs2,d2,ds2,p2,q2,rfl,rfl,rfl,h2,r2⟩:=trodAll_cons r1
 obtain⟨rfl,rfl,rfl⟩:=trodAll_nil r2
 obtain rfl:args= #[v0,v1,v2]:=by cases args;simp_all
 obtain⟨rfl,rfl⟩:=trodVars_none hV
 obtain⟨a0,auM,cap0,rfl⟩:=okWide_slice Tryz.underlying22 (hval 0 22 v0 rfl rfl)
 have lt0:∀x∈p0,x.block<W.heap.size:=by obtain⟨m,hm⟩:=h0;exact DataW.trod_lt m _ _ _ hm
 obtain⟨xs0,i0,s0⟩:=anO (VI (τ:=(.i .i64)) Tryz.underlying22 c3 (by decide) rfl (λn cs x h=>(Ie Tryz.lJ) n cs x h)) h0
 obtain⟨a1,len1,auN,rfl⟩:=okWide_slice Tryz.underlying22 (hval 1 22 v1 rfl rfl)
 have lt1:∀x∈p1,x.block<W.heap.size:=by obtain⟨m,hm⟩:=h1;exact DataW.trod_lt m _ _ _ hm
 obtain⟨xs1,i1,s1⟩:=anO (VI (τ:=(.i .i64)) Tryz.underlying22 c3 (by decide) rfl (λn cs x h=>(Ie Tryz.lJ) n cs x h)) h1
 obtain⟨a2,rfl,_⟩:=okWide_struct Tryz.agB (hval 2 26 v2 rfl rfl)
 have lt2:∀x∈p2,x.block<W.heap.size:=by obtain⟨m,hm⟩:=h2;exact DataW.trod_lt m _ _ _ hm
 obtain⟨x2,i2,s2⟩:=arJ azX h2
 clear hA0 hval0
 refine(@azY F0 id W a0 auM cap0 xs0 i0 s0 a1 len1 auN xs1 i1 s1 a2 x2 i2 s2).mono λe W' ⟨he,bel⟩=> ?_
 subst he
 exact⟨_,rfl,_,_,_,[],_,[],hW',trodAll_mk1 (shut_bool Tryz.JZ _),(trodAll_cons_mk (Below.trod laidOut (by kernel_rfl) (of_decide_eq_true (by kernel_rfl)) h0 bel lt0) (trodAll_cons_mk (Below.trod laidOut (by kernel_rfl) (of_decide_eq_true (by kernel_rfl)) h1 bel lt1) (trodAll_cons_mk (Below.trod laidOut (by kernel_rfl) (of_decide_eq_true (by kernel_rfl)) h2 bel lt2) trodAll_mk0))),rfl,bel.frame _,λh=>by cases h⟩
theorem kA:(Rows.topRefutedRow.inPlace==Tryz.pinned.checked.prog.inPlace 3)=true:=by kernel_rfl
theorem kB:(Rows.topRefutedRow.unfollowed==Tryz.pinned.checked.prog.unfollowed 3)=true:=by kernel_rfl
theorem kC:(Rows.topRefutedRow.recurses==Tryz.pinned.checked.prog.recurses 3)=true:=by kernel_rfl
theorem kD:(Rows.topRefutedRow.named==Tryz.pinned.checked.prog.varsNamed 3)=true:=by kernel_rfl
theorem closed:joinedFacts Tryz.pinned.checked.prog 3 Tryz.f3 Rows.topRefutedSpec Rows.topRefutedRow=true:=by
 unfold joinedFacts
 rw [kA,kB,kC,kD]
 kernel_rfl
theorem over:Rows.topRefutedRow.holds Tryz.pinned (OpenSpec.ofChange Rows.topRefutedSpec):=
 OpenClaim.holds_of_wide 3 Tryz.f3 rfl rfl rfl rfl rfl rfl rfl ⟨rfl,rfl,rfl,rfl,rfl⟩ rfl rfl rfl rfl rfl (by kernel_rfl) Tryz.func3 closed
  (of_decide_eq_true (by kernel_rfl)) (by unfold Func.isWrapper;first|(rw [if_pos (by decide+kernel)];kernel_rfl)|(rw [if_neg (by decide+kernel)];exact⟨rfl,rfl⟩))
  (λos started H enc _=>lifted os started H enc)
theorem proved:Rows.TopRefutedSaid:=over
end Go.Proofs.YtodbmegkcniehaaGreat.topRefuted
