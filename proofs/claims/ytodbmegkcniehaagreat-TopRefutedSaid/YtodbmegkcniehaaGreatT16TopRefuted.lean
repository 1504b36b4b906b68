/- The claim: YtodbmegkcniehaaGreat.TopRefuted (cellplane/cellplanetop.TopRefuted): for every input the call returns true and each argument reads as it did. By the walk of the code and the plain law. -/
import Derived.Test.YtodbmegkcniehaaGreatRows
import Derived.WalkKit
import Derived.ProofKit
import Derived.OpenShut
import Derived.ShutString
import Derived.ChangeOld
import Derived.Below
import Derived.Test.YtodbmegkcniehaaGreatP1041834a91
set_option linter.unusedSimpArgs false
set_option linter.unusedVariables false
namespace Go.Proofs
open Go Go.AM Go.CP Go.RowKit
set_option maxRecDepth 100000
def F9:aS:={f:=76,ps:=⟨akI,[]⟩,rs:=⟨zy,[]⟩,β:=Bool,F:=λv=>Hu v.1.1 v.1.2.1,g:=(λr=>((r,()),())),d:=λ_=>default}
theorem Ij [Fuel]:bL Tryz.prog F9:=fnI 19 tmL [] [] Tryz.func76 (λv=>v.1.1) .z ok0 vZ
def RA:aS:={f:=56,ps:=⟨[(0,.c (.pb 0 0)),(1,.st .ak),(2,.st .aB),(3,zS)],[.bs .aP]⟩,rs:=⟨aos,[.bs .aP]⟩,β:=(aA×aP),F:=λv=>Jo v.2.1 v.1.2.1 v.1.2.2.1 v.1.2.2.2.1,g:=(λr=>((r.1,()),(r.2,()))),d:=λv=>(default,v.2.1),dk:=true,hd:=λ_ _=>rfl}
theorem Yp [Fuel]:bL Tryz.prog RA:=fnI 112 tmL [Uw,lX,zx,F9] [] Tryz.func56 (λv=>(v.1.1,v.2.1)) (.two .z (.two .z (.two .z (.two .z (.cut ⟨[(8,.c (.pb 1 0)),(9,.c (.pb 2 0))],[.bs .aP,.bs .aA,.bs .aA]⟩ (λv=>ig v.2.1 v.2.2.2.1) (.two .z (.one (.two .z (.two .z (.two .z (.two .z (.cut ⟨[(0,.c (.pb 0 0)),(3,zS),(5,.c (.pb 1 0)),(6,.c (.pb 2 0)),(8,.c (.pb 3 0)),(9,.c (.pb 4 0)),(10,zS),(11,.c (.pb 5 0)),(25,zS),(43,.c (.ty .b))],[.bs .aP,.bs .ak,.bs .aB,.bs .aA,.bs .aA,.bs .aH]⟩ (λv=>rA v.2.2.1 v.2.2.2.1 v.1.2.1 v.2.2.2.2.2.1 v.2.2.2.2.2.2.1 v.2.1 v.1.2.2.2.2.2.2.1 v.1.2.2.2.2.2.2.2.2.1 v.1.2.2.2.2.2.2.2.2.2.1) .z (.two .z (.cut ⟨[(0,.c (.pb 0 0)),(3,zS),(5,.c (.pb 1 0)),(6,.c (.pb 2 0)),(8,.c (.pb 3 0)),(9,.c (.pb 4 0)),(10,zS),(11,.c (.pb 5 0)),(25,zS),(56,.c (.ty .b))],[.bs .aP,.bs .ak,.bs .aB,.bs .aA,.bs .aA,.bs .aH]⟩ (λv=>rz v.2.2.1 v.2.2.2.1 v.1.2.1 v.2.2.2.2.2.1 v.2.2.2.2.2.2.1 v.2.1 v.1.2.2.2.2.2.2.1 v.1.2.2.2.2.2.2.2.2.1 v.1.2.2.2.2.2.2.2.2.2.1) .z .z))))))))) .z))))) (okC XM (okC mR (okC EB (okC Ij ok0)))) (vS vZ (vS vZ (vS vZ (vS vZ (vC (vS vZ (vB (vS vZ (vD vZ (vS vZ (vD vZ (vC vZ (vD vZ (vC vZ vZ))))))))) vZ)))))
def TM:aS:={f:=283,ps:=⟨aor,[]⟩,rs:=⟨[(0,zS)],[]⟩,β:=Int,F:=λv=>QM v.1.1 v.1.2.1,g:=(λr=>((r,()),())),d:=λ_=>default}
theorem aaj [Fuel]:bL Tryz.prog TM:=fnI 20 tmL [] [] Tryz.func283 (λv=>v.1.1) .z ok0 vZ
def BK:aS:={f:=217,ps:=⟨aor,[]⟩,rs:=⟨[(0,zS)],[]⟩,β:=Int,F:=λv=>sH v.1.1 v.1.2.1,g:=(λr=>((r,()),())),d:=λ_=>default}
theorem Ga [Fuel]:bL Tryz.prog BK:=fnI 17 tmL [TM] [] Tryz.func217 (λv=>v.1.1) .z (okC aaj ok0) vZ
def Gb:aS:={f:=135,ps:=⟨aoq,[]⟩,rs:=⟨zy,[]⟩,β:=Bool,F:=λv=>D5 v.1.1 v.1.2.1 v.1.2.2.1,g:=(λr=>((r,()),())),d:=λ_=>default}
theorem Ik [Fuel]:bL Tryz.prog Gb:=fnI 28 tmL [BK,F9] [] Tryz.func135 (λv=>v.1.1) .z (okC Ga (okC Ij ok0)) vZ
def V8 [Fuel]:aS:={f:=59,ps:=⟨aor,[]⟩,rs:=⟨af7,[]⟩,β:=(List Int),F:=λv=>J7 v.1.1 v.1.2.1,g:=(λr=>((r,()),())),d:=λ_=>default}
theorem aa5 [Fuel]:bL Tryz.prog V8:=fnI 23 tmL [Gb] [] Tryz.func59 (λv=>v.1.1) (.two .z (.two .z (.two (.two .z (.one (.lp ⟨asR,[.bs .ak,.ar (.i .i64)]⟩ (λn v=>wM v.2.1 v.1.1 n v.2.2.1 v.1.2.2.2.1) λFW=>(.two .z (.cut ⟨asR,[.bs .ak,.ar (.i .i64)]⟩ (λv=>GA (λy1 y2=>FW ((v.1.1,((),((),(y2,())))),(v.2.1,(y1,())))) v.1.2.2.2.1 v.2.2.1) .z .z))))) .z))) (okC Ik ok0) (vS vZ (vS vZ (vS (vS vZ (vB (vL λ_=>(vS vZ (vC vZ vZ))))) vZ)))
def aak:aS:={f:=58,ps:=⟨[(0,.c (.pb 0 0)),(1,.c (.ty (.l (.i .i64))))],[.bs .aP]⟩,rs:=⟨[(0,zS)],[.bs .aP]⟩,β:=(Int×aP),F:=λv=>J8 v.2.1 v.1.2.1,g:=(λr=>((r.1,()),(r.2,()))),d:=λv=>(default,v.2.1),dk:=true,hd:=λ_ _=>rfl}
theorem afa [Fuel]:bL Tryz.prog aak:=fnI 15 tmL [lX] [] Tryz.func58 (λv=>(v.1.1,v.2.1)) .z (okC mR ok0) vZ
def OW:aS:={f:=136,ps:=⟨aoq,[]⟩,rs:=⟨zy,[]⟩,β:=Bool,F:=λv=>J9 v.1.1 v.1.2.1 v.1.2.2.1,g:=(λr=>((r,()),())),d:=λ_=>default}
theorem TN [Fuel]:bL Tryz.prog OW:=fnI 26 tmL [BK] [] Tryz.func136 (λv=>v.1.1) .z (okC Ga ok0) vZ
def PD [Fuel]:aS:={f:=60,ps:=⟨aoq,[]⟩,rs:=⟨af7,[]⟩,β:=(List Int),F:=λv=>A8 v.1.1 v.1.2.1 v.1.2.2.1,g:=(λr=>((r,()),())),d:=λ_=>default}
theorem Xg [Fuel]:bL Tryz.prog PD:=fnI 31 tmL [Gb,OW] [] Tryz.func60 (λv=>v.1.1) (.two .z (.two .z (.two (.two .z (.one (.lp ⟨w90,[.bs .ak,.ar (.i .i64)]⟩ (λn v=>qh v.2.1 v.1.1 v.1.2.1 n v.2.2.1 v.1.2.2.2.2.1) λAd=>(.two .z (.cut ⟨w90,[.bs .ak,.ar (.i .i64)]⟩ (λv=>zh (λy1 y2=>Ad ((v.1.1,(v.1.2.1,((),((),(y2,()))))),(v.2.1,(y1,())))) v.1.2.2.2.2.1 v.2.2.1) .z .z))))) .z))) (okC Ik (okC TN ok0)) (vS vZ (vS vZ (vS (vS vZ (vB (vL λ_=>(vS vZ (vC vZ vZ))))) vZ)))
def XO:aS:={f:=61,ps:=⟨[(0,.c (.pb 0 0)),(1,.st .ak),(2,.st .aB),(3,.st .aA)],[.bs .aP]⟩,rs:=⟨aos,[.bs .aP]⟩,β:=(aA×aP),F:=λv=>R9 v.2.1 v.1.2.1 v.1.2.2.1 v.1.2.2.2.1,g:=(λr=>((r.1,()),(r.2,()))),d:=λv=>(default,v.2.1),dk:=true,hd:=λ_ _=>rfl}
theorem adf [Fuel]:bL Tryz.prog XO:=fnI 129 tmL [EC,lX,zx] [] Tryz.func61 (λv=>(v.1.1,v.2.1)) (.two .z (.two .z (.two .z (.cut ar5 (λv=>zi v.2.2.1 v.2.2.2.1 v.2.2.2.2.2.2.1 v.2.1 v.2.2.2.2.1) .z (.two .z (.cut ar5 (λv=>D8 v.2.2.1 v.2.2.2.1 v.2.2.2.2.2.2.1 v.2.1 v.2.2.2.2.1) .z (.cut ar5 (λv=>D7 v.2.2.1 v.2.2.2.1 v.2.2.2.2.2.2.1 v.2.1 v.2.2.2.2.1) .z (.two .z (.cut ⟨[(0,.c (.pb 0 0)),(5,.c (.pb 1 0)),(6,.c (.pb 2 0)),(7,.c (.pb 3 0)),(8,.c (.pb 4 0))],[.bs .aP,.bs .ak,.bs .aB,.bs .aA,.bs .aA]⟩ (λv=>D6 v.2.2.1 v.2.2.2.1 v.2.1 v.2.2.2.2.1) .z (.two .z (.two .z (.cut ⟨[(7,.c (.pb 1 0)),(8,.c (.pb 2 0))],[.bs .aP,.bs .aA,.bs .aA]⟩ (λv=>Jp v.2.1 v.2.2.1) .z .z)))))))))))) (okC IV (okC mR (okC EB ok0))) (vS vZ (vS vZ (vS vZ (vC vZ (vS vZ (vC vZ (vC vZ (vS vZ (vC vZ (vS vZ (vS vZ (vC vZ vZ))))))))))))
def XP [Fuel]:aS:={f:=29,ps:=⟨[(0,.c (.pb 0 0)),(1,.st .ak),(2,.st .aB)],[.bs .aP]⟩,rs:=⟨aos,[.bs .aP]⟩,β:=(aA×aP),F:=λv=>Sb v.2.1 v.1.2.1 v.1.2.2.1,g:=(λr=>((r.1,()),(r.2,()))),d:=λv=>(default,v.2.1),dk:=true,hd:=λ_ _=>rfl}
theorem adg [Fuel]:bL Tryz.prog XP:=fnI 126 tmL [lX,EC,RA,Uw,V8,aak,PD,XO] [] Tryz.func29 (λv=>(v.1.1,v.2.1)) (.two .z (.two .z (.cut ⟨[(0,.c (.pb 0 0)),(4,.c (.pb 1 0)),(5,.c (.pb 2 0)),(6,.c (.pb 3 0)),(7,zS)],[.bs .aP,.bs .ak,.bs .aB,.bs .aA]⟩ (λv=>D9 v.2.2.1 v.2.2.2.1 v.2.1 v.1.2.2.2.2.1) .z (.two .z (.two .z (.two .z (.two .z (.two .z (.two .z (.cut ⟨[(6,.c (.pb 1 0)),(11,.c (.pb 2 0))],[.bs .aP,.bs .aA,.bs .aA]⟩ (λv=>pQ v.2.1 v.2.2.2.1) .z .z)))))))))) (okC mR (okC IV (okC Yp (okC XM (okC aa5 (okC afa (okC Xg (okC adf ok0)))))))) (vS vZ (vS vZ (vC vZ (vS vZ (vS vZ (vS vZ (vS vZ (vS vZ (vS vZ (vC vZ vZ))))))))))
def Sn:aS:={f:=218,ps:=⟨ark,[]⟩,rs:=⟨zy,[]⟩,β:=Bool,F:=λv=>rU v.1.1 v.1.2.1 v.1.2.2.1,g:=(λr=>((r,()),())),d:=λ_=>default}
theorem Ux [Fuel]:bL Tryz.prog Sn:=fnI 15 tmL [] [] Tryz.func218 (λv=>v.1.1) .z ok0 vZ
def XQ:aS:={f:=328,ps:=⟨[(0,zS)],[]⟩,rs:=⟨ap7,[]⟩,β:=ByteArray,F:=λv=>WE v.1.1,g:=(λr=>((r,()),())),d:=λ_=>default}
theorem adh [Fuel]:bL Tryz.prog XQ:=fnI 17 tmL [] [] Tryz.func328 (λv=>v.1.1) .z ok0 vZ
def Uy [Fuel]:aS:={f:=284,ps:=⟨[(0,zS),(1,.c (.ty (.i .u8)))],[]⟩,rs:=⟨zy,[]⟩,β:=Bool,F:=λv=>jO v.1.1 v.1.2.1,g:=(λr=>((r,()),())),d:=λ_=>default}
theorem XR [Fuel]:bL Tryz.prog Uy:=fnI 20 tmL [XQ] [] Tryz.func284 (λv=>v.1.1) (.two .z (.two .z (.two (.two .z (.one (.lp ⟨[(1,.c (.ty (.i .u8))),(5,.c (.ty .s)),(6,zS)],[]⟩ (λn v=>Lj v.1.1 v.1.2.1 n v.1.2.2.1) λalL=> .z))) .z))) (okC adh ok0) (vS vZ (vS vZ (vS (vS vZ (vB (vL λ_=>vZ))) vZ)))
def TP [Fuel]:aS:={f:=219,ps:=⟨[(0,.st .aA),(1,zS),(2,zS),(3,zS)],[]⟩,rs:=⟨zy,[]⟩,β:=Bool,F:=λv=>CQ v.1.1 v.1.2.1 v.1.2.2.1 v.1.2.2.2.1,g:=(λr=>((r,()),())),d:=λ_=>default}
theorem aal [Fuel]:bL Tryz.prog TP:=fnI 105 tmL [Uy,Sn] [] Tryz.func219 (λv=>v.1.1) (.two .z (.two .z (.two .z (.two (.one (.cut ⟨[(2,zS),(3,zS),(4,.c (.pb 0 0)),(9,zS),(30,.c (.ty .b))],[.bs .aA]⟩ (λv=>yG v.2.1 v.1.1 v.1.2.1 v.1.2.2.2.1 v.1.2.2.2.2.1) .z (.two .z (.cut ⟨[(64,.c (.ty .b))],[]⟩ (λv=>yF v.1.1) .z .z)))) .z)))) (okC XR (okC Ux ok0)) (vS vZ (vS vZ (vS vZ (vS (vB (vC vZ (vD vZ (vC vZ vZ)))) vZ))))
def RB [Fuel]:aS:={f:=220,ps:=⟨[(0,.st .aA),(1,zS)],[]⟩,rs:=⟨zy,[]⟩,β:=Bool,F:=λv=>zk v.1.1 v.1.2.1,g:=(λr=>((r,()),())),d:=λ_=>default}
theorem Yq [Fuel]:bL Tryz.prog RB:=fnI 82 tmL [Uy,Sn] [] Tryz.func220 (λv=>v.1.1) (.two .z (.two .z (.two (.one (.cut ⟨[(1,zS),(2,.c (.pb 0 0)),(5,zS),(8,.c (.ty .b))],[.bs .aA]⟩ (λv=>BH v.2.1 v.1.1 v.1.2.2.1 v.1.2.2.2.1) .z (.two .z (.cut ⟨[(1,zS),(2,.c (.pb 0 0)),(5,zS),(25,.c (.ty .b))],[.bs .aA]⟩ (λv=>wE v.2.1 v.1.1 v.1.2.2.1 v.1.2.2.2.1) .z .z)))) .z))) (okC XR (okC Ux ok0)) (vS vZ (vS vZ (vS (vB (vC vZ (vD vZ (vC vZ vZ)))) vZ)))
def V9 [Fuel]:aS:={f:=137,ps:=⟨[(0,.st .aA),(1,zS),(2,zS),(3,zS),(4,zS)],[]⟩,rs:=⟨zy,[]⟩,β:=Bool,F:=λv=>Uj v.1.1 v.1.2.1 v.1.2.2.1 v.1.2.2.2.1 v.1.2.2.2.2.1,g:=(λr=>((r,()),())),d:=λ_=>default}
theorem aa6 [Fuel]:bL Tryz.prog V9:=fnI 31 tmL [Sn,TP,RB] [] Tryz.func137 (λv=>v.1.1) .z (okC Ux (okC aal (okC Yq ok0))) vZ
def Wd [Fuel]:aS:={f:=62,ps:=⟨[(0,.st .ak),(1,.st .aA)],[]⟩,rs:=⟨zy,[]⟩,β:=Bool,F:=λv=>FX v.1.1 v.1.2.1,g:=(λr=>((r,()),())),d:=λ_=>default}
theorem aa7 [Fuel]:bL Tryz.prog Wd:=fnI 22 tmL [V9] [] Tryz.func62 (λv=>v.1.1) .z (okC aa6 ok0) vZ
def dx:aS:={f:=63,ps:=⟨[(0,zS)],[]⟩,rs:=ar7,β:=(aB×Int),F:=λv=>dY v.1.1,g:=(λr=>((({r.1 with ah:=([]:List ay),Cells:=([]:List aH)},((),((),()))),(r.2,())),(r.1.ah,(r.1.Cells,())))),d:=λ_=>default}
theorem dz [Fuel]:bL Tryz.prog dx:=fnI 6 tmL [] [] Tryz.func63 (λv=>(({v.1.1.1 with ah:=v.2.1,Cells:=v.2.2.1}),v.1.2.1)) .z ok0 vZ
def Bt:aS:={f:=64,ps:=⟨arl,[]⟩,rs:=arp,β:=aB,F:=λv=>Ll v.1.1,g:=(λr=>((({r with ah:=([]:List ay),Cells:=([]:List aH)},((),((),()))),()),(r.ah,(r.Cells,())))),d:=λ_=>default}
theorem K5 [Fuel]:bL Tryz.prog Bt:=fnI 14 tmL [] [] Tryz.func64 (λv=>({v.1.1.1 with ah:=v.2.1,Cells:=v.2.2.1})) .z ok0 vZ
def GX:aS:={f:=138,ps:=⟨asS,[]⟩,rs:=⟨zy,[]⟩,β:=Bool,F:=λv=>yH v.1.1 v.1.2.1 v.1.2.2.1,g:=(λr=>((r,()),())),d:=λ_=>default}
theorem KJ [Fuel]:bL Tryz.prog GX:=fnI 13 tmL [BK,F9] [] Tryz.func138 (λv=>v.1.1) .z (okC Ga (okC Ij ok0)) vZ
def BL:aS:={f:=139,ps:=⟨aoq,[]⟩,rs:=⟨zy,[]⟩,β:=Bool,F:=λv=>pX v.1.1 v.1.2.1 v.1.2.2.1,g:=(λr=>((r,()),())),d:=λ_=>default}
theorem Gc [Fuel]:bL Tryz.prog BL:=fnI 20 tmL [OW] [] Tryz.func139 (λv=>v.1.1) .z (okC TN ok0) vZ
def aam:aS:={f:=329,ps:=⟨[(0,.c (.own 0)),(1,zS),(2,zS)],[.ar (.i .i64)]⟩,rs:=⟨[],[.ar (.i .i64)]⟩,β:=(List Int),F:=λv=>Ka v.2.1 v.1.2.1 v.1.2.2.1,g:=(λr=>((),(r,()))),d:=λv=>v.2.1,dk:=true,hd:=λ_ _=>rfl}
theorem afb [Fuel]:bL Tryz.prog aam:=fnI 23 tmL [] [] Tryz.func329 (λv=>v.2.1) .z ok0 vZ
def Il [Fuel]:aS:={f:=285,ps:=⟨apm,[]⟩,rs:=arw,β:=(List Int),F:=λv=>Lm v.1.1 v.1.2.1,g:=(λr=>(((),()),(r,()))),d:=λ_=>default}
theorem Qe [Fuel]:bL Tryz.prog Il:=fnI 61 tmL [aam] [] Tryz.func285 (λv=>v.2.1) (.two .z (.two .z (.two (.two .z (.one (.lp atn (λn v=>nQ v.2.1 v.2.2.1 n v.2.2.2.1 v.1.2.2.2.1) λou=>(.two .z (.cut atn (λv=>Ea (λy1 y2=>ou (((),((),((),(y2,())))),(v.2.1,(v.2.2.1,(y1,()))))) v.1.2.2.2.1 v.2.2.2.1) (.one (.two .z (.two .z (.cut ⟨[(2,.c (.pb 0 0)),(3,.c (.pb 1 0)),(5,.c (.own 2)),(6,zS),(7,.c (.pb 3 0)),(8,.c (.pb 4 0))],[.bs .ak,.bs .aB,.ar (.i .i64),.bs .ay,.bs .aW]⟩ (λv=>Eb (λy1 y2=>ou (((),((),((),(y2,())))),(v.2.1,(v.2.2.1,(y1,()))))) v.1.2.2.2.1 v.2.2.2.2.1 v.2.2.2.2.2.1 v.2.2.2.1) .z .z)))) .z))))) .z))) (okC afb ok0) (vS vZ (vS vZ (vS (vS vZ (vB (vL λ_=>(vS vZ (vC (vB (vS vZ (vS vZ (vC vZ vZ)))) vZ))))) vZ)))
def KM [Fuel]:aS:={f:=221,ps:=⟨apm,[]⟩,rs:=arw,β:=(List Int),F:=λv=>Sc v.1.1 v.1.2.1,g:=(λr=>(((),()),(r,()))),d:=λ_=>default}
theorem Te [Fuel]:bL Tryz.prog KM:=fnI 33 tmL [Il] [] Tryz.func221 (λv=>v.2.1) (.two .z (.two .z (.two .z (.two (.two .z (.one (.lp ato (λn v=>vo v.2.1 v.2.2.2.1 n v.2.2.1 v.1.2.2.2.1) λII=>(.two .z (.cut ato (λv=>Jq (λy1 y2=>II (((),((),((),(y2,())))),(v.2.1,(y1,(v.2.2.2.1,()))))) v.1.2.2.2.1 v.2.2.1) .z .z))))) .z)))) (okC Qe ok0) (vS vZ (vS vZ (vS vZ (vS (vS vZ (vB (vL λ_=>(vS vZ (vC vZ vZ))))) vZ))))
def jX [Fuel]:aS:={f:=140,ps:=ate,rs:=aiz,β:=(aB×Int),F:=λv=>Ec v.1.1 ({v.1.2.1.1 with ah:=v.2.1,Cells:=v.2.2.1}),g:=(λr=>((({r.1 with ah:=([]:List ay),Cells:=([]:List aH)},((),((),()))),(r.2,())),((),((),(r.1.ah,(r.1.Cells,())))))),d:=λ_=>default}
theorem lQ [Fuel]:bL Tryz.prog jX:=fnI 13 tmL [KM] [] Tryz.func140 (λv=>(({v.1.1.1 with ah:=v.2.2.2.1,Cells:=v.2.2.2.2.1}),v.1.2.1)) .z (okC Te ok0) vZ
def C9 [Fuel]:aS:={f:=65,ps:=aot,rs:=aiz,β:=(aB×Int),F:=λv=>Oj v.1.1 ({v.1.2.1.1 with ah:=v.2.1,Cells:=v.2.2.1}) v.1.2.2.1,g:=(λr=>((({r.1 with ah:=([]:List ay),Cells:=([]:List aH)},((),((),()))),(r.2,())),((),((),(r.1.ah,(r.1.Cells,())))))),d:=λ_=>default}
theorem Ml [Fuel]:bL Tryz.prog C9:=fnI 119 tmL [dx,GX,Gb,BL,jX] [] Tryz.func65 (λv=>(({v.1.1.1 with ah:=v.2.2.2.1,Cells:=v.2.2.2.2.1}),v.1.2.1)) .z (okC dz (okC KJ (okC Ik (okC Gc (okC lQ ok0))))) vZ
def RD:aS:={f:=141,ps:=⟨w92,[]⟩,rs:=⟨[(0,zS)],[]⟩,β:=Int,F:=λv=>Jr v.1.1 v.1.2.1 v.1.2.2.1,g:=(λr=>((r,()),())),d:=λ_=>default}
theorem Yr [Fuel]:bL Tryz.prog RD:=fnI 134 tmL [] [] Tryz.func141 (λv=>v.1.1) .z ok0 vZ
def Da [Fuel]:aS:={f:=66,ps:=aot,rs:=aiz,β:=(aB×Int),F:=λv=>Ol v.1.1 ({v.1.2.1.1 with ah:=v.2.1,Cells:=v.2.2.1}) v.1.2.2.1,g:=(λr=>((({r.1 with ah:=([]:List ay),Cells:=([]:List aH)},((),((),()))),(r.2,())),((),((),(r.1.ah,(r.1.Cells,())))))),d:=λ_=>default}
theorem Mq [Fuel]:bL Tryz.prog Da:=fnI 141 tmL [dx,RD,jX] [] Tryz.func66 (λv=>(({v.1.1.1 with ah:=v.2.2.2.1,Cells:=v.2.2.2.2.1}),v.1.2.1)) (.two .z (.two .z (.two .z (.two .z (.two .z (.two .z (.two .z (.cut ⟨[(3,.c (.pb 2 0)),(4,.c (.pb 3 0)),(6,.c (.pb 4 0))],[.ar (.n .ay),.ar (.n .aH),.bs .ak,o24,o26]⟩ (λv=>A9 v.2.2.2.1 {v.2.2.2.2.1.1 with ah:=v.2.1,Cells:=v.2.2.1}) .z .z)))))))) (okC dz (okC Yr (okC lQ ok0))) (vS vZ (vS vZ (vS vZ (vS vZ (vS vZ (vS vZ (vS vZ (vC vZ vZ))))))))
def aan:aS:={f:=142,ps:=⟨[(0,.st .aT),(1,zS)],[]⟩,rs:=⟨[(0,.st .aT)],[]⟩,β:=aT,F:=λv=>Zt v.1.1 v.1.2.1,g:=(λr=>((r,()),())),d:=λ_=>default}
theorem afc [Fuel]:bL Tryz.prog aan:=fnI 18 tmL [] [] Tryz.func142 (λv=>v.1.1) .z ok0 vZ
def Fh:aS:={f:=67,ps:=arq,rs:=aiz,β:=(aB×Int),F:=λv=>Vf ({v.1.1.1 with ah:=v.2.1,Cells:=v.2.2.1}) v.1.2.1,g:=(λr=>((({r.1 with ah:=([]:List ay),Cells:=([]:List aH)},((),((),()))),(r.2,())),((),((),(r.1.ah,(r.1.Cells,())))))),d:=λ_=>default}
theorem OX [Fuel]:bL Tryz.prog Fh:=fnI 43 tmL [dx,aan] [] Tryz.func67 (λv=>(({v.1.1.1 with ah:=v.2.2.2.1,Cells:=v.2.2.2.2.1}),v.1.2.1)) .z (okC dz (okC afc ok0)) vZ
def zJ [Fuel]:aS:={f:=68,ps:=aot,rs:=aiz,β:=(aB×Int),F:=λv=>Js v.1.1 ({v.1.2.1.1 with ah:=v.2.1,Cells:=v.2.2.1}) v.1.2.2.1,g:=(λr=>((({r.1 with ah:=([]:List ay),Cells:=([]:List aH)},((),((),()))),(r.2,())),((),((),(r.1.ah,(r.1.Cells,())))))),d:=λ_=>default}
theorem KN [Fuel]:bL Tryz.prog zJ:=fnI 118 tmL [dx,GX,Gb,BL,jX] [] Tryz.func68 (λv=>(({v.1.1.1 with ah:=v.2.2.2.1,Cells:=v.2.2.2.2.1}),v.1.2.1)) (.two .z (.two .z (.cut ⟨[(3,.c (.pb 2 0)),(4,.c (.pb 3 0)),(5,.c (.pb 4 0)),(6,.c (.pb 5 0)),(8,.c (.pe 0 0))],[.ar (.n .ay),.ar (.n .aH),.bs .ak,o24,.bs .aA,o26]⟩ (λv=>BI v.2.2.2.1 {v.2.2.2.2.1.1 with ah:=v.2.1,Cells:=v.2.2.1} v.2.2.2.2.2.1 v.1.2.2.2.2.1) .z .z))) (okC dz (okC KJ (okC Ik (okC Gc (okC lQ ok0))))) (vS vZ (vS vZ (vC vZ vZ)))
def Db:aS:={f:=69,ps:=arq,rs:=aiz,β:=(aB×Int),F:=λv=>Oo ({v.1.1.1 with ah:=v.2.1,Cells:=v.2.2.1}) v.1.2.1,g:=(λr=>((({r.1 with ah:=([]:List ay),Cells:=([]:List aH)},((),((),()))),(r.2,())),((),((),(r.1.ah,(r.1.Cells,())))))),d:=λ_=>default}
theorem Mr [Fuel]:bL Tryz.prog Db:=fnI 53 tmL [dx] [] Tryz.func69 (λv=>(({v.1.1.1 with ah:=v.2.2.2.1,Cells:=v.2.2.2.2.1}),v.1.2.1)) .z (okC dz ok0) vZ
def zK [Fuel]:aS:={f:=70,ps:=aot,rs:=aiz,β:=(aB×Int),F:=λv=>Jt v.1.1 ({v.1.2.1.1 with ah:=v.2.1,Cells:=v.2.2.1}) v.1.2.2.1,g:=(λr=>((({r.1 with ah:=([]:List ay),Cells:=([]:List aH)},((),((),()))),(r.2,())),((),((),(r.1.ah,(r.1.Cells,())))))),d:=λ_=>default}
theorem KO [Fuel]:bL Tryz.prog zK:=fnI 127 tmL [dx,GX,Gb,BL,jX] [] Tryz.func70 (λv=>(({v.1.1.1 with ah:=v.2.2.2.1,Cells:=v.2.2.2.2.1}),v.1.2.1)) .z (okC dz (okC KJ (okC Ik (okC Gc (okC lQ ok0))))) vZ
def zL:aS:={f:=71,ps:=arq,rs:=aiz,β:=(aB×Int),F:=λv=>Ju ({v.1.1.1 with ah:=v.2.1,Cells:=v.2.2.1}) v.1.2.1,g:=(λr=>((({r.1 with ah:=([]:List ay),Cells:=([]:List aH)},((),((),()))),(r.2,())),((),((),(r.1.ah,(r.1.Cells,())))))),d:=λ_=>default}
theorem KP [Fuel]:bL Tryz.prog zL:=fnI 31 tmL [dx] [] Tryz.func71 (λv=>(({v.1.1.1 with ah:=v.2.2.2.1,Cells:=v.2.2.2.2.1}),v.1.2.1)) .z (okC dz ok0) vZ
def EH [Fuel]:aS:={f:=72,ps:=aot,rs:=aiz,β:=(aB×Int),F:=λv=>Sd v.1.1 ({v.1.2.1.1 with ah:=v.2.1,Cells:=v.2.2.1}) v.1.2.2.1,g:=(λr=>((({r.1 with ah:=([]:List ay),Cells:=([]:List aH)},((),((),()))),(r.2,())),((),((),(r.1.ah,(r.1.Cells,())))))),d:=λ_=>default}
theorem Nl [Fuel]:bL Tryz.prog EH:=fnI 82 tmL [dx,jX] [] Tryz.func72 (λv=>(({v.1.1.1 with ah:=v.2.2.2.1,Cells:=v.2.2.2.2.1}),v.1.2.1)) .z (okC dz (okC lQ ok0)) vZ
def Bu:aS:={f:=144,ps:=⟨ar1,[]⟩,rs:=⟨zy,[]⟩,β:=Bool,F:=λv=>rV v.1.1 v.1.2.1,g:=(λr=>((r,()),())),d:=λ_=>default}
theorem EI [Fuel]:bL Tryz.prog Bu:=fnI 9 tmL [F9] [] Tryz.func144 (λv=>v.1.1) .z (okC Ij ok0) vZ
def XT:aS:={f:=143,ps:=⟨ar1,[]⟩,rs:=⟨zy,[]⟩,β:=Bool,F:=λv=>Sg v.1.1 v.1.2.1,g:=(λr=>((r,()),())),d:=λ_=>default}
theorem adi [Fuel]:bL Tryz.prog XT:=fnI 25 tmL [Bu] [] Tryz.func143 (λv=>v.1.1) .z (okC EI ok0) vZ
def EJ [Fuel]:aS:={f:=73,ps:=aot,rs:=aiz,β:=(aB×Int),F:=λv=>Si v.1.1 ({v.1.2.1.1 with ah:=v.2.1,Cells:=v.2.2.1}) v.1.2.2.1,g:=(λr=>((({r.1 with ah:=([]:List ay),Cells:=([]:List aH)},((),((),()))),(r.2,())),((),((),(r.1.ah,(r.1.Cells,())))))),d:=λ_=>default}
theorem Nn [Fuel]:bL Tryz.prog EJ:=fnI 121 tmL [XT,dx,Bu] [] Tryz.func73 (λv=>(({v.1.1.1 with ah:=v.2.2.2.1,Cells:=v.2.2.2.2.1}),v.1.2.1)) (.two .z (.two .z (.two .z (.two .z (.two (.two .z (.one (.lp asW (λn v=>zm v.2.2.2.1 {v.2.2.2.2.1.1 with ah:=v.2.1,Cells:=v.2.2.1} v.2.2.2.2.2.1 v.2.2.2.2.2.2.2.1 v.1.2.2.2.2.1 n v.1.2.2.2.2.2.2.1 v.1.2.2.2.2.2.2.2.1) λIJ=>(.two .z (.cut asW (λv=>Jv (λy1 y2=>IJ (((),((),((),((),(v.1.2.2.2.2.1,((),(y1,(y2,())))))))),({v.2.2.2.2.1.1 with ah:=v.2.1,Cells:=v.2.2.1}.ah,({v.2.2.2.2.1.1 with ah:=v.2.1,Cells:=v.2.2.1}.Cells,(v.2.2.2.1,(({v.2.2.2.2.1.1 with ah:=v.2.1,Cells:=v.2.2.1},((),((),()))),(v.2.2.2.2.2.1,(({v.2.2.2.2.2.2.1.1 with ah:= [],Cells:= []},((),((),()))),(v.2.2.2.2.2.2.2.1,()))))))))) v.1.2.2.2.2.2.2.2.1 v.1.2.2.2.2.2.2.1) .z .z))))) .z))))) (okC adi (okC dz (okC EI ok0))) (vS vZ (vS vZ (vS vZ (vS vZ (vS (vS vZ (vB (vL λ_=>(vS vZ (vC vZ vZ))))) vZ)))))
def EK [Fuel]:aS:={f:=74,ps:=arq,rs:=aiz,β:=(aB×Int),F:=λv=>Sj ({v.1.1.1 with ah:=v.2.1,Cells:=v.2.2.1}) v.1.2.1,g:=(λr=>((({r.1 with ah:=([]:List ay),Cells:=([]:List aH)},((),((),()))),(r.2,())),((),((),(r.1.ah,(r.1.Cells,())))))),d:=λ_=>default}
theorem Np [Fuel]:bL Tryz.prog EK:=fnI 89 tmL [dx,Bu] [] Tryz.func74 (λv=>(({v.1.1.1 with ah:=v.2.2.2.1,Cells:=v.2.2.2.2.1}),v.1.2.1)) (.two .z (.two .z (.two .z (.two (.two .z (.one (.lp ⟨[(2,.c (.pb 2 0)),(3,.c (.pb 3 0)),(4,.c (.pb 4 0)),(6,.c (.pe 1 0)),(7,zS)],[.ar (.n .ay),.ar (.n .aH),o24,.bs .aA,o26]⟩ (λn v=>zn {v.2.2.2.1.1 with ah:=v.2.1,Cells:=v.2.2.1} v.2.2.2.2.1 v.1.2.2.2.1 n v.1.2.2.2.2.1) λajo=> .z))) .z)))) (okC dz (okC EI ok0)) (vS vZ (vS vZ (vS vZ (vS (vS vZ (vB (vL λ_=>vZ))) vZ))))
def Dc [Fuel]:aS:={f:=75,ps:=aot,rs:=aiz,β:=(aB×Int),F:=λv=>Oq v.1.1 ({v.1.2.1.1 with ah:=v.2.1,Cells:=v.2.2.1}) v.1.2.2.1,g:=(λr=>((({r.1 with ah:=([]:List ay),Cells:=([]:List aH)},((),((),()))),(r.2,())),((),((),(r.1.ah,(r.1.Cells,())))))),d:=λ_=>default}
theorem Ms [Fuel]:bL Tryz.prog Dc:=fnI 68 tmL [Bu,dx] [] Tryz.func75 (λv=>(({v.1.1.1 with ah:=v.2.2.2.1,Cells:=v.2.2.2.2.1}),v.1.2.1)) (.two .z (.two .z (.two (.two .z (.one (.lp ⟨[(3,.c (.pb 2 0)),(4,.c (.pb 3 0)),(5,.c (.pb 4 0)),(6,.c (.pb 5 0)),(8,zS)],[.ar (.n .ay),.ar (.n .aH),.bs .ak,o24,.bs .aA,o26]⟩ (λn v=>wN v.2.2.2.1 {v.2.2.2.2.1.1 with ah:=v.2.1,Cells:=v.2.2.1} v.2.2.2.2.2.1 n v.1.2.2.2.2.1) λaja=> .z))) .z))) (okC EI (okC dz ok0)) (vS vZ (vS vZ (vS (vS vZ (vB (vL λ_=>vZ))) vZ)))
def Bv [Fuel]:aS:={f:=77,ps:=ate,rs:=aiz,β:=(aB×Int),F:=λv=>Lp v.1.1 ({v.1.2.1.1 with ah:=v.2.1,Cells:=v.2.2.1}),g:=(λr=>((({r.1 with ah:=([]:List ay),Cells:=([]:List aH)},((),((),()))),(r.2,())),((),((),(r.1.ah,(r.1.Cells,())))))),d:=λ_=>default}
theorem K6 [Fuel]:bL Tryz.prog Bv:=fnI 66 tmL [dx] [] Tryz.func77 (λv=>(({v.1.1.1 with ah:=v.2.2.2.1,Cells:=v.2.2.2.2.1}),v.1.2.1)) (.two .z (.two .z (.two (.two .z (.one (.lp ⟨[(2,.c (.pb 2 0)),(3,.c (.pb 3 0)),(4,.c (.pb 4 0)),(6,zS)],[.ar (.n .ay),.ar (.n .aH),.bs .ak,o24,o26]⟩ (λn v=>tT v.2.2.2.1 {v.2.2.2.2.1.1 with ah:=v.2.1,Cells:=v.2.2.1} n v.1.2.2.2.1) λahQ=> .z))) .z))) (okC dz ok0) (vS vZ (vS vZ (vS (vS vZ (vB (vL λ_=>vZ))) vZ)))
def Dh [Fuel]:aS:={f:=30,ps:=⟨w92,[]⟩,rs:=ar7,β:=(aB×Int),F:=λv=>Ot v.1.1 v.1.2.1 v.1.2.2.1,g:=(λr=>((({r.1 with ah:=([]:List ay),Cells:=([]:List aH)},((),((),()))),(r.2,())),(r.1.ah,(r.1.Cells,())))),d:=λ_=>default}
theorem Mt [Fuel]:bL Tryz.prog Dh:=fnI 201 tmL [Wd,dx,Bt,C9,Da,Fh,zJ,Db,zK,zL,EH,EJ,EK,Dc,F9,Bv] [] Tryz.func30 (λv=>(({v.1.1.1 with ah:=v.2.1,Cells:=v.2.2.1}),v.1.2.1)) (.two .z (.two .z (.two .z (.two .z (.cut ⟨[(4,.c (.pb 0 0)),(6,.c (.pb 3 0))],[o23,.ar (.n .ay),.ar (.n .aH),o26]⟩ (λv=>nG {v.2.1.1 with ah:=v.2.2.1,Cells:=v.2.2.2.1}) .z .z))))) (okC aa7 (okC dz (okC K5 (okC Ml (okC Mq (okC OX (okC KN (okC Mr (okC KO (okC KP (okC Nl (okC Nn (okC Np (okC Ms (okC Ij (okC K6 ok0)))))))))))))))) (vS vZ (vS vZ (vS vZ (vS vZ (vC vZ vZ)))))
def Nq [Fuel]:aS:={f:=8,ps:=⟨[(0,.c (.ty (.l (.i .i64)))),(1,.st .ak),(2,zS)],[]⟩,rs:=⟨ajg,[.ar (.n .aA)]⟩,β:=(List aA),F:=λv=>Vg v.1.1 v.1.2.1 v.1.2.2.1,g:=(λr=>(((),()),(r,()))),d:=λ_=>default}
theorem Wh [Fuel]:bL Tryz.prog Nq:=fnI 44 tmL [WY,Fg,Pz,XP,Dh] [] Tryz.func8 (λv=>v.2.1) (.two .z (.two .z (.two .z (.two .z (.two (.one (.lp as6 (λn v=>Kc v.2.1 v.1.1 n v.2.2.1 v.2.2.2.1 v.2.2.2.2.1) λGD=>(.cut as6 (λv=>Uk (λy1 y2 y3=>GD ((v.1.1,((),((),((),((),()))))),(v.2.1,(y1,(y2,(y3,())))))) v.2.1 v.2.2.2.1 v.2.2.2.2.1 v.2.2.1) .z .z))) .z))))) (okC aae (okC OV (okC Xf (okC adg (okC Mt ok0))))) (vS vZ (vS vZ (vS vZ (vS vZ (vS (vB (vL λ_=>(vC vZ vZ))) vZ)))))
def qb [Fuel]:aS:={f:=164,ps:=⟨asN,[]⟩,rs:=⟨[(0,zS)],[]⟩,β:=Int,F:=λv=>kY v.1.1 v.1.2.1,g:=(λr=>((r,()),())),d:=λ_=>default}
theorem Ao [Fuel]:bL Tryz.prog qb:=fnI 19 tmL [] [] Tryz.func164 (λv=>v.1.1) (.two .z (.two (.two .z (.one (.lp ⟨[(0,.c (.ty (.l (.n .aI)))),(3,.c (.pb 0 0)),(7,zS),(8,zS)],[.bs .aI]⟩ (λn v=>bZ v.1.1 v.2.1 v.1.2.2.1 n v.1.2.2.2.1) λQj=> .z))) .z)) ok0 (vS vZ (vS (vS vZ (vB (vL λ_=>vZ))) vZ))
def nY [Fuel]:aS:={f:=84,ps:=⟨asN,[]⟩,rs:=⟨zy,[]⟩,β:=Bool,F:=λv=>gZ v.1.1 v.1.2.1,g:=(λr=>((r,()),())),d:=λ_=>default}
theorem xU [Fuel]:bL Tryz.prog nY:=fnI 9 tmL [qb] [] Tryz.func84 (λv=>v.1.1) .z (okC Ao ok0) vZ
def XU [Fuel]:aS:={f:=165,ps:=⟨w88,[]⟩,rs:=⟨[(0,zS)],[]⟩,β:=Int,F:=λv=>MV v.1.1 v.1.2.1 v.1.2.2.1,g:=(λr=>((r,()),())),d:=λ_=>default}
theorem adj [Fuel]:bL Tryz.prog XU:=fnI 16 tmL [Cu,KH,Ry] [] Tryz.func165 (λv=>v.1.1) .z (okC C8 (okC Px (okC V6 ok0))) vZ
def XW [Fuel]:aS:={f:=166,ps:=⟨w88,[]⟩,rs:=⟨[(0,zS)],[]⟩,β:=Int,F:=λv=>MW v.1.1 v.1.2.1 v.1.2.2.1,g:=(λr=>((r,()),())),d:=λ_=>default}
theorem adk [Fuel]:bL Tryz.prog XW:=fnI 16 tmL [Cu,OU,Rz] [] Tryz.func166 (λv=>v.1.1) .z (okC C8 (okC TL (okC V7 ok0))) vZ
def Fj [Fuel]:aS:={f:=85,ps:=⟨alS,[o28,.ar (.n .aK)]⟩,rs:=ar8,β:=(Bool×aX),F:=λv=>Ae ({v.2.1.1 with places:=v.2.2.1}) v.1.2.1,g:=(λr=>((r.1,()),g41 r.2)),d:=λ_=>default,ro:=some {R:=Bool,Fr:=λv=>jW ({v.2.1.1 with places:=v.2.2.1}) v.1.2.1,dr:=default,pr:=λx v=>(x,({v.2.1.1 with places:=v.2.2.1})),hF:=λ_=>Ou _ _},hr:=λq h v x=>by cases h;rfl}
theorem OY [Fuel]:bL Tryz.prog Fj:=fnI 41 tmL [XU,XW] [] Tryz.func85 (λv=>(v.1.1,({v.2.1.1 with places:=v.2.2.1}))) .z (okC adj (okC adk ok0)) vZ
def oD [Fuel] (nr:Nat):aS:={f:=34,ps:=⟨aeu,[o28,.ar (.n .aK)]⟩,rs:=ar8,β:=(Bool×aX),F:=λv=>fF nr ({v.2.1.1 with places:=v.2.2.1}),g:=(λr=>((r.1,()),g41 r.2)),d:=λv=>(default,{v.2.1.1 with places:=v.2.2.1}),dk:=true,hd:=λ_ _=>rfl}
def Ja [Fuel] (nr:Nat):aS:={f:=86,ps:=⟨alS,[o28,.ar (.n .aK)]⟩,rs:=ar8,β:=(Bool×aX),F:=λv=>xH (fF nr) ({v.2.1.1 with places:=v.2.2.1}) v.1.2.1,g:=(λr=>((r.1,()),g41 r.2)),d:=λv=>(default,{v.2.1.1 with places:=v.2.2.1}),dk:=true,hd:=λ_ _=>rfl}
theorem RF [Fuel] (nr:Nat) (ih:bL Tryz.prog (oD nr)):bL Tryz.prog (Ja nr):=fnD 83 tmL [GV,(oD nr)] [] 3 (Tryz.f167.body.getD .skip) Tryz.func86 (λv=>(v.1.1,({v.2.1.1 with places:=v.2.2.1}))) (.two .z (.two .z (.two .z (.dist .z .z (.two .z (.df ⟨[(0,.c (.pb 0 0)),(5,.c (.pb 2 0))],[o28,.ar (.n .aK),.bx [.pe 1 1]]⟩ (λv=>yI (fF nr) {v.2.1.1 with places:=v.2.2.1} v.2.2.2.1.1) 56 2 (.two (.two .z (.one (.lp atu (λn v=>kS (fF nr) v.2.2.2.1.1 v.1.2.2.1 n {v.2.1.1 with places:=v.2.2.1} v.1.2.2.2.1) λtV=>(.two .z (.two .z (.cut atu (λv=>rW (λy1 y2=>tV (((),((),(v.1.2.2.1,(y2,())))),((y1,((),())),(y1.places,((v.2.2.2.1.1,()),()))))) v.1.2.2.2.1 {v.2.1.1 with places:=v.2.2.1}) .z .z)))))) .z))) (.two .z (.df ⟨[(0,.c (.pb 0 0)),(5,.c (.pb 2 0))],[o28,.ar (.n .aK),.bx [.pe 1 0]]⟩ (λv=>yJ (fF nr) {v.2.1.1 with places:=v.2.2.1} v.2.2.2.1.1) 56 2 (.two (.two .z (.one (.lp atv (λn v=>kT (fF nr) v.2.2.2.1.1 v.1.2.2.1 n {v.2.1.1 with places:=v.2.2.1} v.1.2.2.2.1) λtY=>(.two .z (.two .z (.cut atv (λv=>rX (λy1 y2=>tY (((),((),(v.1.2.2.1,(y2,())))),((y1,((),())),(y1.places,((v.2.2.2.1.1,()),()))))) v.1.2.2.2.1 {v.2.1.1 with places:=v.2.2.1}) .z .z)))))) .z))))))) (okC KG (okC ih ok0)) (wT vZ (wT vZ (wT vZ (wI vZ (wT vZ (wF ⟨_,_,_,5,167,_,Tryz.f167,rfl,rfl,rfl,rfl,rfl,rfl,rfl,rfl,rfl,Nat.le_of_ble_eq_true rfl,by intro v;rfl,Tryz.func167,rfl,by intro vs w;rfl,rfl,Nat.le_of_ble_eq_true rfl,rfl⟩ (vS (vS vZ (vB (vL λ_=>(vS vZ (vS vZ (vC vZ vZ)))))) vZ))) vZ (wT vZ (wF ⟨_,_,_,5,167,_,Tryz.f167,rfl,rfl,rfl,rfl,rfl,rfl,rfl,rfl,rfl,Nat.le_of_ble_eq_true rfl,by intro v;rfl,Tryz.func167,rfl,by intro vs w;rfl,rfl,Nat.le_of_ble_eq_true rfl,rfl⟩ (vS (vS vZ (vB (vL λ_=>(vS vZ (vS vZ (vC vZ vZ)))))) vZ)))))))
theorem Bw [Fuel]:∀nr:Nat,bL Tryz.prog (oD nr)|0=>⟨by intro vs w;rfl,λv r h=>nomatch h⟩|nr+1=>fnI 91 tmL [xB,nY,Fj,(Ja nr)] [] Tryz.func34 (λv=>(v.1.1,({v.2.1.1 with places:=v.2.2.1}))) .z (okC ED (okC xU (okC OY (okC (RF nr (Bw nr)) ok0)))) vZ
def TQ [Fuel]:aS:={f:=11,ps:=⟨[(0,.st .aF),(1,.st .eG)],[]⟩,rs:=⟨zy,[]⟩,β:=Bool,F:=λv=>Hw v.1.1 v.1.2.1,g:=(λr=>((r,()),())),d:=λ_=>default}
theorem aao [Fuel]:bL Tryz.prog TQ:=fnI 53 tmL [wO,(oD fuel)] [] Tryz.func11 (λv=>v.1.1) (.two .z (.two .z (.two .z (.two (.two .z (.one (.lp ⟨[(2,.c (.pb 0 0)),(3,.c (.pb 1 0)),(5,.c (.own 2)),(30,zS),(31,zS)],[.bs .aF,.bs .eG,.ar (.n .aK)]⟩ (λn v=>nR v.2.1 v.2.2.1 v.1.2.2.2.1 n v.2.2.2.1 v.1.2.2.2.2.1) λahR=> .z))) .z)))) (okC yM (okC (Bw fuel) ok0)) (vS vZ (vS vZ (vS vZ (vS (vS vZ (vB (vL λ_=>vZ))) vZ))))
def Yt [Fuel]:aS:={f:=3,ps:=⟨[(0,.c (.ty (.l (.i .i64)))),(1,.c (.ty (.l (.i .i64)))),(2,.st .eG)],[]⟩,rs:=⟨zy,[]⟩,β:=Bool,F:=λv=>Md v.1.1 v.1.2.1 v.1.2.2.1,g:=(λr=>((r,()),())),d:=λ_=>default}
theorem Xh [Fuel] (hD:¬Dr):bL Tryz.prog Yt:=fnI 158 tmL [aad,XJ,VU,EG,Nq,vQ,GV,TQ] [] Tryz.func3 (λv=>v.1.1) (.two .z (.two .z (.two .z (.two .z (.two (.two .z (.one (.lp ⟨[(1,.c (.ty (.l (.i .i64)))),(5,.c (.pb 0 0)),(7,.c (.pb 1 0)),(8,zS)],[.bs .eG,o40,.ar (.n .aW)]⟩ (λn v=>jM v.1.1 v.2.1 n {v.2.2.1.1 with ah:=v.2.2.2.1} v.1.2.2.2.1) λafk=> .z))) (.two .z (.two .z (.two .z (.two .z (.two (.two .z (.one (.lp asX (λn v=>fZ v.2.1 {v.2.2.1.1 with ah:=v.2.2.2.1} v.1.2.2.2.2.1 (m62 v.2.2.2.2.2) n {v.2.2.2.2.1.1 with Config.ah:=v.2.2.2.1} v.1.2.2.2.2.2.1) λjU=>(.cut asX (λv=>FY (λy1 y2=>jU (((),((),((),((),(v.1.2.2.2.2.1,(y2,())))))),(v.2.1,(({v.2.2.1.1 with ah:=v.2.2.2.1},((),())),({v.2.2.1.1 with ah:=v.2.2.2.1}.ah,((y1,((),())),(((m62 v.2.2.2.2.2),((),((),()))),((m62 v.2.2.2.2.2).Places,((m62 v.2.2.2.2.2).Tree,()))))))))) v.2.1 {v.2.2.1.1 with ah:=v.2.2.2.1} v.1.2.2.2.2.1 (m62 v.2.2.2.2.2) v.1.2.2.2.2.2.1 {v.2.2.2.2.1.1 with Config.ah:=v.2.2.2.1}) .z (.two (.one (.two .z (.two .z (.two .z (.two (.two .z (.one (.lp ⟨[(5,.c (.pb 0 0)),(7,.c (.pb 1 0)),(9,.c (.pb 3 0)),(10,.c (.pb 4 0)),(12,.c (.ty (.l (.n .aA)))),(13,zS),(14,.c (.pb 7 0)),(17,.c (.ty .b)),(18,zS)],[.bs .eG,o40,.ar (.n .aW),o37,o25,.ar (.n .aK),.ar (.n .dQ),.bw .aB [(2,.own 8),(3,.own 9)],.ar (.n .ay),.ar (.n .aH)]⟩ (λn v=>jL (λy1 y2=>jU (((),((),((),((),(v.1.2.2.2.2.1,(y2,())))))),(v.2.1,(({v.2.2.1.1 with ah:=v.2.2.2.1},((),())),({v.2.2.1.1 with ah:=v.2.2.2.1}.ah,((y1,((),())),(((m62 v.2.2.2.2.2),((),((),()))),((m62 v.2.2.2.2.2).Places,((m62 v.2.2.2.2.2).Tree,()))))))))) v.2.1 {v.2.2.1.1 with ah:=v.2.2.2.1} (m62 v.2.2.2.2.2) v.1.2.2.2.2.2.1 {v.2.2.2.2.2.2.2.2.1.1 with ah:=v.2.2.2.2.2.2.2.2.2.1,Cells:=v.2.2.2.2.2.2.2.2.2.2.1} n {v.2.2.2.2.1.1 with Config.ah:=v.2.2.2.1} v.1.2.2.2.2.2.2.2.1 v.1.2.2.2.2.2.2.2.2.1) λafl=> .z))) .z))))) .z))))) .z)))))))))) (okC (ae8 hD) (okC ada (okC aaY (okC Nk (okC Wh (okC CZ (okC KG (okC aao ok0)))))))) (vS vZ (vS vZ (vS vZ (vS vZ (vS (vS vZ (vB (vL λ_=>vZ))) (vS vZ (vS vZ (vS vZ (vS vZ (vS (vS vZ (vB (vL λ_=>(vC vZ (vS (vB (vS vZ (vS vZ (vS vZ (vS (vS vZ (vB (vL λ_=>vZ))) vZ))))) vZ))))) vZ))))))))))
end Go.Proofs
namespace Go.Proofs.YtodbmegkcniehaaGreat.topRefuted
open Go.ChangeShapes Go.WideShapes Go.ChangeAt Go.RowKit Go.AM Go.CP
open Go.ChangeMaps (open_string shut_string)
theorem own:ownKnob Tryz.prog.godebug=none:=by kernel_rfl
theorem laidOut:laidOutB Tryz.prog=true:=by kernel_rfl
theorem c3:Tryz.prog.cellsOf 3=1:=by kernel_rfl
theorem c23:Tryz.prog.cellsOf 23=1:=by kernel_rfl
theorem c24:Tryz.prog.cellsOf 24=1:=by kernel_rfl
theorem c26:Tryz.prog.cellsOf 26=2:=by kernel_rfl
theorem atF:Tryz.prog.cellsOf 101=2:=by kernel_rfl
theorem atG:Tryz.prog.cellsOf 153=5:=by kernel_rfl
theorem atH:Tryz.prog.cellsOf 155=8:=by kernel_rfl
def anR (s:CP.aK):Prop:=(Lit.int .i64 s.Home).wf=true/\(Lit.int .i64 s.aN).wf=true/\True
theorem aqO [Fuel] {H:Type} {UC:TypeId×Value->H} {w:World} {base:Nat} {spare:Nat->Bool} {held:Bool}:Opn UC Tryz.prog w base spare held 101 aa9 anR:=by
 intro n cs x h
 obtain⟨xs,k,_,_,hl,hxl,hf⟩:=DataW.trod_struct Tryz.underlying101 h
 rw [atF]at hl
 have hxl:xs.length=2:=hxl
 obtain⟨v0,cs0,rfl,hl0⟩:=gG hl
 obtain⟨v1,cs1,rfl,hl1⟩:=gG hl0
 obtain rfl:=List.eq_nil_of_length_eq_zero hl1
 obtain⟨y0,xs0,rfl,apa⟩:=gG hxl
 obtain⟨y1,xs1,rfl,aqP⟩:=gG apa
 have g0:DataW.trod UC Tryz.prog w base spare held k 3 (([v0,v1].drop 0).take (Tryz.prog.cellsOf 3))=some y0:=hf 0 _ rfl
 rw [c3]at g0
 obtain⟨a0,i0,s0⟩:=(IK Tryz.underlying3) _ _ _ g0
 have g1:DataW.trod UC Tryz.prog w base spare held k 3 (([v0,v1].drop 1).take (Tryz.prog.cellsOf 3))=some y1:=hf 1 _ rfl
 rw [c3]at g1
 obtain⟨a1,i1,s1⟩:=(IK Tryz.underlying3) _ _ _ g1
 exact⟨⟨a0,a1⟩,⟨i0,i1,trivial⟩,(Eh s0 s1)⟩
def anS (s:CP.aI):Prop:=(Lit.int .i64 s.Rule).wf=true/\(Lit.int .i64 s.aD).wf=true/\(Lit.int .i64 s.Other).wf=true/\(Lit.int .i64 s.Cell).wf=true/\(Lit.int .i64 s.Region).wf=true/\True
theorem aqQ [Fuel] {H:Type} {UC:TypeId×Value->H} {w:World} {base:Nat} {spare:Nat->Bool} {held:Bool}:Opn UC Tryz.prog w base spare held 153 YH anS:=by
 intro n cs x h
 obtain⟨xs,k,_,_,hl,hxl,hf⟩:=DataW.trod_struct Tryz.underlying153 h
 rw [atG]at hl
 have hxl:xs.length=5:=hxl
 obtain⟨v0,cs0,rfl,hl0⟩:=gG hl
 obtain⟨v1,cs1,rfl,hl1⟩:=gG hl0
 obtain⟨v2,cs2,rfl,hl2⟩:=gG hl1
 obtain⟨v3,cs3,rfl,hl3⟩:=gG hl2
 obtain⟨v4,cs4,rfl,hl4⟩:=gG hl3
 obtain rfl:=List.eq_nil_of_length_eq_zero hl4
 obtain⟨y0,xs0,rfl,apa⟩:=gG hxl
 obtain⟨y1,xs1,rfl,aqP⟩:=gG apa
 obtain⟨y2,xs2,rfl,asz⟩:=gG aqP
 obtain⟨y3,xs3,rfl,atI⟩:=gG asz
 obtain⟨y4,xs4,rfl,auq⟩:=gG atI
 have g0:DataW.trod UC Tryz.prog w base spare held k 3 (([v0,v1,v2,v3,v4].drop 0).take (Tryz.prog.cellsOf 3))=some y0:=hf 0 _ rfl
 rw [c3]at g0
 obtain⟨a0,i0,s0⟩:=(IK Tryz.underlying3) _ _ _ g0
 have g1:DataW.trod UC Tryz.prog w base spare held k 3 (([v0,v1,v2,v3,v4].drop 1).take (Tryz.prog.cellsOf 3))=some y1:=hf 1 _ rfl
 rw [c3]at g1
 obtain⟨a1,i1,s1⟩:=(IK Tryz.underlying3) _ _ _ g1
 have g2:DataW.trod UC Tryz.prog w base spare held k 3 (([v0,v1,v2,v3,v4].drop 2).take (Tryz.prog.cellsOf 3))=some y2:=hf 2 _ rfl
 rw [c3]at g2
 obtain⟨a2,i2,s2⟩:=(IK Tryz.underlying3) _ _ _ g2
 have g3:DataW.trod UC Tryz.prog w base spare held k 3 (([v0,v1,v2,v3,v4].drop 3).take (Tryz.prog.cellsOf 3))=some y3:=hf 3 _ rfl
 rw [c3]at g3
 obtain⟨a3,i3,s3⟩:=(IK Tryz.underlying3) _ _ _ g3
 have g4:DataW.trod UC Tryz.prog w base spare held k 3 (([v0,v1,v2,v3,v4].drop 4).take (Tryz.prog.cellsOf 3))=some y4:=hf 4 _ rfl
 rw [c3]at g4
 obtain⟨a4,i4,s4⟩:=(IK Tryz.underlying3) _ _ _ g4
 exact⟨⟨a0,a1,a2,a3,a4⟩,⟨i0,i1,i2,i3,i4,trivial⟩,(Eh s0 (Eh s1 (Eh s2 (Eh s3 s4))))⟩
def anT (s:CP.dQ):Prop:=(Lit.int .i64 s.Kind).wf=true/\(Lit.int .i64 s.Var).wf=true/\(Lit.int .i64 s.Set).wf=true/\anS s.jE/\True
theorem aqR [Fuel] {H:Type} {UC:TypeId×Value->H} {w:World} {base:Nat} {spare:Nat->Bool} {held:Bool}:Opn UC Tryz.prog w base spare held 155 ads anT:=by
 intro n cs x h
 obtain⟨xs,k,_,_,hl,hxl,hf⟩:=DataW.trod_struct Tryz.underlying155 h
 rw [atH]at hl
 have hxl:xs.length=4:=hxl
 obtain⟨v0,cs0,rfl,hl0⟩:=gG hl
 obtain⟨v1,cs1,rfl,hl1⟩:=gG hl0
 obtain⟨v2,cs2,rfl,hl2⟩:=gG hl1
 obtain⟨v3,cs3,rfl,hl3⟩:=gG hl2
 obtain⟨v4,cs4,rfl,hl4⟩:=gG hl3
 obtain⟨v5,cs5,rfl,hl5⟩:=gG hl4
 obtain⟨v6,cs6,rfl,hl6⟩:=gG hl5
 obtain⟨v7,cs7,rfl,hl7⟩:=gG hl6
 obtain rfl:=List.eq_nil_of_length_eq_zero hl7
 obtain⟨y0,xs0,rfl,apa⟩:=gG hxl
 obtain⟨y1,xs1,rfl,aqP⟩:=gG apa
 obtain⟨y2,xs2,rfl,asz⟩:=gG aqP
 obtain⟨y3,xs3,rfl,atI⟩:=gG asz
 have g0:DataW.trod UC Tryz.prog w base spare held k 3 (([v0,v1,v2,v3,v4,v5,v6,v7].drop 0).take (Tryz.prog.cellsOf 3))=some y0:=hf 0 _ rfl
 rw [c3]at g0
 obtain⟨a0,i0,s0⟩:=(IK Tryz.underlying3) _ _ _ g0
 have g1:DataW.trod UC Tryz.prog w base spare held k 3 (([v0,v1,v2,v3,v4,v5,v6,v7].drop 1).take (Tryz.prog.cellsOf 3))=some y1:=hf 1 _ rfl
 rw [c3]at g1
 obtain⟨a1,i1,s1⟩:=(IK Tryz.underlying3) _ _ _ g1
 have g2:DataW.trod UC Tryz.prog w base spare held k 3 (([v0,v1,v2,v3,v4,v5,v6,v7].drop 2).take (Tryz.prog.cellsOf 3))=some y2:=hf 2 _ rfl
 rw [c3]at g2
 obtain⟨a2,i2,s2⟩:=(IK Tryz.underlying3) _ _ _ g2
 have g3:DataW.trod UC Tryz.prog w base spare held k 153 (([v0,v1,v2,v3,v4,v5,v6,v7].drop 3).take (Tryz.prog.cellsOf 153))=some y3:=hf 3 _ rfl
 rw [atG]at g3
 obtain⟨a3,i3,s3⟩:=aqQ _ _ _ g3
 exact⟨⟨a0,a1,a2,a3⟩,⟨i0,i1,i2,i3,trivial⟩,(Eh s0 (Eh s1 (Eh s2 s3)))⟩
def aqS (s:CP.eG):Prop:=(∀y∈s.Places,anR y)/\(∀y∈s.Tree,anT y)/\True
theorem asA [Fuel] {H:Type} {UC:TypeId×Value->H} {w:World} {base:Nat} {spare:Nat->Bool} {held:Bool}:Opn UC Tryz.prog w base spare held 26 YI aqS:=by
 intro n cs x h
 obtain⟨xs,k,_,_,hl,hxl,hf⟩:=DataW.trod_struct Tryz.underlying26 h
 rw [c26]at hl
 have hxl:xs.length=2:=hxl
 obtain⟨v0,cs0,rfl,hl0⟩:=gG hl
 obtain⟨v1,cs1,rfl,hl1⟩:=gG hl0
 obtain rfl:=List.eq_nil_of_length_eq_zero hl1
 obtain⟨y0,xs0,rfl,apa⟩:=gG hxl
 obtain⟨y1,xs1,rfl,aqP⟩:=gG apa
 have g0:DataW.trod UC Tryz.prog w base spare held k 23 (([v0,v1].drop 0).take (Tryz.prog.cellsOf 23))=some y0:=hf 0 _ rfl
 rw [c23]at g0
 obtain⟨a0,i0,s0⟩:=(Vu (τ:=(.n .aK)) Tryz.underlying23 atF (by decide) rfl (λn cs x h=>aqO n cs x h)) _ _ _ g0
 have g1:DataW.trod UC Tryz.prog w base spare held k 24 (([v0,v1].drop 1).take (Tryz.prog.cellsOf 24))=some y1:=hf 1 _ rfl
 rw [c24]at g1
 obtain⟨a1,i1,s1⟩:=(Vu (τ:=(.n .dQ)) Tryz.underlying24 atH (by decide) rfl (λn cs x h=>aqR n cs x h)) _ _ _ g1
 exact⟨⟨a0,a1⟩,⟨i0,i1,trivial⟩,(Eh s0 s1)⟩
theorem asC [Fuel] (hD:¬Dr) (w:World) (a0:Option Addr) (arz cap0:Nat) (xs0:List Int) (i0:∀y∈xs0,(Lit.int .i64 y).wf=true) (s0:nZ w (λ_=>none) (λ_=>False) (.one (.s (.c (.ls (.i .i64) xs0)))) (.slice a0 arz cap0)) (a1:Option Addr) (len1 arA:Nat) (xs1:List Int) (i1:∀y∈xs1,(Lit.int .i64 y).wf=true) (s1:nZ w (λ_=>none) (λ_=>False) (.one (.s (.c (.ls (.i .i64) xs1)))) (.slice a1 len1 arA)) (a2:Array Value) (x2:CP.eG) (i2:aqS x2) (s2:nZ w (λ_=>none) (λ_=>False) (.one (.agg ((YI x2).map .c))) (.agg a2)):
  Calls Tryz.prog 3 #[.slice a0 arz cap0,.slice a1 len1 arA,.agg a2] w λe w'=>e= .returned (.bool true)/\Below w.heap.size w w':=
 bL.below (Xh hD) ((xs0,xs1,x2,()),()) (r:=true) (ZP (λx hx=>wf_i64 (i0 x hx)) (λx hx=>wf_i64 (i1 x hx)) (λx hx=>wf_i64 (i2.2.1 x hx).2.1)) rfl rfl rfl (.cons s0 (.cons s1 (.cons s2 .nil)))
instance F0:Fuel:=⟨⟨_,rfl,False⟩⟩
set_option maxRecDepth 100000 in
theorem lifted (os:Os) (started:os.Started) (H:Type) (enc:TypeId×Value->H):
  ReturnsInHanded {} Tryz.checked os 3 .any (Rows.topRefutedSpec.pre6 enc Tryz.prog Tryz.f3 Rows.topRefutedRow.domain false) (Rows.topRefutedSpec.post enc Tryz.prog Tryz.f3 false true false false):=by
 refine returnsInHanded_of_change (C:=Tryz.checked) own started (by kernel_rfl) Tryz.func3
  (ChangeSpec.witness6 (enc:=enc) (C:=Tryz.checked) false ⟨#[], #[.slice none 0 0,.slice none 0 0,.agg #[.slice none 0 0,.slice none 0 0]],[]⟩ 8 (by kernel_rfl) (by kernel_rfl) (by kernel_rfl) (by kernel_rfl)) ?_
 intro W base args ds gs before hval0 hW hcnd _
 have hval:∀(j:Nat) t v,Tryz.f3.params[j]? =some t->args[j]? =some v->Value.okWide Tryz.prog W .any base t v:=hval0
 have hW':=hW
 obtain⟨p,q,hA0,hV,rfl,hfz,hnd⟩:=hW
 have hA:DataW.TrodAll enc Tryz.prog W 0 (λ_=>true) true Tryz.f3.params.toList args.toList ds p:=hA0
 rw [Tryz.params3]at hA hval
 obtain⟨v0,vs0,d0,ds0,p0,q0,hargs,rfl,rfl,h0,r0⟩:=trodAll_cons hA
 obtain⟨v1,vs1,d1,ds1,p1,q1,rfl,rfl,rfl,h1,r1⟩:=trodAll_cons r0
 obtain⟨v2,vs2,d2,ds2,p2,q2,rfl,rfl,rfl,h2,r2⟩:=trodAll_cons r1
 obtain⟨rfl,rfl,rfl⟩:=trodAll_nil r2
 obtain rfl:args= #[v0,v1,v2]:=by cases args;simp_all
 obtain⟨rfl,rfl⟩:=trodVars_none hV
 obtain⟨a0,arz,cap0,rfl⟩:=okWide_slice Tryz.underlying22 (hval 0 22 v0 rfl rfl)
 have lt0:∀x∈p0,x.block<W.heap.size:=by obtain⟨m,hm⟩:=h0;exact DataW.trod_lt m _ _ _ hm
 obtain⟨xs0,i0,s0⟩:=alD (Vu (τ:=(.i .i64)) Tryz.underlying22 c3 (by decide) rfl (λn cs x h=>(IK Tryz.underlying3) n cs x h)) h0
 obtain⟨a1,len1,arA,rfl⟩:=okWide_slice Tryz.underlying22 (hval 1 22 v1 rfl rfl)
 have lt1:∀x∈p1,x.block<W.heap.size:=by obtain⟨m,hm⟩:=h1;exact DataW.trod_lt m _ _ _ hm
 obtain⟨xs1,i1,s1⟩:=alD (Vu (τ:=(.i .i64)) Tryz.underlying22 c3 (by decide) rfl (λn cs x h=>(IK Tryz.underlying3) n cs x h)) h1
 obtain⟨a2,rfl,_⟩:=okWide_struct Tryz.underlying26 (hval 2 26 v2 rfl rfl)
 have lt2:∀x∈p2,x.block<W.heap.size:=by obtain⟨m,hm⟩:=h2;exact DataW.trod_lt m _ _ _ hm
 obtain⟨x2,i2,s2⟩:=ao4 asA h2
 clear hA0 hval0
 refine(@asC F0 id W a0 arz cap0 xs0 i0 s0 a1 len1 arA xs1 i1 s1 a2 x2 i2 s2).mono λe W' ⟨he,bel⟩=> ?_
 subst he
 exact⟨_,rfl,_,_,_,[],_,[],hW',trodAll_mk1 (shut_bool Tryz.underlying4 _),(trodAll_cons_mk (Below.trod laidOut (by kernel_rfl) (of_decide_eq_true (by kernel_rfl)) h0 bel lt0) (trodAll_cons_mk (Below.trod laidOut (by kernel_rfl) (of_decide_eq_true (by kernel_rfl)) h1 bel lt1) (trodAll_cons_mk (Below.trod laidOut (by kernel_rfl) (of_decide_eq_true (by kernel_rfl)) h2 bel lt2) trodAll_mk0))),rfl,bel.frame _,λh=>by cases h⟩
theorem kA:(Rows.topRefutedRow.inPlace==Tryz.pinned.checked.prog.inPlace 3)=true:=by kernel_rfl
theorem kB:(Rows.topRefutedRow.unfollowed==Tryz.pinned.checked.prog.unfollowed 3)=true:=by kernel_rfl
theorem kC:(Rows.topRefutedRow.recurses==Tryz.pinned.checked.prog.recurses 3)=true:=by kernel_rfl
theorem kD:(Rows.topRefutedRow.named==Tryz.pinned.checked.prog.varsNamed 3)=true:=by kernel_rfl
theorem closed:joinedFacts Tryz.pinned.checked.prog 3 Tryz.f3 Rows.topRefutedSpec Rows.topRefutedRow=true:=by
 unfold joinedFacts
 rw [kA,kB,kC,kD]
 kernel_rfl
theorem over:Rows.topRefutedRow.holds Tryz.pinned (OpenSpec.ofChange Rows.topRefutedSpec):=
 OpenClaim.holds_of_wide 3 Tryz.f3 rfl rfl rfl rfl rfl rfl rfl ⟨rfl,rfl,rfl,rfl,rfl⟩ rfl rfl rfl rfl rfl (by kernel_rfl) Tryz.func3 closed
  (of_decide_eq_true (by kernel_rfl)) (by unfold Func.isWrapper;first|(rw [if_pos (by decide+kernel)];kernel_rfl)|(rw [if_neg (by decide+kernel)];exact⟨rfl,rfl⟩))
  (λos started H enc _=>lifted os started H enc)
theorem proved:Rows.TopRefutedSaid:=over
end Go.Proofs.YtodbmegkcniehaaGreat.topRefuted
