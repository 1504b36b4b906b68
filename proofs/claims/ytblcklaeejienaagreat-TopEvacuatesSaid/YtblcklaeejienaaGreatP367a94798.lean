/- Models of the program's functions, printed by tx.py. -/
import Derived.Test.YtblcklaeejienaaGreatP22cb6a708
set_option linter.defProp false
set_option linter.unusedSectionVars false
set_option linter.unusedSimpArgs false
set_option linter.unusedVariables false
namespace Go.CP
open Go
variable [Fuel]
abbrev Jq(p1:Int):Int:=jd .u64 (IntKind.u64.wrap ((iF .u64 (IntKind.u64.wrap ((jd .u64 (iF .u64 (IntKind.u64.wrap ((jd .u64 (iF .u64 p1 1) 6148914691236517205)+(jd .u64 p1 6148914691236517205))) 2) 3689348814741910323)+(jd .u64 (IntKind.u64.wrap ((jd .u64 (iF .u64 p1 1) 6148914691236517205)+(jd .u64 p1 6148914691236517205))) 3689348814741910323))) 4)+(IntKind.u64.wrap ((jd .u64 (iF .u64 (IntKind.u64.wrap ((jd .u64 (iF .u64 p1 1) 6148914691236517205)+(jd .u64 p1 6148914691236517205))) 2) 3689348814741910323)+(jd .u64 (IntKind.u64.wrap ((jd .u64 (iF .u64 p1 1) 6148914691236517205)+(jd .u64 p1 6148914691236517205))) 3689348814741910323))))) 1085102592571150095
abbrev Jp:ByteArray:=ByteArray.mk #[0,1,1,2,1,2,2,3,1,2,2,3,2,3,3,4,1,2,2,3,2,3,3,4,2,3,3,4,3,4,4,5,1,2,2,3,2,3,3,4,2,3,3,4,3,4,4,5,2,3,3,4,3,4,4,5,3,4,4,5,4,5,5,6,1,2,2,3,2,3,3,4,2,3,3,4,3,4,4,5,2,3,3,4,3,4,4,5,3,4,4,5,4,5,5,6,2,3,3,4,3,4,4,5,3,4,4,5,4,5,5,6,3,4,4,5,4,5,5,6,4,5,5,6,5,6,6,7,1,2,2,3,2,3,3,4,2,3,3,4,3,4,4,5,2,3,3,4,3,4,4,5,3,4,4,5,4,5,5,6,2,3,3,4,3,4,4,5,3,4,4,5,4,5,5,6,3,4,4,5,4,5,5,6,4,5,5,6,5,6,6,7,2,3,3,4,3,4,4,5,3,4,4,5,4,5,5,6,3,4,4,5,4,5,5,6,4,5,5,6,5,6,6,7,3,4,4,5,4,5,5,6,4,5,5,6,5,6,6,7,4,5,5,6,5,6,6,7,5,6,6,7,6,7,7,8]
def arJ:Option aN:=some (⟨2,[⟨0⟩,⟨1⟩],[⟨0,9⟩,⟨1,9⟩],[⟨5,2,0,0,3,0,false⟩],[⟨0,0⟩],[0],[0],1,20,0⟩:aN)
def mX(p1 p2 p3:Int):Option Bool:=some (decide (p2<=p1)&&decide (p1<=p3))
def ZF(p1:aN):Option Bool:=(mX p1.gH 1 4).bind λx1=>(bif x1 then mX (p1.iO.length:Int) 1 8 else some aG).bind λx2=>(bif x1&&x2 then mX (p1.aJ.length:Int) 1 16 else some aG).bind λx3=>(bif(x1&&x2)&&x3 then mX (p1.fD.length:Int) 1 30 else some aG).bind λx4=>(bif((x1&&x2)&&x3)&&x4 then mX (p1.dh.length:Int) 1 5 else some aG).bind λx5=>(bif(((x1&&x2)&&x3)&&x4)&&x5 then mX (p1.jX.length:Int) 1 9 else some aG).bind λx6=>some ((((((x1&&x2)&&x3)&&x4)&&x5)&&x6)&&decide ((p1.aH.length:Int)<=32))
def TT(x1:Int)(x2:List Int)(x3:Int):Nat->Int->Option Bool|0,_=>none|bg+1,x4=>bif decide (x4<x3) then bE x2 x4 λx5=>(mX x5 0 x1).bind λx6=>bif !x6 then some false else(TT x1 x2 x3 bg) (aQ (x4+1)) else some true
def TU(p1:aN)(x1:Int)(x7:List Int)(x8:Int):Nat->Int->Option Bool|0,_=>none|wz+1,x9=>bif decide (x9<x8) then bE x7 x9 λx10=>(mX x10 0 x1).bind λbQ=>bif !bQ then some false else(TU p1 x1 x7 x8 wz) (aQ (x9+1)) else TT x1 p1.jX (p1.jX.length:Int) fuel 0
def TV(p1:aN)(x1:Int)(bR:List jy)(dz:Int):Nat->Int->Option Bool|0,_=>none|MI+1,fq=>bif decide (fq<dz) then bE bR fq λfA=>(mX fA.tN 0 x1).bind λgT=>bif !gT then some false else(TV p1 x1 bR dz MI) (aQ (fq+1)) else TU p1 x1 p1.dh (p1.dh.length:Int) fuel 0
def TW(p1:aN)(iG:List jC)(x18:Int):Nat->Int->Option Bool|0,_=>none|fu4+1,mD=>bif decide (mD<x18) then bE iG mD λx20=>(mX x20.Region 0 (aQ (p1.gH-1))).bind λx21=>bif !x21 then some false else(TW p1 iG x18 fu4) (aQ (mD+1)) else TV p1 (aQ ((p1.iO.length:Int)-1)) p1.aJ (p1.aJ.length:Int) fuel 0
def ZX(p1:aN):Option Bool:=TW p1 p1.iO (p1.iO.length:Int) fuel 0
def TY(p1:aN)(x1:List ji)(x2:Int):Nat->Int->Option Bool|0,_=>none|bg+1,x3=>bif decide (x3<x2) then bE x1 x3 λx4=>bif((decide (x4.gP<0)||decide (x4.dL<x4.gP))||decide (30<x4.dL))||x3==0&&x4.gP !=0 then some false else(TY p1 x1 x2 bg) (aQ (x3+1)) else(mX p1.ou 1 16).bind λx5=>(bif x5 then mX p1.iC 1 1000 else some aG).bind λx6=>(bif x5&&x6 then mX p1.oW 0 10000 else some aG).bind λx7=>some ((x5&&x6)&&x7)
def T9(p1:aN)(x8:List jy)(x9:Int):Nat->Int->Option Bool|0,_=>none|wz+1,x10=>bif decide (x10<x9) then bE x8 x10 λbQ=>(mX bQ.lT 1 4194304).bind λbR=>bif !bR then some false else(T9 p1 x8 x9 wz) (aQ (x10+1)) else TY p1 p1.fD (p1.fD.length:Int) fuel 0
def ZY(p1:aN):Option Bool:=T9 p1 p1.aJ (p1.aJ.length:Int) fuel 0
def aal(p1:aN):Option Int:=(ZF p1).bind λx1=>bif !x1 then some 2 else(bif !(Int.tmod (p1.dh.length:Int) 2==0) then ZX p1 else some aG).bind λx2=>(bif !(Int.tmod (p1.dh.length:Int) 2==0||!x2) then ZY p1 else some aG).bind λx3=>bif(Int.tmod (p1.dh.length:Int) 2==0||!x2)||!x3 then some 1 else some 0
def BP(p1 p2 p3:Int):Option Bool:=some (decide (p2<=p1)&&decide (p1<=p3))
def YN(p1:iq)(p2:Int):Option Bool:=(BP p1.dZ 1 65536).bind λx1=>(bif x1 then BP p1.jA 0 p1.dZ else some aG).bind λx2=>(bif x1&&x2 then BP p1.iT 0 9 else some aG).bind λx3=>(bif(x1&&x2)&&x3 then BP p1.Xg (-1) 1000 else some aG).bind λx4=>bq (!(((x1&&x2)&&x3)&&x4)||decide ((0:Int)<=IntKind.u64.wrap p2)) ((bif((x1&&x2)&&x3)&&x4 then BP p1.BS 1 (aQ ((iV .i64 1 (IntKind.u64.wrap p2))-1))else some aG).bind λx5=>(bif(((x1&&x2)&&x3)&&x4)&&x5 then BP p1.Wh 0 32 else some aG).bind λx6=>some (((((x1&&x2)&&x3)&&x4)&&x5)&&x6))
def Oj(p1:aN)(x1:List iq)(x2:Int):Nat->Int->Option Int|0,_=>none|bg+1,x3=>bif decide (x3<x2) then bE x1 x3 λx4=>(YN x4 p1.gH).bind λx5=>bif !x5 then some 1 else(Oj p1 x1 x2 bg) (aQ (x3+1)) else some 0
def Us(p1:aN):Option Int:=(aal p1).bind λx6=>bif x6 !=0 then some x6 else Oj p1 p1.aH (p1.aH.length:Int) fuel 0
def aqd:Option bS:=some (⟨([]:List Int),0⟩:bS)
def aom:Option fU:=aqd.bind λx1=>some (⟨x1,0,(-1),([]:List cO)⟩:fU)
def UJ(p1 p2:Int):Option (bA×Int):=bq (!(!(decide (p2<1)||decide (5<p2)))||decide (2≠(0:Int))) (bif(((decide (p2<1)||decide (5<p2))||Int.tmod p2 2==0)||decide (p1<0))||decide (p2<=p1) then none else aom.bind λx1=>some ((⟨x1,p1,p2,1,0,0,⟨0,0,0,0,0⟩,⟨0,0,0,0,0⟩⟩:bA),0))
def ahg(p1:Int):Option (bP×Int):=bif decide (0<p1)||0==0 then(UJ 0 p1).bind λx1=>bif x1.2 !=0 then none else bif decide (1<p1)||1==0 then none else some ((⟨[x1.1],([]:List bJ),([]:List aP)⟩:bP),0) else none
def ad6(p1:(List jC)):Option (List jC):=bq (decide ((([]:List jC).length+p1.length)*8<=room)) (some (([]:List jC)++p1))
def ad5(p1:(List jy)):Option (List jy):=bq (decide ((([]:List jy).length+p1.length)*16<=room)) (some (([]:List jy)++p1))
def adX(p1:(List iq)):Option (List iq):=bq (decide ((([]:List iq).length+p1.length)*56<=room)) (some (([]:List iq)++p1))
def adU(p1:(List ji)):Option (List ji):=bq (decide ((([]:List ji).length+p1.length)*16<=room)) (some (([]:List ji)++p1))
def Yt(p1:(List Int)):Option (List Int):=bq (decide ((([]:List Int).length+p1.length)*8<=room)) (some (([]:List Int)++p1))
def Um(p1:aN):Option aN:=(ad6 p1.iO).bind λx1=>(ad5 p1.aJ).bind λx2=>(adX p1.aH).bind λx3=>(adU p1.fD).bind λx4=>(Yt p1.dh).bind λx5=>(Yt p1.jX).bind λx6=>some (⟨p1.gH,x1,x2,x3,x4,x5,x6,p1.ou,p1.iC,p1.oW⟩:aN)
def IU(x1:Int):Nat->aO->Int->Option aO|0,_,_=>none|bg+1,x2,x3=>bif decide (x3<x1) then bE x2.aJ x3 λx4=>bF (x2.aJ.set (Int.toNat x3) {x4 with gJ:=1}) λx5=>(IU x1 bg) {x2 with aJ:=x5} (aQ (x3+1)) else some x2
def IV(x6:Int):Nat->aO->Int->Option aO|0,_,_=>none|wz+1,x7,x8=>bif decide (x8<x6) then bE x7.aH x8 λx9=>bF (x7.aH.set (Int.toNat x8) (⟨false,false,(-1),(-1),(-1),(-1),0,⟨(-1),0,0,0,0⟩⟩:bI)) λx10=>(IV x6 wz) {x7 with aH:=x10} (aQ (x8+1)) else IU (x7.aJ.length:Int) fuel x7 0
def O8(p1:aN):Option aO:=bq (decide ((0:Int)<=(p1.aH.length:Int)/\((p1.aH.length:Int):Int)<=(p1.aH.length:Int)/\((p1.aH.length:Int):Int)<=9223372036854775807/\((p1.aH.length:Int):Int)*88<=140737488355328)) (bq (decide ((0:Int)<=(p1.aJ.length:Int)/\((p1.aJ.length:Int):Int)<=(p1.aJ.length:Int)/\((p1.aJ.length:Int):Int)<=9223372036854775807/\((p1.aJ.length:Int):Int)*32<=140737488355328)) (IV (((List.replicate (Int.toNat (p1.aH.length:Int)) (aG:bI)).length:Nat):Int) fuel (⟨0,0,List.replicate (Int.toNat (p1.aH.length:Int)) (aG:bI),List.replicate (Int.toNat (p1.aJ.length:Int)) (aG:gG),1,0,0,0⟩:aO) 0))
def K9(p1:aN):Option (bO×Int):=(Us p1).bind λx1=>bif x1 !=0 then none else(ahg (p1.dh.length:Int)).bind λx2=>bif x2.2 !=0 then none else(Um p1).bind λx3=>bq (decide ((0:Int)<=(x3.dh.length:Int))) ((O8 x3).bind λx4=>some ((⟨x3,iE x2.1,aQ ((iV .i64 1 (x3.dh.length:Int))-1),x4⟩:bO),0))
def ap1:Option pz:=some (⟨([]:List (Value×Value))⟩:pz)
def apS:Option iw:=some (⟨([]:List iY),([]:List jr),0⟩:iw)
def aox:Option jq:=some (⟨⟨⟨0,⟨0,0,0,ByteArray.empty⟩⟩,⟨0,⟨0,0,0,ByteArray.empty⟩⟩,⟨0,⟨0,0,0,ByteArray.empty⟩⟩,⟨0,⟨0,0,0,ByteArray.empty⟩⟩,⟨0,⟨0,0,0,ByteArray.empty⟩⟩,⟨0,⟨0,0,0,ByteArray.empty⟩⟩,⟨0,⟨0,0,0,ByteArray.empty⟩⟩,⟨0,⟨0,0,0,ByteArray.empty⟩⟩⟩⟩:jq)
def apl:Option Az:=ap1.bind λx1=>apS.bind λx2=>aox.bind λx3=>some (⟨x1,x2,x3⟩:Az)
def aqm(p1:Int):Option iJ:=some (⟨p1,0,([]:List iD)⟩:iJ)
def ahS(p1 p2:Int):Option lU:=apl.bind λx1=>(aqm p1).bind λx2=>some (⟨p1,p2,([]:List iH),x1,x2⟩:lU)
def agq(p1:lU):Option (Unit×lU):=some ((),p1)
def Kz(p1:lU):Option Unit:=some ()
theorem aC7(p1:lU):agq p1=(Kz p1).bind λx=>some (x,p1):=by
  simp only[agq,Kz,fJ,fV,gu,gq,gy,fT,bG,fZ]
def JY(p1:(List bI)):Option (List bI):=bq (decide ((([]:List bI).length+p1.length)*88<=room)) (some (([]:List bI)++p1))
def JZ(p1:(List gG)):Option (List gG):=bq (decide ((([]:List gG).length+p1.length)*32<=room)) (some (([]:List gG)++p1))
def afL(p1:bO):Option (aO×bO):=(JY p1.state.aH).bind λx1=>(JZ p1.state.aJ).bind λx2=>some ({p1.state with aH:=x1,aJ:=x2},iL p1)
def pQ(p1:bO):Option aO:=(JY p1.state.aH).bind λx1=>(JZ p1.state.aJ).bind λx2=>some {p1.state with aH:=x1,aJ:=x2}
theorem aBG(p1:bO):afL p1=(pQ p1).bind λx=>some (x,iL p1):=by
  simp only[afL,pQ,fJ,fV,gu,gq,gy,fT,bG,fZ]
def ap4(p1:aN):Option wP:=(K9 p1).bind λx1=>bif false||x1.2 !=0 then none else bif decide (0<(p1.aH.length:Int)) then bif decide (0<(p1.aJ.length:Int)) then(ahS 0 0).bind λx2=>(bif !false then Kz x2 else some aG).bind λx3=>bif false&&true then none else bif decide (1<(p1.aJ.length:Int)) then(ahS 1 0).bind λx4=>(bif !false then Kz x4 else some aG).bind λx5=>bif false&&true then none else bif decide (2<(p1.aJ.length:Int)) then none else bif decide (1<(p1.aH.length:Int)) then none else(pQ (iL x1.1)).bind λx6=>bif(x6.aH.length:Int) !=(p1.aH.length:Int)||(x6.aJ.length:Int) !=(p1.aJ.length:Int) then none else some (⟨p1,iL x1.1,[[x2,x4]],([]:List iM),([]:List wF),0⟩:wP) else none else none else none
def aAQ(p1:Int):Option Int:=bq (decide (0<=(iF .u32 p1 24)/\(iF .u32 p1 24)<((Jp.size:Nat):Int))) (bq (decide (0<=(jd .u32 (iF .u32 p1 16) 255)/\(jd .u32 (iF .u32 p1 16) 255)<((Jp.size:Nat):Int))) (bq (decide (0<=(jd .u32 (iF .u32 p1 8) 255)/\(jd .u32 (iF .u32 p1 8) 255)<((Jp.size:Nat):Int))) (bq (decide (0<=(jd .u32 p1 255)/\(jd .u32 p1 255)<((Jp.size:Nat):Int))) (some (IntKind.i64.wrap (IntKind.u8.wrap ((IntKind.u8.wrap ((IntKind.u8.wrap ((VP Jp (iF .u32 p1 24))+(VP Jp (jd .u32 (iF .u32 p1 16) 255))))+(VP Jp (jd .u32 (iF .u32 p1 8) 255))))+(VP Jp (jd .u32 p1 255)))))))))
def am6(p1:Int):Option Int:=some (jd .i64 (IntKind.i64.wrap (IntKind.u64.wrap ((IntKind.u64.wrap ((IntKind.u64.wrap ((Jq p1)+(iF .u64 (Jq p1) 8)))+(iF .u64 (IntKind.u64.wrap ((Jq p1)+(iF .u64 (Jq p1) 8))) 16)))+(iF .u64 (IntKind.u64.wrap ((IntKind.u64.wrap ((Jq p1)+(iF .u64 (Jq p1) 8)))+(iF .u64 (IntKind.u64.wrap ((Jq p1)+(iF .u64 (Jq p1) 8))) 16))) 32)))) 127)
def SH(p1:Int):Option Int:=(am6 p1).bind λx1=>some x1
def afK(p1:bO):Option (Bool×bO):=(SH (IntKind.u64.wrap p1.up)).bind λx1=>some (decide ((p1.eu.dh.length:Int)<aQ (2*x1)),iL p1)
def ze(p1:bO):Option Bool:=(SH (IntKind.u64.wrap p1.up)).bind λx1=>some (decide ((p1.eu.dh.length:Int)<aQ (2*x1)))
theorem aBF(p1:bO):afK p1=(ze p1).bind λx=>some (x,iL p1):=by
  simp only[afK,ze,fJ,fV,gu,gq,gy,fT,bG,fZ]
def KQ(p1:Int):Option ny:=some (⟨0,aQ (p1-1)⟩:ny)
def xK(x1:oh):Option (oh×Bool):=some (x1,true)
def Tq(p1:Int)(x2:ny)(x3:oh)(x4:Bool):Option (oh×Bool):=bif x4 then xK x3 else bif p1==16 then xK {x3 with n:=x2}else some ((⟨⟨0,0⟩,⟨0,0⟩,⟨0,0⟩,⟨0,0⟩,⟨0,0⟩,⟨0,0⟩⟩:oh),false)
def Tt(p1:Int)(p2:qN)(x5 x6 x7 x2:ny)(x3:oh)(x8:Bool):Option (oh×Bool):=bif x8 then xK {x3 with cell:=x5,n:=x6}else bif p1==12 then xK {x3 with n:=x6}else bif p1==13 then(KQ p2.regions).bind λx9=>xK {x3 with other:=x9,n:=x7} else bif p1==14 then Tq p1 x2 x3 (p1==14)else Tq p1 x2 x3 (p1==15)
def Tv(p1:Int)(p2:qN)(x10 x5 x6 x7 x2:ny)(x3:oh)(bQ:Bool):Option (oh×Bool):=bif bQ then xK {x3 with vH:=x10,cell:=x5}else bif p1==7 then xK {x3 with vH:=x10}else bif p1==8 then xK {x3 with vH:=x10,n:=x7}else bif p1==9 then xK {x3 with cell:=x5,n:=(⟨1,3⟩:ny)}else bif p1==10 then Tt p1 p2 x5 x6 x7 x2 x3 (p1==10)else Tt p1 p2 x5 x6 x7 x2 x3 (p1==11)
def Zv(p1:Int)(p2:qN):Option (oh×Bool):=(KQ p2.wJ).bind λx10=>(KQ p2.cells).bind λx5=>(KQ p2.zQ).bind λx6=>bif p1==1 then xK (⟨x10,x5,⟨(-1),aQ (p2.cells-1)⟩,⟨0,0⟩,⟨0,0⟩,⟨0,0⟩⟩:oh)else bif p1==2 then xK (⟨x10,x5,⟨(-1),(-1)⟩,⟨1,1048576⟩,⟨0,1073741824⟩,x6⟩:oh)else bif p1==3 then xK (⟨x10,⟨(-1),(-1)⟩,⟨(-1),(-1)⟩,⟨1,1048576⟩,⟨0,0⟩,⟨0,0⟩⟩:oh)else bif p1==4 then xK (⟨x10,⟨(-1),aQ (p2.cells-1)⟩,⟨(-1),(-1)⟩,⟨0,0⟩,⟨0,0⟩,⟨0,0⟩⟩:oh)else bif p1==5 then Tv p1 p2 x10 x5 x6 (⟨0,1⟩:ny) (⟨0,1073741824⟩:ny) (⟨⟨(-1),(-1)⟩,⟨(-1),(-1)⟩,⟨(-1),(-1)⟩,⟨0,0⟩,⟨0,0⟩,⟨0,0⟩⟩:oh) (p1==5)else Tv p1 p2 x10 x5 x6 (⟨0,1⟩:ny) (⟨0,1073741824⟩:ny) (⟨⟨(-1),(-1)⟩,⟨(-1),(-1)⟩,⟨(-1),(-1)⟩,⟨0,0⟩,⟨0,0⟩,⟨0,0⟩⟩:oh) (p1==6)
def DJ(p1:ny)(p2:Int):Option Bool:=some (decide (p1.low<=p2)&&decide (p2<=p1.Jt))
def O0(p1:aP)(p2:qN):Option Bool:=(Zv p1.aM p2).bind λx1=>bif(!x1.2||p1.aM==1&&p1.dx==p1.aK)then some false else(bif decide (0<=p1.bf)&&decide (p1.bf<=1073741824) then DJ x1.1.vH p1.aI else some aG).bind λx2=>(bif(decide (0<=p1.bf)&&decide (p1.bf<=1073741824))&&x2 then DJ x1.1.cell p1.aK else some aG).bind λx3=>(bif((decide (0<=p1.bf)&&decide (p1.bf<=1073741824))&&x2)&&x3 then DJ x1.1.other p1.dx else some aG).bind λx4=>(bif(((decide (0<=p1.bf)&&decide (p1.bf<=1073741824))&&x2)&&x3)&&x4 then DJ x1.1.ajY p1.bN else some aG).bind λx5=>(bif((((decide (0<=p1.bf)&&decide (p1.bf<=1073741824))&&x2)&&x3)&&x4)&&x5 then DJ x1.1.acp p1.From else some aG).bind λx6=>(bif(((((decide (0<=p1.bf)&&decide (p1.bf<=1073741824))&&x2)&&x3)&&x4)&&x5)&&x6 then DJ x1.1.acp p1.bV else some aG).bind λx7=>(bif((((((decide (0<=p1.bf)&&decide (p1.bf<=1073741824))&&x2)&&x3)&&x4)&&x5)&&x6)&&x7 then DJ x1.1.n p1.N else some aG).bind λx8=>some ((((((((decide (0<=p1.bf)&&decide (p1.bf<=1073741824))&&x2)&&x3)&&x4)&&x5)&&x6)&&x7)&&x8)
def sG(p1:aP):Option Bool:=(O0 p1 (⟨32,16,4,30⟩:qN)).bind λx1=>some x1
def Uv(p1:aN)(p2:aP):Option Bool:=(sG p2).bind λx1=>(bif x1 then O0 p2 (⟨(p1.aH.length:Int),(p1.aJ.length:Int),p1.gH,(p1.fD.length:Int)⟩:qN)else some aG).bind λx2=>some (x1&&x2)
def F3(p1:aO)(p2:Int):Option Int:=bif decide (p2<0)||decide ((p1.aJ.length:Int)<=p2) then some 0 else bE p1.aJ p2 λx1=>some x1.gJ
def ag0(p1:aN)(p2:Int):Option Int:=(mX p2 0 (aQ ((p1.aJ.length:Int)-1))).bind λx1=>bif !x1 then some (-1) else bE p1.aJ p2 λx2=>some x2.tN
def NY(p1:aN)(p2:Int):Option Int:=(mX p2 0 (aQ ((p1.iO.length:Int)-1))).bind λx1=>bif !x1 then some (-1) else bE p1.iO p2 λx2=>some x2.Region
def wD(p1:aN)(p2:Int):Option Int:=(ag0 p1 p2).bind λx1=>(NY p1 x1).bind λx2=>some x2
def DX(p1 p2:Int):Option Bool:=bq (!(decide (0<=p2)&&decide (p2<64))||decide ((0:Int)<=p2)) (some ((decide (0<=p2)&&decide (p2<64))&&jd .i64 (iF .i64 p1 p2) 1==1))
def KO(p1:aN)(p2:aO)(p3:Int):Option Bool:=(wD p1 p3).bind λx1=>(DX p2.d9 x1).bind λx2=>some x2
def K4(p1:aN)(p2 p3:Int):Option Bool:=(wD p1 p3).bind λx1=>(BP p2 0 (aQ ((p1.aH.length:Int)-1))).bind λx2=>qH (x2&&decide (0<=x1)) p1.aH p2 λx3=>bq (!(x2&&decide (0<=x1))||decide ((0:Int)<=IntKind.u64.wrap x1)) (some ((x2&&decide (0<=x1))&&jd .i64 (iF .i64 x3.BS (IntKind.u64.wrap x1)) 1==1))
def OQ(p1:aN)(p2 p3:Int):Option Bool:=(wD p1 p2).bind λx1=>(wD p1 p3).bind λx2=>some ((decide (0<=x1)&&decide (0<=x2))&&x1 !=x2)
def KZ(p1:aN)(p2 p3:Int):Option Bool:=(bif p3 !=(-1) then OQ p1 p2 p3 else some aG).bind λx1=>some (p3 !=(-1)&&!x1)
def Y7(x1:Bool):Option Int:=bif x1 then some 11 else some 0
def Y8(p1:aN)(p3:aP)(x2 x3:Bool):Option Int:=bif x3 then some 12 else(K4 p1 p3.aI p3.aK).bind λx4=>bif !x4 then some 11 else(bif x2 then K4 p1 p3.aI p3.dx else some aG).bind λx5=>bif x2&&!x5 then Y7 (x2&&!x5)else(KZ p1 p3.aK p3.dx).bind λx6=>Y7 x6
def Y9(p1:aN)(p2:aO)(p3:aP)(x2 x7:Bool):Option Int:=bif x7 then some 6 else(KO p1 p2 p3.aK).bind λx8=>bif x8 then Y8 p1 p3 x2 x8 else(bif x2 then KO p1 p2 p3.dx else some aG).bind λx9=>Y8 p1 p3 x2 (x2&&x9)
def UL(p1:aN)(p2:aO)(p3:aP):Option Int:=bE p2.aH p3.aI λx10=>bif x10.dN then some 4 else(F3 p2 p3.aK).bind λbQ=>bif bQ !=1 then Y9 p1 p2 p3 (p3.dx !=(-1)) (bQ !=1)else(bif p3.dx !=(-1) then F3 p2 p3.dx else some aG).bind λbR=>Y9 p1 p2 p3 (p3.dx !=(-1)) (p3.dx !=(-1)&&bR !=1)
def Tn(x1:Bool):Option Int:=bif x1 then some 11 else some 0
def Tp(p1:aN)(p2:aO)(p3:aP)(x2:bI)(x3:Bool):Option Int:=bif x3 then some 5 else(F3 p2 p3.aK).bind λx4=>bif x4 !=1 then some 6 else(KO p1 p2 p3.aK).bind λx5=>bif x5 then some 12 else(K4 p1 p3.aI p3.aK).bind λx6=>bif !x6 then Tn (!x6)else(OQ p1 p3.aK x2.bC).bind λx7=>bif !x7 then Tn (!x7)else(KZ p1 p3.aK x2.dK).bind λx8=>Tn x8
def Ui(p1:aN)(p2:aO)(p3:aP):Option Int:=bE p2.aH p3.aI λx2=>bif !x2.dN then some 4 else bif p3.aK==(-1) then some 0 else bif p3.aK==x2.bC then Tp p1 p2 p3 x2 (p3.aK==x2.bC)else bif p3.aK==x2.aT then Tp p1 p2 p3 x2 (p3.aK==x2.aT)else Tp p1 p2 p3 x2 (p3.aK==x2.dK)
def UN(p1:aO)(p2:aP):Option Int:=bE p1.aH p2.aI λx1=>bif !x1.dN then some 4 else bif p2.aK !=x1.Next then some 5 else(F3 p1 p2.aK).bind λx2=>bif x2==3 then some 6 else some 0
def Ti(x1:Bool):Option Int:=bif x1 then some 11 else some 0
def Tj(p1:aN)(p2:aO)(p3:aP)(x2:bI)(x3:Bool):Option Int:=bif x3 then some 5 else(F3 p2 p3.aK).bind λx4=>bif x4 !=1 then some 6 else(KO p1 p2 p3.aK).bind λx5=>bif x5 then some 12 else(K4 p1 p3.aI p3.aK).bind λx6=>bif !x6 then Ti (!x6)else(KZ p1 p3.aK x2.aT).bind λx7=>bif x7 then Ti x7 else(KZ p1 p3.aK x2.Next).bind λx8=>Ti x8
def Tk(p1:aN)(p2:aO)(p3:aP)(x2:bI)(x9:Bool):Option Int:=bif x9 then some 4 else bif p3.aK==x2.bC then Tj p1 p2 p3 x2 (p3.aK==x2.bC)else bif p3.aK==x2.aT then Tj p1 p2 p3 x2 (p3.aK==x2.aT)else Tj p1 p2 p3 x2 (p3.aK==x2.Next)
def Uh(p1:aN)(p2:aO)(p3:aP):Option Int:=bE p2.aH p3.aI λx2=>bif !x2.dN then Tk p1 p2 p3 x2 (!x2.dN)else bif x2.eX then Tk p1 p2 p3 x2 x2.eX else Tk p1 p2 p3 x2 (x2.dK !=(-1))
def Ug(p1:aO)(p2:aP):Option Int:=bE p1.aH p2.aI λx1=>bif(!x1.dN||x1.dK==(-1))then some 4 else some 0
def Zp(p2:aP)(x1:bI)(x2:Bool):Option Int:=bif x2 then some 4 else bif decide (p2.bf<x1.dn.bV) then some 9 else some 0
def U0(p1:aO)(p2:aP):Option Int:=bE p1.aH p2.aI λx1=>bif p2.N==0 then bif !x1.eX then some 4 else(F3 p1 x1.bC).bind λx3=>bif x3==3 then some 6 else some 0 else bif !x1.dN then Zp p2 x1 (!x1.dN)else Zp p2 x1 x1.eX
def Y4(x1:Bool):Option Int:=bif x1 then some 9 else some 0
def Ou(p3:aP)(x2:bI)(x3 x4:Bool):Option Int:=bif x4 then some 9 else bif decide (p3.From<x2.dn.bV) then Y4 (decide (p3.From<x2.dn.bV))else Y4 (!x3&&decide (p3.bf<x2.dn.bV))
def Y5(p1:aN)(p3:aP)(x2:bI)(x3 x5:Bool):Option Int:=bif x5 then some 8 else bif decide (p3.From<p3.bf) then Ou p3 x2 x3 (decide (p3.From<p3.bf))else bif decide (aQ (p3.bf+p1.iC)<p3.From) then Ou p3 x2 x3 (decide (aQ (p3.bf+p1.iC)<p3.From))else bif decide (p3.bV<=p3.From) then Ou p3 x2 x3 (decide (p3.bV<=p3.From))else Ou p3 x2 x3 (decide (p1.iC<aQ (p3.bV-p3.From)))
def Y6(p1:aN)(p3:aP)(x2:bI)(x6:gG)(x3 x7:Bool):Option Int:=bif x7 then some 6 else bif p3.bN !=aQ (x2.bN+1)&&!(x3&&p3.bN==x2.bN) then some 7 else bif p3.N !=x6.fI then Y5 p1 p3 x2 x3 (p3.N !=x6.fI)else Y5 p1 p3 x2 x3 (x6.fI !=x6.iN)
def TP(p1:aN)(p3:aP)(x2:bI)(x6:gG)(x3 x8:Bool):Option Int:=bif x8 then some 4 else bif(!x3&&p3.aK !=x2.aT)&&p3.aK !=x2.dK then some 5 else bif x6.gJ==3 then Y6 p1 p3 x2 x6 x3 (x6.gJ==3)else Y6 p1 p3 x2 x6 x3 (x6.gJ==2&&!x3)
def KT(p1:aN)(p2:aO)(p3:aP):Option Int:=bE p2.aH p3.aI λx2=>bE p2.aJ p3.aK λx6=>bif !x2.dN then TP p1 p3 x2 x6 (p3.aK==x2.bC) (!x2.dN)else TP p1 p3 x2 x6 (p3.aK==x2.bC) (x2.eX&&p3.aK !=x2.aT)
def U9(p1:aO)(p2:aP):Option Int:=bE p1.aH p2.aI λx1=>bif !x1.dN then some 4 else bif p2.bN !=x1.bN then some 7 else some 0
def UY(p1:aO)(p2:aP):Option Int:=bE p1.aJ p2.aK λx1=>bif x1.gJ==p2.N then some 4 else some 0
def Oi(p1:aN)(p2:Int):Option ji:=bif decide (p2<0)||decide ((p1.fD.length:Int)<=p2) then some (⟨0,0⟩:ji) else bE p1.fD p2 λx1=>some x1
def YH(ae1:(List Int)->Int->Option (List Int))(x1:Int)(x2:List Int):Option (List Int):=ae1 x2 (aQ (x1+1))
def FJ(p1:aO)(x3:List gG)(x4:Int):Nat->(List Int)->Int->Option (List Int)|0,_,_=>none|bg+1,x5,x1=>bif decide (x1<x4) then bE x3 x1 λx6=>(DX p1.jT x6.fI).bind λx7=>(bif !(!x7) then DX p1.jT x6.iN else some aG).bind λx8=>bif !x7||!x8 then bq (decide ((x5.length+ [x1].length)*8<=room)) (YH (FJ p1 x3 x4 bg) x1 (x5++ [x1])) else YH (FJ p1 x3 x4 bg) x1 x5 else some x5
def Y3(p1:aO):Option (List Int):=FJ p1 p1.aJ (p1.aJ.length:Int) fuel ([]:List Int) 0
def Zq(af9:Int->Int->Option Int)(x1 x2:Int):Option Int:=af9 x2 (aQ (x1+1))
def DL(p1:aN)(p3:aP)(x3:List Int)(x4:Int):Nat->Int->Int->Option Int|0,_,_=>none|bg+1,x5,x1=>bif decide (x1<x4) then bE x3 x1 λx6=>bif x6 !=p3.aK then Zq (DL p1 p3 x3 x4 bg) x1 (aQ (x5+1))else Zq (DL p1 p3 x3 x4 bg) x1 x5 else bif decide (p1.ou<=x5) then some 14 else some 0
def Zr(p1:aN)(p2:aO)(p3:aP)(x7:Bool):Option Int:=bif x7 then some 0 else bif p2.d9 !=0 then some 12 else(Y3 p2).bind λx3=>DL p1 p3 x3 (x3.length:Int) fuel 0 0
def Zt(p1:aN)(p2:aO)(p3:aP)(x8:gG)(x9:Bool):Option Int:=bif x9 then some 13 else bif x8.fI==p3.N then Zr p1 p2 p3 (x8.fI==p3.N)else(DX p2.jT p3.N).bind λx10=>Zr p1 p2 p3 x10
def U1(p1:aN)(p2:aO)(p3:aP):Option Int:=bE p2.aJ p3.aK λx8=>(Oi p1 p3.N).bind λbQ=>bif x8.iN==p3.N then some 4 else bif decide (p2.gP<bQ.gP) then Zt p1 p2 p3 x8 (decide (p2.gP<bQ.gP))else Zt p1 p2 p3 x8 (decide (bQ.dL<p2.dL))
def FX(p2:aP)(x1:List bI)(x2:Int):Nat->Int->Option Int|0,_=>none|bg+1,x3=>bif decide (x3<x2) then bE x1 x3 λx4=>bif x4.dn.aK==p2.aK&&decide (p2.bf<x4.dn.bV) then some 9 else(FX p2 x1 x2 bg) (aQ (x3+1)) else some 0
def Zo(p1:aO)(p2:aP)(x5:Bool):Option Int:=bif x5 then some 4 else(DX p1.jT p2.N).bind λx6=>bif(!x6&&p1.d9 !=0)then some 12 else FX p2 p1.aH (p1.aH.length:Int) fuel 0
def UZ(p1:aO)(p2:aP):Option Int:=bE p1.aJ p2.aK λx7=>bif x7.iN !=p2.N then Zo p1 p2 (x7.iN !=p2.N)else Zo p1 p2 (x7.fI==x7.iN)
def FT(p1:aN)(p3:aP)(x1:List gG)(x2:Int):Nat->Int->Option Int|0,_=>none|bg+1,x3=>bif decide (x3<x2) then bE x1 x3 λx4=>bif((x4.gJ !=3&&x4.fI==p3.N)&&x4.iN==p3.N)&&decide (p1.oW<=aQ (p3.bf-x4.p9)) then some 0 else(FT p1 p3 x1 x2 bg) (aQ (x3+1)) else some 15
def UM(p1:aN)(p2:aO)(p3:aP):Option Int:=(DX p2.jT p3.N).bind λx5=>bif x5 then some 4 else FT p1 p3 p2.aJ (p2.aJ.length:Int) fuel 0
def KF(p1:aO)(p2:aP):Option Int:=(DX p1.d9 p2.dx).bind λx1=>bif x1==(p2.N==1) then some 4 else some 0
def FP(p1:aN)(p2:aO)(x1:List gG)(x2:Int):Nat->Int->Option Int|0,_=>none|bg+1,x3=>bif decide (x3<x2) then bE x1 x3 λx4=>(Oi p1 x4.fI).bind λx5=>(bif !(decide (x5.dL<=p2.dL)) then Oi p1 x4.iN else some aG).bind λx6=>bif decide (x5.dL<=p2.dL)||decide (x6.dL<=p2.dL) then some 13 else(FP p1 p2 x1 x2 bg) (aQ (x3+1)) else some 0
def Ur(p1:aN)(p2:aO):Option Int:=bif decide (p2.gP<p2.dL) then some 4 else bif decide (30<=p2.dL) then some 2 else FP p1 p2 p2.aJ (p2.aJ.length:Int) fuel 0
def TN(p1:aO):Option Int:=bif p1.dL==p1.gP then some 4 else some 0
def DI(p1:aN)(p2:aO)(p3:aP)(x1:Bool):Option Int:=bif x1 then some 1 else bif decide (4096<=p2.eH) then some 2 else bif decide (p3.bf<p2.bf) then some 3 else bif p3.aM==1 then(UL p1 p2 p3).bind λx2=>some x2 else bif p3.aM==4 then(Ui p1 p2 p3).bind λx3=>some x3 else bif p3.aM==5 then(UN p2 p3).bind λx4=>some x4 else bif p3.aM==6 then(Uh p1 p2 p3).bind λx5=>some x5 else bif p3.aM==7 then(Ug p2 p3).bind λx6=>some x6 else bif p3.aM==8 then(U0 p2 p3).bind λx7=>some x7 else bif p3.aM==2 then(KT p1 p2 p3).bind λx8=>some x8 else bif p3.aM==3 then(U9 p2 p3).bind λx9=>some x9 else bif p3.aM==9 then(UY p2 p3).bind λx10=>some x10 else bif p3.aM==10 then(U1 p1 p2 p3).bind λbQ=>some bQ else bif p3.aM==11 then(UZ p2 p3).bind λbR=>some bR else bif p3.aM==12 then(UM p1 p2 p3).bind λdz=>some dz else bif p3.aM==13 then(KF p2 p3).bind λfq=>some fq else bif p3.aM==14 then(Ur p1 p2).bind λfA=>some fA else bif p3.aM==15 then(TN p2).bind λgT=>some gT else some 0
def Av(p1:aN)(p2:aO)(p3:aP):Option Int:=(Uv p1 p3).bind λiG=>bif !iG then DI p1 p2 p3 (!iG)else bif(p2.aH.length:Int) !=(p1.aH.length:Int) then DI p1 p2 p3 ((p2.aH.length:Int) !=(p1.aH.length:Int))else DI p1 p2 p3 ((p2.aJ.length:Int) !=(p1.aJ.length:Int))
def OP(p1:List gG)(p2:Nat)(p3:aP):Option (List gG):=bif p3.aM==9 then bF (p1.getD p2 aG) λx1=>bF (p1.set p2 {x1 with gJ:=p3.N}) λx2=>bF (x2.getD p2 aG) λx3=>bF (x2.set p2 {x3 with p9:=p3.bf}) λx4=>some x4 else bif p3.aM==10 then bF (p1.getD p2 aG) λx5=>bF (p1.set p2 {x5 with iN:=p3.N}) λx6=>some x6 else bif p3.aM==11 then bF (p1.getD p2 aG) λx7=>bF (p1.set p2 {x7 with fI:=p3.N}) λx8=>bF (x8.getD p2 aG) λx9=>bF (x8.set p2 {x9 with p9:=p3.bf}) λx10=>some x10 else some p1
def agy(p1:List bI)(p2:Nat)(p3:aP):Option (List bI):=bF (p1.getD p2 aG) λx1=>bF (p1.set p2 {x1 with dn:=(⟨p3.aK,p3.bN,p3.N,p3.From,p3.bV⟩:iD)}) λx2=>bF (x2.getD p2 aG) λx3=>bF (x2.set p2 {x3 with bN:=p3.bN}) λx4=>bF (x4.getD p2 aG) λx5=>bif p3.aK==x5.bC then some x4 else bif p3.aK==x5.aT then bF (x4.set p2 {x5 with bC:=p3.aK}) λx6=>bF (x6.getD p2 aG) λx7=>bF (x6.set p2 {x7 with aT:=(-1)}) λx8=>bF (x8.getD p2 aG) λx9=>bF (x8.set p2 {x9 with Next:=(-1)}) λx10=>bF (x10.getD p2 aG) λbQ=>bF (x10.set p2 {bQ with dK:=(-1)}) λbR=>bF (bR.getD p2 aG) λdz=>bF (bR.set p2 {dz with eX:=false}) λfq=>some fq else bif p3.aK==x5.dK then bF (x4.set p2 {x5 with bC:=p3.aK}) λfA=>bF (fA.getD p2 aG) λgT=>bF (fA.set p2 {gT with dK:=(-1)}) λiG=>some iG else some x4
def Ar(p1:List bI)(p2:Nat)(p3:aP):Option (List bI):=bif p3.aM==1 then bF (p1.getD p2 aG) λx1=>bF (p1.set p2 {x1 with dN:=true}) λx2=>bF (x2.getD p2 aG) λx3=>bF (x2.set p2 {x3 with bC:=p3.aK}) λx4=>bF (x4.getD p2 aG) λx5=>bF (x4.set p2 {x5 with aT:=p3.dx}) λx6=>some x6 else bif p3.aM==4 then bF (p1.getD p2 aG) λx7=>bF (p1.set p2 {x7 with Next:=p3.aK}) λx8=>some x8 else bif p3.aM==5 then bF (p1.getD p2 aG) λx9=>bF (p1.set p2 {x9 with aT:=p3.aK}) λx10=>bF (x10.getD p2 aG) λbQ=>bF (x10.set p2 {bQ with Next:=(-1)}) λbR=>some bR else bif p3.aM==6 then bF (p1.getD p2 aG) λdz=>bF (p1.set p2 {dz with dK:=p3.aK}) λfq=>some fq else bif p3.aM==7 then bF (p1.getD p2 aG) λfA=>bF (p1.set p2 {fA with dK:=(-1)}) λgT=>some gT else bif p3.aM==8 then bF (p1.getD p2 aG) λiG=>bF (p1.set p2 {iG with eX:=p3.N==1}) λx18=>bF (x18.getD p2 aG) λmD=>bif mD.eX then bF (x18.set p2 {mD with dK:=(-1)}) λx20=>some x20 else some x18 else bif p3.aM==3 then bF (p1.getD p2 aG) λx21=>bF (p1.set p2 {x21 with dn:={x21.dn with bV:=je x21.dn.bV (aQ (p3.bf+1))}}) λog=>bF (og.getD p2 aG) λx23=>bF (og.set p2 {x23 with dn:={x23.dn with From:=je x23.dn.From x23.dn.bV}}) λx24=>some x24 else bif p3.aM==2 then(agy p1 p2 p3).bind λx25=>some x25 else some p1
def Aq(x1:aO):Option aO:=some x1
def KC(p2:aP)(x2:aO)(x3:Int)(x4:Bool):Option aO:=bif x4 then bE x2.aJ p2.aK λx5=>(OP x2.aJ (Int.toNat p2.aK) p2).bind λx6=>Aq {x2 with aJ:=x6} else bif x3==12 then bq (decide ((0:Int)<=p2.N)) (Aq {x2 with jT:=um .i64 x2.jT (iV .i64 1 p2.N)}) else bif x3==13 then bif p2.N==1 then bq (decide ((0:Int)<=p2.dx)) (Aq {x2 with d9:=um .i64 x2.d9 (iV .i64 1 p2.dx)}) else bq (decide ((0:Int)<=p2.dx)) (Aq {x2 with d9:=Lh .i64 x2.d9 (iV .i64 1 p2.dx)}) else bif x3==14 then Aq {x2 with dL:=aQ (x2.dL+1)}else bif x3==15 then Aq {x2 with gP:=x2.dL}else bif x3==16 then Aq x2 else bE x2.aH p2.aI λx7=>(Ar x2.aH (Int.toNat p2.aI) p2).bind λx8=>Aq {x2 with aH:=x8}
def xL(p1:aO)(p2:aP):Option aO:=(JY p1.aH).bind λx9=>(JZ p1.aJ).bind λx10=>bif p2.aM==9 then KC p2 {p1 with bf:=p2.bf,eH:=aQ (p1.eH+1),aH:=x9,aJ:=x10} p2.aM (p2.aM==9)else bif p2.aM==10 then KC p2 {p1 with bf:=p2.bf,eH:=aQ (p1.eH+1),aH:=x9,aJ:=x10} p2.aM (p2.aM==10)else KC p2 {p1 with bf:=p2.bf,eH:=aQ (p1.eH+1),aH:=x9,aJ:=x10} p2.aM (p2.aM==11)
def rH(p1:aP)(x1:Int)(x2:Bool):Option Bool:=bif x2 then some true else bif x1==4 then some (p1.aK !=(-1)) else bif x1==8 then some (p1.N==0) else some false
def ql(p1:aP):Option Bool:=bif p1.aM==1 then rH p1 p1.aM (p1.aM==1)else bif p1.aM==6 then rH p1 p1.aM (p1.aM==6)else rH p1 p1.aM (p1.aM==2)
def KX(p1:aN)(p2:aO):Option Int:=some (je (p1.aH.length:Int) (p2.aH.length:Int))
def Uy(p1:bI):Option Bool:=some (p1.dN&&!p1.eX)
def I7(p1:List Int)(p2 p3:Int):Option (List Int):=bif decide (0<=p2)&&decide (p2<(p1.length:Int)) then bE p1 p2 λx1=>bE p1 p2 λx2=>bF (p1.set (Int.toNat p2) (aQ (x1+p3))) λx3=>some x3 else some p1
def YZ(NU:(List Int)->Int->Option (List Int))(x1:Int)(x2:List Int):Option (List Int):=NU x2 (aQ (x1+1))
def Y0(NU:(List Int)->Int->Option (List Int))(x1:Int)(x3:iq)(x4:bI)(x5:List Int):Option (List Int):=(I7 x5 x4.aT x3.jA).bind λx6=>(I7 x6 x4.Next x3.jA).bind λx7=>YZ NU x1 x7
def IE(p1:aN)(p2:aO)(x8:Int):Nat->(List Int)->Int->Option (List Int)|0,_,_=>none|bg+1,x9,x1=>bif decide (x1<x8) then bE p1.aH x1 λx3=>bE p2.aH x1 λx4=>bif !x4.dN then YZ (IE p1 p2 x8 bg) x1 x9 else(Uy x4).bind λx10=>bif x10 then(I7 x9 x4.bC x3.dZ).bind λbQ=>(I7 bQ x4.dK x3.dZ).bind λbR=>Y0 (IE p1 p2 x8 bg) x1 x3 x4 bR else Y0 (IE p1 p2 x8 bg) x1 x3 x4 x9 else some x9
def IX(p1:aN)(p2:aO):Option (List Int):=bq (decide ((0:Int)<=(p1.aJ.length:Int)/\((p1.aJ.length:Int):Int)<=(p1.aJ.length:Int)/\((p1.aJ.length:Int):Int)<=9223372036854775807/\((p1.aJ.length:Int):Int)*8<=140737488355328)) ((KX p1 p2).bind λx8=>IE p1 p2 x8 fuel (List.replicate (Int.toNat (p1.aJ.length:Int)) (aG:Int)) 0)
def Zx(agi:(List Int)->Int->Option (List Int))(x1:Int)(x2:List Int):Option (List Int):=agi x2 (aQ (x1+1))
def KJ(p1:aN)(x3:List Int)(x4:Int):Nat->(List Int)->Int->Option (List Int)|0,_,_=>none|bg+1,x5,x1=>bif decide (x1<x4) then bE x3 x1 λx6=>bE p1.aJ x1 λx7=>bif decide (x7.lT<x6) then bq (decide ((x5.length+ [x1].length)*8<=room)) (Zx (KJ p1 x3 x4 bg) x1 (x5++ [x1])) else Zx (KJ p1 x3 x4 bg) x1 x5 else some x5
def U4(p1:aN)(p2:aO):Option (List Int):=(IX p1 p2).bind λx3=>KJ p1 x3 (x3.length:Int) fuel ([]:List Int) 0
def BQ(p1:aN)(p2:aO)(p3:aP):Option (aO×Int):=(Av p1 p2 p3).bind λx1=>bif x1 !=0 then some ((⟨0,0,([]:List bI),([]:List gG),0,0,0,0⟩:aO),x1) else(xL p2 p3).bind λx2=>(ql p3).bind λx3=>(bif x3 then U4 p1 x2 else some aG).bind λx4=>bif x3&&decide (0<(x4.length:Int)) then some ((⟨0,0,([]:List bI),([]:List gG),0,0,0,0⟩:aO),10) else some (x2,0)
def ae3(p1:bA):Option (Int×bA):=some (p1.fP,p1)
def xH(p1:bA):Option Int:=some p1.fP
theorem azt(p1:bA):ae3 p1=(xH p1).bind λx=>some (x,p1):=by
  simp only[ae3,xH,fJ,fV,gu,gq,gy,fT,bG,fZ]
def aeU(p1:fU):Option (Int×fU):=some (p1.gM,p1)
def o9(p1:fU):Option Int:=some p1.gM
theorem azi(p1:fU):aeU p1=(o9 p1).bind λx=>some (x,p1):=by
  simp only[aeU,o9,fJ,fV,gu,gq,gy,fT,bG,fZ]
def ae4(p1:bA):Option (Int×bA):=(o9 p1.aS).bind λx1=>some (x1,p1)
def jl(p1:bA):Option Int:=(o9 p1.aS).bind λx1=>some x1
theorem azu(p1:bA):ae4 p1=(jl p1).bind λx=>some (x,p1):=by
  simp only[ae4,jl,fJ,fV,gu,gq,gy,fT,bG,fZ]
def aez(x1 x2 x3:Int)(x4:bP):Option (Int×bP):=bif decide (aQ (x3+1)<x2) then none else some (x1,x4)
def ND(p1:bP):Option (Int×bP):=bif decide (0<1) then(xH (p1.aU.getD 0 aG)).bind λx5=>(bif x5==3&&!(decide ((-1)<0)) then jl (p1.aU.getD 0 aG)else some aG).bind λx6=>bq (!(x5==3&&!(decide ((-1)<0)))||decide ((0:Int)<=(-1)/\((-1):Int)<((1:Nat):Int))) ((bif x5==3&&!(decide ((-1)<0)) then jl (p1.aU.getD 0 aG)else some aG).bind λx7=>bif x5==3&&(decide ((-1)<0)||decide (x7<x6)) then aez 0 1 0 (iE p1)else aez (-1) 1 0 (iE p1)) else none
def af3(p1:bO)(p2:Int):Option (Bool×bO):=bq (!(decide (0<=p2)&&decide (p2<(p1.eu.dh.length:Int)))||decide ((0:Int)<=p2)) (some ((decide (0<=p2)&&decide (p2<(p1.eu.dh.length:Int)))&&jd .i64 (iF .i64 p1.up p2) 1==1,iL p1))
def pq(p1:bO)(p2:Int):Option Bool:=bq (!(decide (0<=p2)&&decide (p2<(p1.eu.dh.length:Int)))||decide ((0:Int)<=p2)) (some ((decide (0<=p2)&&decide (p2<(p1.eu.dh.length:Int)))&&jd .i64 (iF .i64 p1.up p2) 1==1))
theorem aCl(p1:bO)(p2:Int):af3 p1 p2=(pq p1 p2).bind λx=>some (x,iL p1):=by
  simp only[af3,pq,fJ,fV,gu,gq,gy,fT,bG,fZ]
def afP(p1:bP)(p2:Int):Option (Bool×bP):=some (decide (0<=p2)&&decide (p2<1),iE p1)
def FE(p1:bP)(p2:Int):Option Bool:=some (decide (0<=p2)&&decide (p2<1))
theorem aBO(p1:bP)(p2:Int):afP p1 p2=(FE p1 p2).bind λx=>some (x,iE p1):=by
  simp only[afP,FE,fJ,fV,gu,gq,gy,fT,bG,fZ]
def Dq(p2:lS)(x1:Bool)(x2:bP):Option (Bool×bP):=bif x1 then some (decide (0<=p2.N)&&decide (p2.N<(x2.bn.length:Int)),x2) else some (false,x2)
def J7(p2:lS)(x3:Int)(x4:Bool)(x5:bP):Option (Bool×bP):=bif x4 then(FE x5 p2.nY).bind λx6=>some (x6,x5) else bif x3==4 then Dq p2 (x3==4) x5 else bif x3==5 then Dq p2 (x3==5) x5 else Dq p2 (x3==6) x5
def aeA(p1:bP)(p2:lS):Option (Bool×bP):=bif p2.aM==1 then J7 p2 p2.aM (p2.aM==1) (iE p1)else bif p2.aM==2 then J7 p2 p2.aM (p2.aM==2) (iE p1)else bif p2.aM==3 then J7 p2 p2.aM (p2.aM==3) (iE p1)else J7 p2 p2.aM (p2.aM==7) (iE p1)
def HY(p2:lS)(x1:Bool)(x2:bP):Option Bool:=bif x1 then some (decide (0<=p2.N)&&decide (p2.N<(x2.bn.length:Int))) else some false
theorem XT(p2:lS)(x1:Bool)(x2:bP):Dq p2 x1 x2=(HY p2 x1 x2).bind (λx=>some (x,x2)):=by
  simp only[Dq,HY,fJ,fV,gu,gq,gy,fT,bG,fZ]
def M7(p2:lS)(x3:Int)(x4:Bool)(x5:bP):Option Bool:=bif x4 then(FE x5 p2.nY).bind λx6=>some x6 else bif x3==4 then HY p2 (x3==4) x5 else bif x3==5 then HY p2 (x3==5) x5 else HY p2 (x3==6) x5
theorem axk(p2:lS)(x3:Int)(x4:Bool)(x5:bP):J7 p2 x3 x4 x5=(M7 p2 x3 x4 x5).bind (λx=>some (x,x5)):=by
  simp only[J7,M7,fJ,fV,gu,gq,gy,fT,bG,fZ,XT]
def J8(p1:bP)(p2:lS):Option Bool:=bif p2.aM==1 then M7 p2 p2.aM (p2.aM==1) (iE p1)else bif p2.aM==2 then M7 p2 p2.aM (p2.aM==2) (iE p1)else bif p2.aM==3 then M7 p2 p2.aM (p2.aM==3) (iE p1)else M7 p2 p2.aM (p2.aM==7) (iE p1)
theorem axW(p1:bP)(p2:lS):aeA p1 p2=(J8 p1 p2).bind λx=>some (x,iE p1):=by
  simp only[aeA,J8,fJ,fV,gu,gq,gy,fT,bG,fZ,XT,axk]
def R5(p1:fU)(p2 p3:Int):Option (Int×fU):=bif((decide (p2<0)||decide (1073741824<p2))||decide (p3<(-1)))||decide (5<=p3) then some (1,p1) else bif decide (p2<p1.gM)||(p2==p1.gM&&p1.iW !=(-1))&&p1.iW !=p3 then some (20,p1) else some (0,{p1 with gM:=p2,iW:=p3})
def Z0(p1:List Int)(p2:Int):Option (List Int):=bq (decide ((0:Int)<=0/\(0:Int)<=(aQ ((p1.length:Int)+p2))/\((aQ ((p1.length:Int)+p2)):Int)<=9223372036854775807/\((aQ ((p1.length:Int)+p2)):Int)*1<=140737488355328)) (bq (decide (((List.replicate (Int.toNat 0) (aG:Int)).length+p1.length)*1<=room)) (some ((List.replicate (Int.toNat 0) (aG:Int))++p1)))
def aaC(p1:Int):Option Int:=bif decide (p1<0) then some (wm .u64 18446744073709551615 (iV .u64 (IntKind.u64.wrap p1) 1)) else some (iV .u64 (IntKind.u64.wrap p1) 1)
def OX:Nat->(List Int)->Int->Option (List Int)|0,_,_=>none|bg+1,x1,x2=>bif decide (128<=x2) then bq (decide ((x1.length+ [um .u8 (IntKind.u8.wrap x2) 128].length)*1<=room)) ((OX bg) (x1++ [um .u8 (IntKind.u8.wrap x2) 128]) (iF .u64 x2 7)) else bq (decide ((x1.length+ [IntKind.u8.wrap x2].length)*1<=room)) (some (x1++ [IntKind.u8.wrap x2]))
def ain(p1:List Int)(p2:Int):Option (List Int):=(aaC p2).bind λx3=>OX fuel p1 x3
def qP(p1:List Int)(p2:Int):Option (List Int):=(Z0 p1 10).bind λx1=>(ain x1 p2).bind λx2=>some x2
def Og(p1:List Int)(x1:Int):Nat->(List Int)->Int->Option (List Int)|0,_,_=>none|bg+1,x2,x3=>bif decide (x3<x1) then bE p1 x3 λx4=>(qP x2 x4).bind λx5=>(Og p1 x1 bg) x5 (aQ (x3+1)) else some x2
def OI(p1:(List Int)):Option (List Int):=Og p1 (p1.length:Int) fuel ([]:List Int) 0
def OZ(p1 p2:Int):Option Int:=some (wm .u64 (IntKind.u64.wrap ((wm .u64 p1 (IntKind.u64.wrap p2))*1099511628211)) (iF .u64 (IntKind.u64.wrap ((wm .u64 p1 (IntKind.u64.wrap p2))*1099511628211)) 29))
def Oa(p2 x1:List Int)(x2:Int):Nat->Int->Int->Option Int|0,_,_=>none|bg+1,x3,x4=>bif decide (x4<x2) then bE x1 x4 λx5=>(OZ x3 (IntKind.i64.wrap x5)).bind λx6=>(Oa p2 x1 x2 bg) x6 (aQ (x4+1)) else(OZ x3 (p2.length:Int)).bind λx7=>some x7
def agG(p1:Int)(p2:List Int):Option Int:=Oa p2 p2 (p2.length:Int) fuel p1 0
def UU(p1:Int)(p2:List Int):Option Int:=(OZ 14695981039346656037 p1).bind λx1=>(agG x1 p2).bind λx2=>some x2
def IL(p3:(List Int)):Nat->(List Int)->Int->Int->Option (List Int)|0,_,_,_=>none|bg+1,x1,x2,x3=>bif decide (x3<8) then bq (decide ((x1.length+ [IntKind.u8.wrap x2].length)*1<=room)) ((IL p3 bg) (x1++ [IntKind.u8.wrap x2]) (iF .u64 x2 8) (aQ (x3+1))) else bq (decide ((x1.length+p3.length)*1<=room)) (some (x1++p3))
def aar(p1:List Int)(p2:Int)(p3:List Int):Option (List Int):=bif decide (65536<(p3.length:Int)) then bq (decide ((0+p1.length)*1<=room)) (some p1) else(qP p1 (p3.length:Int)).bind λx4=>(UU p2 p3).bind λx5=>IL p3 fuel x4 x5 0
def afW(p1:bS)(p2:List Int):Option bS:=bq (decide ((p1.data.length+p2.length)*1<=room)) (some {p1 with data:=(p1.data++p2)})
def Nr(p1:fU)(p2:List Int):Option fU:=(aar ([]:List Int) 8 p2).bind λx1=>(afW p1.bW x1).bind λx2=>some {p1 with bW:=x2}
def aew(p1:fU)(p2 p3:Int):Option (Int×fU):=(R5 p1 p2 p3).bind λx1=>bif x1.1 !=0 then some (x1.1,x1.2) else(OI [1,p2,p3]).bind λx2=>(Nr x1.2 x2).bind λx3=>some (0,x3)
def agr(p1:bS):Option bS:=some {p1 with qR:=(p1.data.length:Int)}
def NA(p1:fU):Option fU:=(agr p1.bW).bind λx1=>some {p1 with bW:=x1}
def Ng(p1:bA)(p2 p3:Int):Option bA:=(aew p1.aS p2 p3).bind λx1=>(NA x1.2).bind λx2=>some {p1 with aS:=x2}
def afd(p1:fU):Option (Int×fU):=some ((p1.bT.length:Int),p1)
def xI(p1:fU):Option Int:=some (p1.bT.length:Int)
theorem az1(p1:fU):afd p1=(xI p1).bind λx=>some (x,p1):=by
  simp only[afd,xI,fJ,fV,gu,gq,gy,fT,bG,fZ]
def afq(p1:bA):Option (Int×bA):=(xI p1.aS).bind λx1=>some (x1,p1)
def nu(p1:bA):Option Int:=(xI p1.aS).bind λx1=>some x1
theorem aAf(p1:bA):afq p1=(nu p1).bind λx=>some (x,p1):=by
  simp only[afq,nu,fJ,fV,gu,gq,gy,fT,bG,fZ]
def Ie(aee:Int->bA->Option bA)(x1:Int)(x2:bA):Option bA:=aee (aQ (x1+1)) x2
def Fp(x3:Int):Nat->Int->bA->Option bA|0,_,_=>none|bg+1,x1,x4=>bif decide (x1<x3) then bif x1==4 then(nu x4).bind λx5=>Ie (Fp x3 bg) x1 (⟨x4.aS,x4.id,x4.n,x4.fP,x4.fM,x4.nG,⟨x4.next.e0,x4.next.e1,x4.next.e2,x4.next.e3,x5⟩,⟨x4.gL.e0,x4.gL.e1,x4.gL.e2,x4.gL.e3,0⟩⟩:bA) else bif x1==3 then(nu x4).bind λx6=>Ie (Fp x3 bg) x1 (⟨x4.aS,x4.id,x4.n,x4.fP,x4.fM,x4.nG,⟨x4.next.e0,x4.next.e1,x4.next.e2,x6,x4.next.e4⟩,⟨x4.gL.e0,x4.gL.e1,x4.gL.e2,0,x4.gL.e4⟩⟩:bA) else bif x1==2 then(nu x4).bind λx7=>Ie (Fp x3 bg) x1 (⟨x4.aS,x4.id,x4.n,x4.fP,x4.fM,x4.nG,⟨x4.next.e0,x4.next.e1,x7,x4.next.e3,x4.next.e4⟩,⟨x4.gL.e0,x4.gL.e1,0,x4.gL.e3,x4.gL.e4⟩⟩:bA) else bif x1==1 then(nu x4).bind λx8=>Ie (Fp x3 bg) x1 (⟨x4.aS,x4.id,x4.n,x4.fP,x4.fM,x4.nG,⟨x4.next.e0,x8,x4.next.e2,x4.next.e3,x4.next.e4⟩,⟨x4.gL.e0,0,x4.gL.e2,x4.gL.e3,x4.gL.e4⟩⟩:bA) else bif x1==0 then(nu x4).bind λx9=>Ie (Fp x3 bg) x1 (⟨x4.aS,x4.id,x4.n,x4.fP,x4.fM,x4.nG,⟨x9,x4.next.e1,x4.next.e2,x4.next.e3,x4.next.e4⟩,⟨0,x4.gL.e1,x4.gL.e2,x4.gL.e3,x4.gL.e4⟩⟩:bA) else none else some x4
def NJ(p1:bA):Option bA:=Fp p1.n fuel 0 {p1 with fP:=3}
def aeD(p1:bA)(p2 p3:Int):Option (bJ×bA):=(jl p1).bind λx1=>some ((⟨p2,p1.id,p3,x1,0,0,0,false,([]:List cO)⟩:bJ),p1)
def yF(p1:bA)(p2 p3:Int):Option bJ:=(jl p1).bind λx1=>some (⟨p2,p1.id,p3,x1,0,0,0,false,([]:List cO)⟩:bJ)
theorem axZ(p1:bA)(p2 p3:Int):aeD p1 p2 p3=(yF p1 p2 p3).bind λx=>some (x,p1):=by
  simp only[aeD,yF,fJ,fV,gu,gq,gy,fT,bG,fZ]
def afx(p1:fU)(p2:Int):Option (cO×Bool×fU):=bif decide (p2<0)||decide ((p1.bT.length:Int)<=p2) then some ((⟨0,⟨0,0,0,0,0,0,0,0,0⟩⟩:cO),false,p1) else bE p1.bT p2 λx1=>some (x1,true,p1)
def FD(p1:fU)(p2:Int):Option (cO×Bool):=bif decide (p2<0)||decide ((p1.bT.length:Int)<=p2) then some ((⟨0,⟨0,0,0,0,0,0,0,0,0⟩⟩:cO),false) else bE p1.bT p2 λx1=>some (x1,true)
theorem aAP(p1:fU)(p2:Int):afx p1 p2=(FD p1 p2).bind λx=>some (x.1,x.2,p1):=by
  simp only[afx,FD,fJ,fV,gu,gq,gy,fT,bG,fZ]
def aeG(p1:fU)(p2:Int):Option (Int×fU):=(FD p1 p2).bind λx1=>some (x1.1.iB,p1)
def y8(p1:fU)(p2:Int):Option Int:=(FD p1 p2).bind λx1=>some x1.1.iB
theorem aye(p1:fU)(p2:Int):aeG p1 p2=(y8 p1 p2).bind λx=>some (x,p1):=by
  simp only[aeG,y8,fJ,fV,gu,gq,gy,fT,bG,fZ]
def aer(p1:bA):Option (Int×bA):=(nu p1).bind λx1=>(y8 p1.aS (aQ (x1-1))).bind λx2=>some (x2,p1)
def H9(p1:bA):Option Int:=(nu p1).bind λx1=>(y8 p1.aS (aQ (x1-1))).bind λx2=>some x2
theorem axF(p1:bA):aer p1=(H9 p1).bind λx=>some (x,p1):=by
  simp only[aer,H9,fJ,fV,gu,gq,gy,fT,bG,fZ]
def aef(p1:Int)(p2:bA):Option (bJ×bA):=(yF p2 1 p1).bind λx1=>(nu p2).bind λx2=>(H9 p2).bind λx3=>some ({x1 with gQ:=x2,l5:=x3},p2)
def J6(p1:Int)(p2:bA):Option bJ:=(yF p2 1 p1).bind λx1=>(nu p2).bind λx2=>(H9 p2).bind λx3=>some {x1 with gQ:=x2,l5:=x3}
theorem axm(p1:Int)(p2:bA):aef p1 p2=(J6 p1 p2).bind λx=>some (x,p2):=by
  simp only[aef,J6,fJ,fV,gu,gq,gy,fT,bG,fZ]
def Rz(ad3:(List bJ)->Int->Option (List bJ×bA))(x1:Int)(x2:List bJ):Option (List bJ×bA):=ad3 x2 (aQ (x1+1))
def M9(x3:Int)(x4:bA):Nat->(List bJ)->Int->Option (List bJ×bA)|0,_,_=>none|bg+1,x5,x1=>bif decide (x1<x3) then bif x1 !=x4.id then(J6 x1 x4).bind λx6=>bq (decide ((x5.length+ [x6].length)*88<=room)) (Rz (M9 x3 x4 bg) x1 (x5++ [x6])) else Rz (M9 x3 x4 bg) x1 x5 else some (x5,x4)
def aes(p1:bA):Option (List bJ×bA):=M9 p1.n p1 fuel ([]:List bJ) 0
def Rx(XO:(List bJ)->Int->Option (List bJ))(x1:Int)(x2:List bJ):Option (List bJ):=XO x2 (aQ (x1+1))
theorem amq(G:(List bJ)->Option (List bJ×bA))(XO:(List bJ)->Int->Option (List bJ))(x1:Int)(x2:List bJ):Rz (λy1 y2=>(XO y1 y2).bind G) x1 x2=(Rx XO x1 x2).bind G:=by
  simp only[Rz,Rx,fJ,fV,gu,gq,gy,fT,bG,fZ]
def M6(x3:Int)(x4:bA):Nat->(List bJ)->Int->Option (List bJ)|0,_,_=>none|bg+1,x5,x1=>bif decide (x1<x3) then bif x1 !=x4.id then(J6 x1 x4).bind λx6=>bq (decide ((x5.length+ [x6].length)*88<=room)) (Rx (M6 x3 x4 bg) x1 (x5++ [x6])) else Rx (M6 x3 x4 bg) x1 x5 else some x5
theorem amr(x3:Int)(x4:bA):∀n:Nat,M9 x3 x4 n=λx5 x1=>(M6 x3 x4 n x5 x1).bind (λx=>some (x,x4))
  |0=>rfl
  |n+1=>by
    funext x5 x1
    simp only[M9,M6,amr x3 x4 n,fJ,fV,gu,gq,gy,fT,bG,fZ,amq]
def Na(p1:bA):Option (List bJ):=M6 p1.n p1 fuel ([]:List bJ) 0
theorem axH(p1:bA):aes p1=(Na p1).bind λx=>some (x,p1):=by
  simp only[aes,Na,fJ,fV,gu,gq,gy,fT,bG,fZ,amq,amr]
def y9(p1:bA):Option (List bJ×bA):=(jl p1).bind λx1=>bif decide (1073741824<=x1) then some (([]:List bJ),p1) else(jl p1).bind λx2=>(Ng p1 (aQ (x2+1)) p1.id).bind λx3=>bq (decide ((0:Int)<=IntKind.u64.wrap x3.id)) (bif x3.n==1 then(NJ {x3 with fP:=2,nG:=iV .i64 1 (IntKind.u64.wrap x3.id)}).bind λx4=>some (([]:List bJ),x4) else(Na {x3 with fP:=2,nG:=iV .i64 1 (IntKind.u64.wrap x3.id)}).bind λx5=>some (x5,{x3 with fP:=2,nG:=iV .i64 1 (IntKind.u64.wrap x3.id)}))
def Hw(p1:List bJ)(p2 p3:Int):Option (List bJ):=bq (decide (0<=p2/\p2<=p3/\p3<=(p1.length:Int)/\(p1.length:Int)<=(p1.length:Int))) (bif p2==p3 then some p1 else bq (decide (0<=p2/\p2<=(p1.length:Int))) (bq (decide (0<=p3/\p3<=(p1.length:Int)/\(p1.length:Int)<=(p1.length:Int))) (bq (decide ((0+Int.toNat p3)+(Int.toNat (p1.length:Int)-Int.toNat p3)<=p1.length)) (bq (decide ((Int.toNat p2)+(Int.toNat (p1.length:Int)-Int.toNat p3)<=p1.length)) (bq (decide (0<=((((Int.toNat p2)+(Int.toNat (p1.length:Int)-Int.toNat p3)):Nat):Int)/\((((Int.toNat p2)+(Int.toNat (p1.length:Int)-Int.toNat p3)):Nat):Int)<=(p1.length:Int)/\(p1.length:Int)<=(((jQ (Int.toNat p2) ((p1.drop (0+Int.toNat p3)).take (Int.toNat (p1.length:Int)-Int.toNat p3)).length p1 ((p1.drop (0+Int.toNat p3)).take (Int.toNat (p1.length:Int)-Int.toNat p3))).length:Nat):Int))) (bq (decide ((0+Int.toNat ((((Int.toNat p2)+(Int.toNat (p1.length:Int)-Int.toNat p3)):Nat):Int))+(Int.toNat (p1.length:Int)-Int.toNat ((((Int.toNat p2)+(Int.toNat (p1.length:Int)-Int.toNat p3)):Nat):Int))<=(jQ (Int.toNat p2) ((p1.drop (0+Int.toNat p3)).take (Int.toNat (p1.length:Int)-Int.toNat p3)).length p1 ((p1.drop (0+Int.toNat p3)).take (Int.toNat (p1.length:Int)-Int.toNat p3))).length)) (bq (decide (((Int.toNat p2)+(Int.toNat (p1.length:Int)-Int.toNat p3))<=(jQ (0+Int.toNat ((((Int.toNat p2)+(Int.toNat (p1.length:Int)-Int.toNat p3)):Nat):Int)) (Int.toNat (p1.length:Int)-Int.toNat ((((Int.toNat p2)+(Int.toNat (p1.length:Int)-Int.toNat p3)):Nat):Int)) (jQ (Int.toNat p2) ((p1.drop (0+Int.toNat p3)).take (Int.toNat (p1.length:Int)-Int.toNat p3)).length p1 ((p1.drop (0+Int.toNat p3)).take (Int.toNat (p1.length:Int)-Int.toNat p3))) (List.replicate (Int.toNat (p1.length:Int)-Int.toNat ((((Int.toNat p2)+(Int.toNat (p1.length:Int)-Int.toNat p3)):Nat):Int)) (aG:bJ))).length)) (some ((jQ (0+Int.toNat ((((Int.toNat p2)+(Int.toNat (p1.length:Int)-Int.toNat p3)):Nat):Int)) (Int.toNat (p1.length:Int)-Int.toNat ((((Int.toNat p2)+(Int.toNat (p1.length:Int)-Int.toNat p3)):Nat):Int)) (jQ (Int.toNat p2) ((p1.drop (0+Int.toNat p3)).take (Int.toNat (p1.length:Int)-Int.toNat p3)).length p1 ((p1.drop (0+Int.toNat p3)).take (Int.toNat (p1.length:Int)-Int.toNat p3))) (List.replicate (Int.toNat (p1.length:Int)-Int.toNat ((((Int.toNat p2)+(Int.toNat (p1.length:Int)-Int.toNat p3)):Nat):Int)) (aG:bJ))).take ((Int.toNat p2)+(Int.toNat (p1.length:Int)-Int.toNat p3)))))))))))
def aeS(Ke:Int->bP->Option bP)(x1:Int)(x2:bJ)(x3:bP):Option bP:=bq (decide ((x3.bn.length+ [x2].length)*88<=room)) (Ke (aQ (x1+1)) (⟨[x3.aU.getD 0 aG],(x3.bn++ [x2]),x3.kW⟩:bP))
def Sq(p2:List bJ)(x4:Int):Nat->Int->bP->Option bP|0,_,_=>none|bg+1,x1,x5=>bif decide (x1<x4) then bE p2 x1 λx2=>bif decide (256<=(x5.bn.length:Int)) then(Hw x5.bn 0 1).bind λx6=>aeS (Sq p2 x4 bg) x1 x2 (⟨[x5.aU.getD 0 aG],x6,x5.kW⟩:bP) else aeS (Sq p2 x4 bg) x1 x2 x5 else some x5
def BN(p1:bP)(p2:List bJ):Option bP:=Sq p2 (p2.length:Int) fuel 0 (iE p1)
def SG(p1:fU)(p2:Int)(p3:aP):Option (Int×fU):=(bif !(decide (p2<1)||decide (1073741824<p2)) then sG p3 else some aG).bind λx1=>bif(decide (p2<1)||decide (1073741824<p2))||!x1 then some (1,p1) else(bif !(decide (p1.gM<p2)) then y8 p1 (aQ ((p1.bT.length:Int)-1))else some aG).bind λx2=>bif decide (p1.gM<p2)||decide (p2<x2) then some (20,p1) else bif decide (4096<=(p1.bT.length:Int)) then some (2,p1) else bq (decide ((p1.bT.length+ [(⟨p2,p3⟩:cO)].length)*80<=room)) (some (0,{p1 with bT:=(p1.bT++ [(⟨p2,p3⟩:cO)])}))
def ZJ(p1:aP):Option (List Int):=bif decide (0<9) then(qP ([]:List Int) p1.aM).bind λx1=>bif decide (1<9) then(qP x1 p1.bf).bind λx2=>bif decide (2<9) then(qP x2 p1.aI).bind λx3=>bif decide (3<9) then(qP x3 p1.aK).bind λx4=>bif decide (4<9) then(qP x4 p1.dx).bind λx5=>bif decide (5<9) then(qP x5 p1.bN).bind λx6=>bif decide (6<9) then(qP x6 p1.From).bind λx7=>bif decide (7<9) then(qP x7 p1.bV).bind λx8=>bif decide (8<9) then(qP x8 p1.N).bind λx9=>bif decide (9<9) then none else some x9 else none else none else none else none else none else none else none else none else none
def Sg(p1:fU)(p2:Int)(p3:aP):Option (Int×fU):=(SG p1 p2 p3).bind λx1=>bif x1.1 !=0 then some (x1.1,x1.2) else(OI [2,p2]).bind λx2=>(ZJ p3).bind λx3=>bq (decide ((x2.length+x3.length)*1<=room)) ((Nr x1.2 (x2++x3)).bind λx4=>some (0,x4))
def RD(BD:Int->Option bA)(x1:Int):Option bA:=BD (aQ (x1-1))
def RG(J4:Int->Int->Option bA)(x2 x3:Int):Option bA:=J4 x3 (aQ (x2+1))
def H7(J4:Int->Int->Option bA)(x4 x2:Int)(x5:Bool):Option bA:=bif x5 then RG J4 x2 (aQ (x4+1))else RG J4 x2 x4
def BG(BD:Int->Option bA)(x1 x6:Int)(x7:bA):Nat->Int->Int->Option bA|0,_,_=>none|bg+1,x4,x2=>bif decide (x2<x6) then bif x2==4 then bq (!(4 !=x7.id)||decide ((0:Int)<=4/\(4:Int)<((5:Nat):Int))) (H7 (BG BD x1 x6 x7 bg) x4 x2 (4 !=x7.id&&decide (x1<=x7.gL.e4))) else bif x2==3 then bq (!(3 !=x7.id)||decide ((0:Int)<=3/\(3:Int)<((5:Nat):Int))) (H7 (BG BD x1 x6 x7 bg) x4 x2 (3 !=x7.id&&decide (x1<=x7.gL.e3))) else bif x2==2 then bq (!(2 !=x7.id)||decide ((0:Int)<=2/\(2:Int)<((5:Nat):Int))) (H7 (BG BD x1 x6 x7 bg) x4 x2 (2 !=x7.id&&decide (x1<=x7.gL.e2))) else bif x2==1 then bq (!(1 !=x7.id)||decide ((0:Int)<=1/\(1:Int)<((5:Nat):Int))) (H7 (BG BD x1 x6 x7 bg) x4 x2 (1 !=x7.id&&decide (x1<=x7.gL.e1))) else bif x2==0 then bq (!(0 !=x7.id)||decide ((0:Int)<=0/\(0:Int)<((5:Nat):Int))) (H7 (BG BD x1 x6 x7 bg) x4 x2 (0 !=x7.id&&decide (x1<=x7.gL.e0))) else none else bif decide (x7.n<aQ (2*x4)) then some (⟨x7.aS,x7.id,x7.n,x7.fP,x1,x7.nG,x7.next,x7.gL⟩:bA) else RD BD x1
def H8(x8:bA):Nat->Int->Option bA|0,_=>none|wz+1,x1=>bif decide (x8.fM<x1) then(y8 x8.aS (aQ (x1-1))).bind λx9=>(jl x8).bind λx10=>bif x9 !=x10 then RD (H8 x8 wz) x1 else BG (H8 x8 wz) x1 x8.n x8 fuel 1 0 else some x8
def zL(p1:bA):Option bA:=(nu p1).bind λbQ=>H8 p1 fuel bQ
def afB(p1:bA)(p2:Int):Option (cO×Bool×bA):=(FD p1.aS p2).bind λx1=>some (x1.1,x1.2,p1)
def NH(p1:bA)(p2:Int):Option (cO×Bool):=(FD p1.aS p2).bind λx1=>some (x1.1,x1.2)
theorem aAY(p1:bA)(p2:Int):afB p1 p2=(NH p1 p2).bind λx=>some (x.1,x.2,p1):=by
  simp only[afB,NH,fJ,fV,gu,gq,gy,fT,bG,fZ]
def Sb(x1:bA):Nat->Int->(List cO)->Option (List cO×bA)|0,_,_=>none|bg+1,x2,x3=>(nu x1).bind λx4=>bif decide (x2<x4) then(NH x1 x2).bind λx5=>bq (decide ((x3.length+ [x5.1].length)*80<=room)) ((Sb x1 bg) (aQ (x2+1)) (x3++ [x5.1])) else some (x3,x1)
def ae6(p1:bA)(p2:Int):Option (List cO×bA):=Sb p1 fuel p2 ([]:List cO)
def Nc(x1:bA):Nat->Int->(List cO)->Option (List cO)|0,_,_=>none|bg+1,x2,x3=>(nu x1).bind λx4=>bif decide (x2<x4) then(NH x1 x2).bind λx5=>bq (decide ((x3.length+ [x5.1].length)*80<=room)) ((Nc x1 bg) (aQ (x2+1)) (x3++ [x5.1])) else some x3
theorem amA(x1:bA):∀n:Nat,Sb x1 n=λx2 x3=>(Nc x1 n x2 x3).bind (λx=>some (x,x1))
  |0=>rfl
  |n+1=>by
    funext x2 x3
    simp only[Sb,Nc,amA x1 n,fJ,fV,gu,gq,gy,fT,bG,fZ]
def Fv(p1:bA)(p2:Int):Option (List cO):=Nc p1 fuel p2 ([]:List cO)
theorem azx(p1:bA)(p2:Int):ae6 p1 p2=(Fv p1 p2).bind λx=>some (x,p1):=by
  simp only[ae6,Fv,fJ,fV,gu,gq,gy,fT,bG,fZ,amA]
def HZ(x1:bJ)(x2:bA):Option (bJ×bA):=(y8 x2.aS (aQ (x1.gQ-1))).bind λx3=>(Fv x2 x1.gQ).bind λx4=>some ({x1 with l5:=x3,qW:=x2.fM,mZ:=x4},x2)
def aen(p1:bA)(p2:Int):Option (bJ×bA):=(yF p1 3 p2).bind λx5=>bif p2==4 then HZ {x5 with gQ:=p1.next.e4} p1 else bif p2==3 then HZ {x5 with gQ:=p1.next.e3} p1 else bif p2==2 then HZ {x5 with gQ:=p1.next.e2} p1 else bif p2==1 then HZ {x5 with gQ:=p1.next.e1} p1 else bif p2==0 then HZ {x5 with gQ:=p1.next.e0} p1 else none
def HV(x1:bJ)(x2:bA):Option bJ:=(y8 x2.aS (aQ (x1.gQ-1))).bind λx3=>(Fv x2 x1.gQ).bind λx4=>some {x1 with l5:=x3,qW:=x2.fM,mZ:=x4}
theorem axa(x1:bJ)(x2:bA):HZ x1 x2=(HV x1 x2).bind (λx=>some (x,x2)):=by
  simp only[HZ,HV,fJ,fV,gu,gq,gy,fT,bG,fZ]
def H6(p1:bA)(p2:Int):Option bJ:=(yF p1 3 p2).bind λx5=>bif p2==4 then HV {x5 with gQ:=p1.next.e4} p1 else bif p2==3 then HV {x5 with gQ:=p1.next.e3} p1 else bif p2==2 then HV {x5 with gQ:=p1.next.e2} p1 else bif p2==1 then HV {x5 with gQ:=p1.next.e1} p1 else bif p2==0 then HV {x5 with gQ:=p1.next.e0} p1 else none
theorem axw(p1:bA)(p2:Int):aen p1 p2=(H6 p1 p2).bind λx=>some (x,p1):=by
  simp only[aen,H6,fJ,fV,gu,gq,gy,fT,bG,fZ,axa]
def Rw(adZ:(List bJ)->Int->Option (List bJ×bA))(x1:Int)(x2:List bJ):Option (List bJ×bA):=adZ x2 (aQ (x1+1))
def M5(x3:Int)(x4:bA):Nat->(List bJ)->Int->Option (List bJ×bA)|0,_,_=>none|bg+1,x5,x1=>bif decide (x1<x3) then bif x1 !=x4.id then(H6 x4 x1).bind λx6=>bq (decide ((x5.length+ [x6].length)*88<=room)) (Rw (M5 x3 x4 bg) x1 (x5++ [x6])) else Rw (M5 x3 x4 bg) x1 x5 else some (x5,x4)
def aeb(p1:bA):Option (List bJ×bA):=M5 p1.n p1 fuel ([]:List bJ) 0
def MW(XM:(List bJ)->Int->Option (List bJ))(x1:Int)(x2:List bJ):Option (List bJ):=XM x2 (aQ (x1+1))
theorem aml(G:(List bJ)->Option (List bJ×bA))(XM:(List bJ)->Int->Option (List bJ))(x1:Int)(x2:List bJ):Rw (λy1 y2=>(XM y1 y2).bind G) x1 x2=(MW XM x1 x2).bind G:=by
  simp only[Rw,MW,fJ,fV,gu,gq,gy,fT,bG,fZ]
def Hy(x3:Int)(x4:bA):Nat->(List bJ)->Int->Option (List bJ)|0,_,_=>none|bg+1,x5,x1=>bif decide (x1<x3) then bif x1 !=x4.id then(H6 x4 x1).bind λx6=>bq (decide ((x5.length+ [x6].length)*88<=room)) (MW (Hy x3 x4 bg) x1 (x5++ [x6])) else MW (Hy x3 x4 bg) x1 x5 else some x5
theorem amm(x3:Int)(x4:bA):∀n:Nat,M5 x3 x4 n=λx5 x1=>(Hy x3 x4 n x5 x1).bind (λx=>some (x,x4))
  |0=>rfl
  |n+1=>by
    funext x5 x1
    simp only[M5,Hy,amm x3 x4 n,fJ,fV,gu,gq,gy,fT,bG,fZ,aml]
def BF(p1:bA):Option (List bJ):=Hy p1.n p1 fuel ([]:List bJ) 0
theorem axg(p1:bA):aeb p1=(BF p1).bind λx=>some (x,p1):=by
  simp only[aeb,BF,fJ,fV,gu,gq,gy,fT,bG,fZ,aml,amm]
def za(p1:bA)(p2:aP):Option (List bJ×Int×bA):=bif p1.fP !=3 then some (([]:List bJ),4,p1) else(jl p1).bind λx1=>(Sg p1.aS x1 p2).bind λx2=>bif x2.1 !=0 then some (([]:List bJ),x2.1,{p1 with aS:=x2.2}) else(NA x2.2).bind λx3=>(zL {p1 with aS:=x3}).bind λx4=>(BF x4).bind λx5=>some (x5,0,x4)
def ae2(p1:bA):Option (List bJ×bA):=bif p1.fP !=3 then some (([]:List bJ),p1) else(BF p1).bind λx1=>some (x1,p1)
def Kl(p1:bA):Option (List bJ):=bif p1.fP !=3 then some ([]:List bJ) else(BF p1).bind λx1=>some x1
theorem azs(p1:bA):ae2 p1=(Kl p1).bind λx=>some (x,p1):=by
  simp only[ae2,Kl,fJ,fV,gu,gq,gy,fT,bG,fZ]
def Yq(p1:bP)(p2:Int):Option bP:=(Hw p1.bn p2 (aQ (p2+1))).bind λx1=>some (⟨[p1.aU.getD 0 aG],x1,p1.kW⟩:bP)
def Nk(p1:bJ)(x1:List cO)(x2:Int):Nat->Int->Int->Option Bool|0,_,_=>none|bg+1,x3,x4=>bif decide (x4<x2) then bE x1 x4 λx5=>(sG x5.kP).bind λx6=>bif(!x6||decide (x5.iB<x3))||decide (p1.iB<x5.iB) then some false else(Nk p1 x1 x2 bg) x5.iB (aQ (x4+1)) else some true
def NK(p1:bJ):Option Bool:=bif !((p1.l5==0)==(p1.gQ==0))||decide (4096<aQ (p1.gQ+(p1.mZ.length:Int))) then some false else Nk p1 p1.mZ (p1.mZ.length:Int) fuel (jE 1 p1.l5) 0
def Nf(p2:bJ)(x1:Int)(x2:Bool)(x3:bA):Option (Bool×bA):=bif x2 then some (true,x3) else bif x1==3 then(NK p2).bind λx4=>some (x4,x3) else some (false,x3)
def aeL(p1:bA)(p2:bJ):Option (Bool×bA):=bif((((((((((p2.To !=p1.id||p2.From==p1.id)||decide (p2.From<0))||decide (p1.n<=p2.From))||decide (p2.iB<1))||decide (1073741824<p2.iB))||decide (p2.gQ<0))||decide (4096<p2.gQ))||decide (p2.l5<0))||decide (p2.iB<p2.l5))||decide (p2.qW<0))||decide (4096<p2.qW) then some (false,p1) else bif p2.aM==1 then Nf p2 p2.aM (p2.aM==1) p1 else bif p2.aM==2 then Nf p2 p2.aM (p2.aM==2) p1 else Nf p2 p2.aM (p2.aM==4) p1
def Dp(p2:bJ)(x1:Int)(x2:Bool):Option Bool:=bif x2 then some true else bif x1==3 then(NK p2).bind λx4=>some x4 else some false
theorem axx(p2:bJ)(x1:Int)(x2:Bool)(x3:bA):Nf p2 x1 x2 x3=(Dp p2 x1 x2).bind (λx=>some (x,x3)):=by
  simp only[Nf,Dp,fJ,fV,gu,gq,gy,fT,bG,fZ]
def Ib(p1:bA)(p2:bJ):Option Bool:=bif((((((((((p2.To !=p1.id||p2.From==p1.id)||decide (p2.From<0))||decide (p1.n<=p2.From))||decide (p2.iB<1))||decide (1073741824<p2.iB))||decide (p2.gQ<0))||decide (4096<p2.gQ))||decide (p2.l5<0))||decide (p2.iB<p2.l5))||decide (p2.qW<0))||decide (4096<p2.qW) then some false else bif p2.aM==1 then Dp p2 p2.aM (p2.aM==1)else bif p2.aM==2 then Dp p2 p2.aM (p2.aM==2)else Dp p2 p2.aM (p2.aM==4)
theorem ayq(p1:bA)(p2:bJ):aeL p1 p2=(Ib p1 p2).bind λx=>some (x,p1):=by
  simp only[aeL,Ib,fJ,fV,gu,gq,gy,fT,bG,fZ,axx]
def aeV(p1:fU):Option (Int×fU):=some (p1.iW,p1)
def Nn(p1:fU):Option Int:=some p1.iW
theorem azk(p1:fU):aeV p1=(Nn p1).bind λx=>some (x,p1):=by
  simp only[aeV,Nn,fJ,fV,gu,gq,gy,fT,bG,fZ]
def ae5(p1:bA):Option (Int×bA):=(Nn p1.aS).bind λx1=>some (x1,p1)
def Nq(p1:bA):Option Int:=(Nn p1.aS).bind λx1=>some x1
theorem azw(p1:bA):ae5 p1=(Nq p1).bind λx=>some (x,p1):=by
  simp only[ae5,Nq,fJ,fV,gu,gq,gy,fT,bG,fZ]
def XU(x1:bJ)(x2:bA):Option (List bJ×bA):=some ([x1],x2)
def aeg(p1:bA)(p2:bJ):Option (List bJ×bA):=(H9 p1).bind λx3=>(Nq p1).bind λx4=>(bif !(x4==(-1)) then Nq p1 else some aG).bind λx5=>(bif(!(decide (x3<p2.l5))&&p2.l5==x3)then nu p1 else some aG).bind λx6=>(yF p1 2 p2.From).bind λx7=>(jl p1).bind λx8=>bif(p2.iB==x8&&(x4==(-1)||x5==p2.From))&&(decide (x3<p2.l5)||p2.l5==x3&&decide (x6<=p2.gQ)) then(Ng p1 p2.iB p2.From).bind λx9=>XU {x7 with OK:=true} x9 else XU x7 p1
def XQ(x1:Int)(x2:bA):Nat->Int->Int->Option (List bJ×bA)|0,_,_=>none|bg+1,x3,x4=>bif decide (x4<x1) then bq (decide ((0:Int)<=IntKind.u64.wrap x4)) ((XQ x1 x2 bg) (aQ (x3+(jd .i64 (iF .i64 x2.nG (IntKind.u64.wrap x4)) 1))) (aQ (x4+1))) else bif decide (aQ (2*x3)<=x2.n) then some (([]:List bJ),x2) else(NJ x2).bind λx5=>(BF x5).bind λx6=>some (x6,x5)
def XY(p1:bA)(p2:bJ):Option (List bJ×bA):=(bif !(p1.fP !=2) then jl p1 else some aG).bind λx7=>bif(p1.fP !=2||p2.iB !=x7)||!p2.OK then some (([]:List bJ),p1) else bq (decide ((0:Int)<=IntKind.u64.wrap p2.From)) (XQ p1.n {p1 with nG:=um .i64 p1.nG (iV .i64 1 (IntKind.u64.wrap p2.From))} fuel 0 0)
def aeM(p1:bA)(p2 p3:Int)(p4:Bool):Option (List bJ×bA):=(yF p1 4 p2).bind λx1=>some ([{x1 with gQ:=p3,OK:=p4}],p1)
def Fj(p1:bA)(p2 p3:Int)(p4:Bool):Option (List bJ):=(yF p1 4 p2).bind λx1=>some [{x1 with gQ:=p3,OK:=p4}]
theorem ays(p1:bA)(p2 p3:Int)(p4:Bool):aeM p1 p2 p3 p4=(Fj p1 p2 p3 p4).bind λx=>some (x,p1):=by
  simp only[aeM,Fj,fJ,fV,gu,gq,gy,fT,bG,fZ]
def Yz(p1:fU)(p2:Int):Option (Int×fU):=bif decide (p2<0)||decide ((p1.bT.length:Int)<p2) then some (1,p1) else bq (decide (0<=p2/\p2<=(p1.bT.length:Int))) (bq (decide (Int.toNat p2<=p1.bT.length)) (some (0,{p1 with bT:=p1.bT.take (Int.toNat p2)})))
def ane(p1:fU)(p2:Int):Option (Int×fU):=(Yz p1 p2).bind λx1=>bif x1.1 !=0 then some (x1.1,x1.2) else(OI [3,p2]).bind λx2=>(Nr x1.2 x2).bind λx3=>some (0,x3)
def RH(p3:List cO)(x1:Int):Nat->Int->bA->Option bA|0,_,_=>none|bg+1,x2,x3=>bif decide (x2<x1) then bE p3 x2 λx4=>(Sg x3.aS x4.iB x4.kP).bind λx5=>(RH p3 x1 bg) (aQ (x2+1)) (⟨x5.2,x3.id,x3.n,x3.fP,x3.fM,x3.nG,x3.next,x3.gL⟩:bA) else(NA x3.aS).bind λx6=>some (⟨x6,x3.id,x3.n,x3.fP,x3.fM,x3.nG,x3.next,x3.gL⟩:bA)
def X0(p3:List cO)(x7:bA):Option bA:=RH p3 (p3.length:Int) fuel 0 x7
def aeE(p1:bA)(p2:Int)(p3:List cO):Option bA:=(nu p1).bind λx8=>bif decide (p2<x8) then(ane p1.aS p2).bind λx9=>X0 p3 {p1 with aS:=x9.2} else X0 p3 p1
def Ru(p2:bJ)(x1:bA):Option (List bJ×bA):=(Fj (⟨x1.aS,x1.id,x1.n,x1.fP,jE x1.fM (je p2.qW (aQ (p2.gQ+(p2.mZ.length:Int)))),x1.nG,x1.next,x1.gL⟩:bA) p2.From (aQ (p2.gQ+(p2.mZ.length:Int))) true).bind λx2=>some (x2,(⟨x1.aS,x1.id,x1.n,x1.fP,jE x1.fM (je p2.qW (aQ (p2.gQ+(p2.mZ.length:Int)))),x1.nG,x1.next,x1.gL⟩:bA))
def MZ(p2:bJ)(x3:bA):Nat->Int->Option (List bJ×bA)|0,_=>none|bg+1,x4=>(bif decide (x4<(p2.mZ.length:Int)) then y8 x3.aS (aQ (p2.gQ+x4))else some aG).bind λx5=>qH (decide (x4<(p2.mZ.length:Int))) p2.mZ x4 λx6=>bif decide (x4<(p2.mZ.length:Int))&&x5==x6.iB then(MZ p2 x3 bg) (aQ (x4+1))else bif decide (x4<(p2.mZ.length:Int)) then bif decide (aQ (p2.gQ+x4)<x3.fM) then some (([]:List bJ),x3) else bq (decide (0<=x4/\x4<=(p2.mZ.length:Int)/\(p2.mZ.length:Int)<=(p2.mZ.length:Int))) ((aeE x3 (aQ (p2.gQ+x4)) (p2.mZ.drop (Int.toNat x4))).bind λx7=>Ru p2 x7) else Ru p2 x3
def ad7(p1:bA)(p2:bJ):Option (List bJ×bA):=(jl p1).bind λx8=>bif decide (p2.iB<x8) then(Fj p1 p2.From 0 false).bind λx9=>some (x9,p1) else bif p1.fP==3 then some (([]:List bJ),p1) else(nu {p1 with fP:=1}).bind λx10=>(bif !(decide (x10<p2.gQ))&&decide (0<p2.gQ) then y8 p1.aS (aQ (p2.gQ-1))else some aG).bind λbQ=>bif decide (x10<p2.gQ)||decide (0<p2.gQ)&&bQ !=p2.l5 then(nu {p1 with fP:=1}).bind λbR=>(Fj {p1 with fP:=1} p2.From (je bR (aQ (p2.gQ-1))) false).bind λdz=>some (dz,{p1 with fP:=1}) else MZ p2 {p1 with fP:=1} fuel 0
def M4(x1:bJ)(x2:bA):Option (List bJ×bA):=(H6 x2 x1.From).bind λx3=>some ([x3],x2)
def XP(x4:bA):Option (List bJ×bA):=some (([]:List bJ),x4)
def J2(x5:bA):Option (List bJ×bA):=(zL x5).bind λx6=>XP x6
def J3(x7:bJ)(x8:bA):Option (List bJ×bA):=bif x7.From==4 then J2 (⟨x8.aS,x8.id,x8.n,x8.fP,x8.fM,x8.nG,⟨x8.next.e0,x8.next.e1,x8.next.e2,x8.next.e3,x8.gL.e4⟩,x8.gL⟩:bA)else bif x7.From==3 then J2 (⟨x8.aS,x8.id,x8.n,x8.fP,x8.fM,x8.nG,⟨x8.next.e0,x8.next.e1,x8.next.e2,x8.gL.e3,x8.next.e4⟩,x8.gL⟩:bA)else bif x7.From==2 then J2 (⟨x8.aS,x8.id,x8.n,x8.fP,x8.fM,x8.nG,⟨x8.next.e0,x8.next.e1,x8.gL.e2,x8.next.e3,x8.next.e4⟩,x8.gL⟩:bA)else bif x7.From==1 then J2 (⟨x8.aS,x8.id,x8.n,x8.fP,x8.fM,x8.nG,⟨x8.next.e0,x8.gL.e1,x8.next.e2,x8.next.e3,x8.next.e4⟩,x8.gL⟩:bA)else bif x7.From==0 then J2 (⟨x8.aS,x8.id,x8.n,x8.fP,x8.fM,x8.nG,⟨x8.gL.e0,x8.next.e1,x8.next.e2,x8.next.e3,x8.next.e4⟩,x8.gL⟩:bA)else none
def ad8(p1:bA)(p2:bJ):Option (List bJ×bA):=(bif !(p1.fP !=3) then jl p1 else some aG).bind λx9=>bif p1.fP !=3||p2.iB !=x9 then some (([]:List bJ),p1) else bif !p2.OK then bif p2.From==4 then M4 {p2 with From:=4} {p1 with next:={p1.next with e4:=jE 0 (je (aQ (p1.next.e4-1)) p2.gQ)}}else bif p2.From==3 then M4 {p2 with From:=3} {p1 with next:={p1.next with e3:=jE 0 (je (aQ (p1.next.e3-1)) p2.gQ)}}else bif p2.From==2 then M4 {p2 with From:=2} {p1 with next:={p1.next with e2:=jE 0 (je (aQ (p1.next.e2-1)) p2.gQ)}}else bif p2.From==1 then M4 {p2 with From:=1} {p1 with next:={p1.next with e1:=jE 0 (je (aQ (p1.next.e1-1)) p2.gQ)}}else bif p2.From==0 then M4 {p2 with From:=0} {p1 with next:={p1.next with e0:=jE 0 (je (aQ (p1.next.e0-1)) p2.gQ)}}else none else(nu p1).bind λx10=>bif decide (p2.gQ<=x10) then bif p2.From==4 then J3 {p2 with From:=4} {p1 with gL:={p1.gL with e4:=jE p1.gL.e4 p2.gQ}}else bif p2.From==3 then J3 {p2 with From:=3} {p1 with gL:={p1.gL with e3:=jE p1.gL.e3 p2.gQ}}else bif p2.From==2 then J3 {p2 with From:=2} {p1 with gL:={p1.gL with e2:=jE p1.gL.e2 p2.gQ}}else bif p2.From==1 then J3 {p2 with From:=1} {p1 with gL:={p1.gL with e1:=jE p1.gL.e1 p2.gQ}}else bif p2.From==0 then J3 {p2 with From:=0} {p1 with gL:={p1.gL with e0:=jE p1.gL.e0 p2.gQ}}else none else XP p1
def Ia(p2:bJ)(x1:bA):Option (List bJ×bA):=bif p2.aM==1 then(aeg x1 p2).bind λx2=>some (x2.1,x2.2) else bif p2.aM==2 then(XY x1 p2).bind λx3=>some (x3.1,x3.2) else bif p2.aM==3 then(ad7 x1 p2).bind λx4=>some (x4.1,x4.2) else bif p2.aM==4 then(ad8 x1 p2).bind λx5=>some (x5.1,x5.2) else some (([]:List bJ),x1)
def nP(p1:bA)(p2:bJ):Option (List bJ×bA):=(Ib p1 p2).bind λx6=>bif !x6 then some (([]:List bJ),p1) else(jl p1).bind λx7=>bif decide (x7<p2.iB) then(Ng p1 p2.iB (-1)).bind λx8=>Ia p2 {x8 with fP:=1} else Ia p2 p1
def agh(p1:bS)(p2:Int):Option bS:=bq (decide (0<=(aQ (p1.qR+(jE 0 (je p2 (aQ ((p1.data.length:Int)-p1.qR))))))/\(aQ (p1.qR+(jE 0 (je p2 (aQ ((p1.data.length:Int)-p1.qR))))))<=(p1.data.length:Int))) (bq (decide (Int.toNat (aQ (p1.qR+(jE 0 (je p2 (aQ ((p1.data.length:Int)-p1.qR))))))<=p1.data.length)) (some (⟨p1.data.take (Int.toNat (aQ (p1.qR+(jE 0 (je p2 (aQ ((p1.data.length:Int)-p1.qR))))))),(((p1.data.take (Int.toNat (aQ (p1.qR+(jE 0 (je p2 (aQ ((p1.data.length:Int)-p1.qR)))))))).length:Nat):Int)⟩:bS)))
def agf(p1:bS):Option (List Int×bS):=bq (decide ((0+p1.data.length)*1<=room)) (some (p1.data,p1))
def SY(p1:bS):Option (List Int):=bq (decide ((0+p1.data.length)*1<=room)) (some p1.data)
theorem aCM(p1:bS):agf p1=(SY p1).bind λx=>some (x,p1):=by
  simp only[agf,SY,fJ,fV,gu,gq,gy,fT,bG,fZ]
def ag1(p1:Int):Option Int:=bif jd .u64 p1 1==1 then some (IntKind.i64.wrap (wm .u64 18446744073709551615 (iF .u64 p1 1))) else some (IntKind.i64.wrap (iF .u64 p1 1))
def Ol(p1:(List Int)):Nat->Int->Int->Option (Int×Int×Int)|0,_,_=>none|bg+1,x1,x2=>bif decide (x2<10) then bif x2==(p1.length:Int) then some (0,0,17) else bE p1 x2 λx3=>bq (decide ((0:Int)<=IntKind.u64.wrap (aQ (7*x2)))) (bif decide (128<=x3) then(Ol p1 bg) (um .u64 x1 (iV .u64 (IntKind.u64.wrap (jd .u8 x3 127)) (IntKind.u64.wrap (aQ (7*x2))))) (aQ (x2+1))else bif decide (0<x2)&&x3==0||x2==9&&decide (1<x3) then some (0,0,18) else(ag1 (um .u64 x1 (iV .u64 (IntKind.u64.wrap (jd .u8 x3 127)) (IntKind.u64.wrap (aQ (7*x2)))))).bind λx4=>some (x4,aQ (x2+1),0)) else some (0,0,18)
def OU(p1:(List Int)):Option (Int×Int×Int):=Ol p1 fuel 0 0
def Oz(p1:List Int)(p2 x1 x2:Int):Nat->Int->Int->Option (List Int×Int×Int)|0,_,_=>none|bg+1,x3,x4=>bif decide (x4<8) then bE p1 (aQ (x2+x4)) λx5=>bq (decide ((0:Int)<=IntKind.u64.wrap (aQ (8*x4)))) ((Oz p1 p2 x1 x2 bg) (um .u64 x3 (iV .u64 (IntKind.u64.wrap x5) (IntKind.u64.wrap (aQ (8*x4))))) (aQ (x4+1))) else bq (decide (0<=(aQ (x2+8))/\(aQ (x2+8))<=(aQ ((aQ (x2+8))+x1))/\(aQ ((aQ (x2+8))+x1))<=(p1.length:Int))) (bq (decide ((0+((p1.take (Int.toNat (aQ ((aQ (x2+8))+x1)))).drop (Int.toNat (aQ (x2+8)))).length)*1<=room)) ((UU p2 ((p1.take (Int.toNat (aQ ((aQ (x2+8))+x1)))).drop (Int.toNat (aQ (x2+8))))).bind λx6=>bif x3 !=x6 then some (([]:List Int),0,18) else some ((p1.take (Int.toNat (aQ ((aQ (x2+8))+x1)))).drop (Int.toNat (aQ (x2+8))),aQ ((aQ (x2+8))+x1),0)))
def Z6(p1:List Int)(p2:Int):Option (List Int×Int×Int):=(OU p1).bind λx7=>bif x7.2.2 !=0 then some (([]:List Int),0,x7.2.2) else bif decide (x7.1<0) then some (([]:List Int),0,18) else bif decide (65536<x7.1) then some (([]:List Int),0,2) else bif decide (aQ ((p1.length:Int)-x7.2.1)<aQ (8+x7.1)) then some (([]:List Int),0,17) else Oz p1 p2 x7.1 x7.2.1 fuel 0 0
def OJ(p1:(List Int)):Option (Int×List Int×Bool):=(OU p1).bind λx1=>bif x1.2.2 !=0 then some (0,([]:List Int),false) else bq (decide (0<=x1.2.1/\x1.2.1<=(p1.length:Int)/\(p1.length:Int)<=(p1.length:Int))) (some (x1.1,p1.drop (Int.toNat x1.2.1),true))
def Au(af4:vg->Int->Int->Option (aP×Int×Int))(x1 x2:Int)(x3:vg)(x4:Int):Option (aP×Int×Int):=af4 x3 (aQ (x1+x4)) (aQ (x2+1))
def wC(p1:(List Int)):Nat->vg->Int->Int->Option (aP×Int×Int)|0,_,_,_=>none|bg+1,x5,x1,x2=>bif decide (x2<9) then bq (decide (0<=x1/\x1<=(p1.length:Int)/\(p1.length:Int)<=(p1.length:Int))) ((OU (p1.drop (Int.toNat x1))).bind λx6=>bif x6.2.2 !=0 then some ((⟨0,0,0,0,0,0,0,0,0⟩:aP),0,x6.2.2) else bif x2==8 then Au (wC p1 bg) x1 x2 {x5 with e8:=x6.1} x6.2.1 else bif x2==7 then Au (wC p1 bg) x1 x2 {x5 with e7:=x6.1} x6.2.1 else bif x2==6 then Au (wC p1 bg) x1 x2 {x5 with e6:=x6.1} x6.2.1 else bif x2==5 then Au (wC p1 bg) x1 x2 {x5 with e5:=x6.1} x6.2.1 else bif x2==4 then Au (wC p1 bg) x1 x2 {x5 with e4:=x6.1} x6.2.1 else bif x2==3 then Au (wC p1 bg) x1 x2 {x5 with e3:=x6.1} x6.2.1 else bif x2==2 then Au (wC p1 bg) x1 x2 {x5 with e2:=x6.1} x6.2.1 else bif x2==1 then Au (wC p1 bg) x1 x2 {x5 with e1:=x6.1} x6.2.1 else bif x2==0 then Au (wC p1 bg) x1 x2 {x5 with e0:=x6.1} x6.2.1 else none) else(sG (⟨x5.e0,x5.e1,x5.e2,x5.e3,x5.e4,x5.e5,x5.e6,x5.e7,x5.e8⟩:aP)).bind λx7=>bif !x7 then some ((⟨0,0,0,0,0,0,0,0,0⟩:aP),0,18) else some ((⟨x5.e0,x5.e1,x5.e2,x5.e3,x5.e4,x5.e5,x5.e6,x5.e7,x5.e8⟩:aP),x1,0)
def Z5(p1:(List Int)):Option (aP×Int×Int):=wC p1 fuel (⟨0,0,0,0,0,0,0,0,0⟩:vg) 0 0
def aeh(x1:Bool)(x2:fU):Option (Bool×fU):=some (x1,x2)
def aei(x3:Bool)(x4:fU):Option (Bool×fU):=some (x3,x4)
def Yb(p1:fU)(p2:List Int):Option (Bool×fU):=(OJ p2).bind λx5=>bif !x5.2.2 then some (false,p1) else(OJ x5.2.1).bind λx6=>bif !x6.2.2 then some (false,p1) else bif x5.1==1 then(OJ x6.2.1).bind λx7=>(bif x7.2.2&&(x7.2.1.length:Int)==0 then R5 p1 x6.1 x7.1 else some (aG,p1)).bind λx8=>some ((x7.2.2&&(x7.2.1.length:Int)==0)&&x8.1==0,x8.2) else bif x5.1==2 then(Z5 x6.2.1).bind λx9=>bif x9.2.2==0&&x9.2.1==(x6.2.1.length:Int) then(SG p1 x6.1 x9.1).bind λx10=>aeh (x10.1==0) x10.2 else aeh false p1 else bif x5.1==3 then bif(x6.2.1.length:Int)==0 then(Yz p1 x6.1).bind λbQ=>aei (bQ.1==0) bQ.2 else aei false p1 else some (false,p1)
def afv(p1:bS)(p2:Int):Option (Int×bS):=bif decide (p2<0)||decide ((p1.data.length:Int)<p2) then some (1,p1) else bq (decide (0<=p2/\p2<=(p1.data.length:Int))) (bq (decide (Int.toNat p2<=p1.data.length)) (some (0,(⟨p1.data.take (Int.toNat p2),je p1.qR p2⟩:bS))))
def RV(x1:Int)(x2:fU):Option fU:=(afv x2.bW x1).bind λx3=>some (⟨x3.2,x2.gM,x2.iW,x2.bT⟩:fU)
def RY(ad9:Int->fU->Option fU)(x1 x4:Int)(x5:Bool)(x6:fU):Option fU:=bif x5 then RV x1 x6 else ad9 (aQ (x1+x4)) x6
def J9(x7:(List Int)):Nat->Int->fU->Option fU|0,_,_=>none|bg+1,x1,x8=>bif decide (x1<(x7.length:Int)) then bq (decide (0<=x1/\x1<=(x7.length:Int)/\(x7.length:Int)<=(x7.length:Int))) ((Z6 (x7.drop (Int.toNat x1)) 8).bind λx9=>bif x9.2.2 !=0 then RY (J9 x7 bg) x1 x9.2.1 true x8 else(Yb x8 x9.1).bind λx10=>RY (J9 x7 bg) x1 x9.2.1 (!x10.1) x10.2) else RV x1 x8
def Yk(p1:fU)(p2:Int):Option fU:=(agh p1.bW p2).bind λbQ=>(SY bQ).bind λx7=>J9 x7 fuel 0 (⟨bQ,0,(-1),([]:List cO)⟩:fU)
def BL(p1:bA)(p2:Int):Option bA:=(Yk p1.aS p2).bind λx1=>some {p1 with aS:=x1,fP:=1,fM:=0}
def aeK(p1:bA):Option (Int×bA):=some (p1.fM,p1)
def oM(p1:bA):Option Int:=some p1.fM
theorem ayo(p1:bA):aeK p1=(oM p1).bind λx=>some (x,p1):=by
  simp only[aeK,oM,fJ,fV,gu,gq,gy,fT,bG,fZ]
def afr(p1:bA):Option (List cO×bA):=(Fv p1 0).bind λx1=>some (x1,p1)
def rG(p1:bA):Option (List cO):=(Fv p1 0).bind λx1=>some x1
theorem aAg(p1:bA):afr p1=(rG p1).bind λx=>some (x,p1):=by
  simp only[afr,rG,fJ,fV,gu,gq,gy,fT,bG,fZ]
def Ak(x1 x2:Int)(x3:bP):Option bP:=bif decide (aQ (x2+1)<x1) then none else some x3
def Nu(x4 x5:Int)(x6:List cO)(x7:Int)(x8:bP):Nat->(List aP)->Int->Option bP|0,_,_=>none|bg+1,x9,x10=>bif decide (x10<x7) then bE x6 x10 λbQ=>bq (decide ((x9.length+ [bQ.kP].length)*72<=room)) ((Nu x4 x5 x6 x7 x8 bg) (x9++ [bQ.kP]) (aQ (x10+1))) else Ak x4 x5 (⟨[x8.aU.getD 0 aG],x8.bn,x9⟩:bP)
def YC(p1:bP):Option bP:=bif decide (0<1) then(oM (p1.aU.getD 0 aG)).bind λbR=>bif decide (bR<=(p1.kW.length:Int)) then Ak 1 0 (iE p1)else(oM (p1.aU.getD 0 aG)).bind λdz=>bq (decide ((0:Int)<=0/\(0:Int)<=dz/\(dz:Int)<=9223372036854775807/\(dz:Int)*72<=140737488355328)) ((rG (p1.aU.getD 0 aG)).bind λfq=>(oM (p1.aU.getD 0 aG)).bind λfA=>bq (decide (0<=fA/\fA<=(fq.length:Int))) (Nu 1 0 (fq.take (Int.toNat fA)) (((fq.take (Int.toNat fA)).length:Nat):Int) (iE p1) fuel (List.replicate (Int.toNat 0) (aG:aP)) 0)) else none
def zN(x1:bP):Option (Int×bP):=(YC x1).bind λx2=>some (0,iE x2)
def Iy(p1:bP)(p2:lS):Option (Int×bP):=(J8 (iE p1) p2).bind λx3=>bif !x3 then some (1,iE p1) else bif p2.aM==1 then bif p2.nY==0 then(y9 (p1.aU.getD 0 aG)).bind λx4=>(BN {p1 with aU:=[x4.2]} x4.1).bind λx5=>zN (iE x5) else none else bif p2.aM==2 then bif p2.nY==0 then(za (p1.aU.getD 0 aG) p2.kP).bind λx6=>bif x6.2.1 !=0 then some (x6.2.1,{p1 with aU:=[x6.2.2]}) else(BN {p1 with aU:=[x6.2.2]} x6.1).bind λx7=>zN (iE x7) else none else bif p2.aM==3 then bif p2.nY==0 then(Kl (p1.aU.getD 0 aG)).bind λx8=>(BN (iE p1) x8).bind λx9=>zN (iE x9) else none else bif p2.aM==4 then bE p1.bn p2.N λx10=>(Yq (iE p1) p2.N).bind λbQ=>bif x10.To==0 then(nP (bQ.aU.getD 0 aG) {x10 with To:=0}).bind λbR=>(BN {bQ with aU:=[bR.2]} bR.1).bind λdz=>zN (iE dz) else none else bif p2.aM==5 then bE p1.bn p2.N λfq=>bif fq.To==0 then(nP (p1.aU.getD 0 aG) {fq with To:=0}).bind λfA=>(BN {p1 with aU:=[fA.2]} fA.1).bind λgT=>zN (iE gT) else none else bif p2.aM==6 then(Yq (iE p1) p2.N).bind λiG=>zN (iE iG) else bif p2.aM==7 then bif p2.nY==0 then(BL (p1.aU.getD 0 aG) p2.N).bind λx18=>zN {p1 with aU:=[x18]} else none else zN (iE p1)
def Sj(p2:Int):Nat->Int->bP->Option (Int×bP)|0,_,_=>none|bg+1,x1,x2=>bif decide (0<(x2.bn.length:Int))&&decide (x1<5000) then bE x2.bn 0 λx3=>(Yq x2 0).bind λx4=>bq (decide ((0:Int)<=IntKind.u64.wrap x3.From)) (bq (!(!(jd .i64 (iF .i64 p2 (IntKind.u64.wrap x3.From)) 1==0))||decide ((0:Int)<=IntKind.u64.wrap x3.To)) (bif jd .i64 (iF .i64 p2 (IntKind.u64.wrap x3.From)) 1==0||jd .i64 (iF .i64 p2 (IntKind.u64.wrap x3.To)) 1==0 then(Sj p2 bg) x1 (iE x4)else bif x3.To==0 then(nP (x4.aU.getD 0 aG) {x3 with To:=0}).bind λx5=>(BN {x4 with aU:=[x5.2]} x5.1).bind λx6=>(YC (iE x6)).bind λx7=>(Sj p2 bg) (aQ (x1+1)) (iE x7) else none)) else some (x1,x2)
def Ku(p1:bP)(p2:Int):Option (Int×bP):=Sj p2 fuel 0 (iE p1)
def aeW(p1:bP)(p2:Int):Option (Int×bP):=(FE (iE p1) p2).bind λx1=>bif !x1 then some (0,iE p1) else bif p2==0 then(oM (p1.aU.getD 0 aG)).bind λx2=>some (x2,iE p1) else none
def Yg(p1:bP)(p2:Int):Option Int:=(FE (iE p1) p2).bind λx1=>bif !x1 then some 0 else bif p2==0 then(oM (p1.aU.getD 0 aG)).bind λx2=>some x2 else none
theorem azn(p1:bP)(p2:Int):aeW p1 p2=(Yg p1 p2).bind λx=>some (x,iE p1):=by
  simp only[aeW,Yg,fJ,fV,gu,gq,gy,fT,bG,fZ]
def afO(p1:bP)(p2:Int):Option (List cO×bP):=(FE (iE p1) p2).bind λx1=>bif !x1 then some (([]:List cO),iE p1) else bif p2==0 then(rG (p1.aU.getD 0 aG)).bind λx2=>some (x2,iE p1) else none
def Kv(p1:bP)(p2:Int):Option (List cO):=(FE (iE p1) p2).bind λx1=>bif !x1 then some ([]:List cO) else bif p2==0 then(rG (p1.aU.getD 0 aG)).bind λx2=>some x2 else none
theorem aBN(p1:bP)(p2:Int):afO p1 p2=(Kv p1 p2).bind λx=>some (x,iE p1):=by
  simp only[afO,Kv,fJ,fV,gu,gq,gy,fT,bG,fZ]
def Im(Dz:Int->Int->Int->Int->Option (Int×bO))(x1 x2 x3 x4:Int):Option (Int×bO):=Dz x1 x2 x3 (aQ (x4+1))
def Io(Dz:Int->Int->Int->Int->Option (Int×bO))(x5 x6 x7 x8:Int)(x9:List cO)(x10 bQ:Int):Option (Int×bO):=bif decide (x6<x10)||x10==x6&&decide (x7<(x9.length:Int)) then Im Dz x8 x10 (x9.length:Int) bQ else Im Dz x5 x6 x7 bQ
def Kr(bR:Int)(dz:bO):Nat->Int->Int->Int->Int->Option (Int×bO)|0,_,_,_,_=>none|bg+1,x5,x6,x7,x8=>bif decide (x8<bR) then(pq dz x8).bind λfq=>bif !fq then Im (Kr bR dz bg) x5 x6 x7 x8 else(Kv dz.bn x8).bind λx9=>bif decide (0<(x9.length:Int)) then bE x9 (aQ ((x9.length:Int)-1)) λfA=>Io (Kr bR dz bg) x5 x6 x7 x8 x9 fA.iB x8 else Io (Kr bR dz bg) x5 x6 x7 x8 x9 0 x8 else some (x5,dz)
def af2(p1:bO):Option (Int×bO):=Kr (p1.eu.dh.length:Int) (iL p1) fuel (-1) (-1) (-1) 0
def Fx(Dt:Int->Int->Int->Int->Option Int)(x1 x2 x3 x4:Int):Option Int:=Dt x1 x2 x3 (aQ (x4+1))
theorem Si(G:Int->Option (Int×bO))(Dt:Int->Int->Int->Int->Option Int)(x1 x2 x3 x4:Int):Im (λy1 y2 y3 y4=>(Dt y1 y2 y3 y4).bind G) x1 x2 x3 x4=(Fx Dt x1 x2 x3 x4).bind G:=by
  simp only[Im,Fx,fJ,fV,gu,gq,gy,fT,bG,fZ]
def DC(Dt:Int->Int->Int->Int->Option Int)(x5 x6 x7 x8:Int)(x9:List cO)(x10 bQ:Int):Option Int:=bif decide (x6<x10)||x10==x6&&decide (x7<(x9.length:Int)) then Fx Dt x8 x10 (x9.length:Int) bQ else Fx Dt x5 x6 x7 bQ
theorem Ye(G:Int->Option (Int×bO))(Dt:Int->Int->Int->Int->Option Int)(x5 x6 x7 x8:Int)(x9:List cO)(x10 bQ:Int):Io (λy1 y2 y3 y4=>(Dt y1 y2 y3 y4).bind G) x5 x6 x7 x8 x9 x10 bQ=(DC Dt x5 x6 x7 x8 x9 x10 bQ).bind G:=by
  simp only[Io,DC,fJ,fV,gu,gq,gy,fT,bG,fZ,Si]
def BK(bR:Int)(dz:bO):Nat->Int->Int->Int->Int->Option Int|0,_,_,_,_=>none|bg+1,x5,x6,x7,x8=>bif decide (x8<bR) then(pq dz x8).bind λfq=>bif !fq then Fx (BK bR dz bg) x5 x6 x7 x8 else(Kv dz.bn x8).bind λx9=>bif decide (0<(x9.length:Int)) then bE x9 (aQ ((x9.length:Int)-1)) λfA=>DC (BK bR dz bg) x5 x6 x7 x8 x9 fA.iB x8 else DC (BK bR dz bg) x5 x6 x7 x8 x9 0 x8 else some x5
theorem am3(bR:Int)(dz:bO):∀n:Nat,Kr bR dz n=λx5 x6 x7 x8=>(BK bR dz n x5 x6 x7 x8).bind (λx=>some (x,dz))
  |0=>rfl
  |n+1=>by
    funext x5 x6 x7 x8
    simp only[Kr,BK,am3 bR dz n,fJ,fV,gu,gq,gy,fT,bG,fZ,Ye,Si]
def NR(p1:bO):Option Int:=BK (p1.eu.dh.length:Int) (iL p1) fuel (-1) (-1) (-1) 0
theorem aCk(p1:bO):af2 p1=(NR p1).bind λx=>some (x,iL p1):=by
  simp only[af2,NR,fJ,fV,gu,gq,gy,fT,bG,fZ,Ye,Si,am3]
def Ko(Kc:Int->bO->Option (Bool×bO))(x1 x2:Int)(x3:Bool)(x4:bO):Option (Bool×bO):=bif x3 then(Ku x4.bn x4.up).bind λx5=>(Yg (iE x5.2) x2).bind λx6=>some (decide (x4.state.eH<x6),(⟨x4.eu,iE x5.2,x4.up,x4.state⟩:bO)) else(NR x4).bind λx7=>(Iy x4.bn (⟨1,x7,0,⟨0,0,0,0,0,0,0,0,0⟩⟩:lS)).bind λx8=>(Ku (iE x8.2) x4.up).bind λx9=>Kc (aQ (x1+1)) (⟨x4.eu,iE x9.2,x4.up,x4.state⟩:bO)
def Fy(p2:aP):Nat->Int->bO->Option (Bool×bO)|0,_,_=>none|bg+1,x1,x10=>bif decide (x1<4) then(ND x10.bn).bind λbQ=>(pq (⟨x10.eu,iE bQ.2,x10.up,x10.state⟩:bO) bQ.1).bind λbR=>bif bR then(Iy (iE bQ.2) (⟨2,bQ.1,0,p2⟩:lS)).bind λdz=>Ko (Fy p2 bg) x1 bQ.1 (dz.1==0) (⟨x10.eu,iE dz.2,x10.up,x10.state⟩:bO) else Ko (Fy p2 bg) x1 bQ.1 false (⟨x10.eu,iE bQ.2,x10.up,x10.state⟩:bO) else some (false,x10)
def SN(p1:bO)(p2:aP):Option (Bool×bO):=Fy p2 fuel 0 (iL p1)
def Il(p1:bO)(p2:aP):Option (Int×Int×bO):=(ze (iL p1)).bind λx1=>bif !x1 then some (0,16,iL p1) else(BQ p1.eu p1.state p2).bind λx2=>bif x2.2 !=0 then some (0,x2.2,iL p1) else(SN (iL p1) p2).bind λx3=>bif !x3.1 then some (0,16,iL x3.2) else some (x3.2.state.eH,0,{x3.2 with bn:=iE x3.2.bn,state:=x2.1})
def afE(x1:wP):Option (Bool×wP):=some (true,x1)
def YT(p1:wP)(p2:aP):Option (Bool×wP):=(Il (iL p1.p) p2).bind λx2=>bif x2.2.1 !=0 then some (false,{p1 with p:=iL x2.2.2,copies:=[[(p1.copies.getD 0 aG).getD 0 aG,(p1.copies.getD 0 aG).getD 1 aG]]}) else bif p2.aM==2 then bq (decide ((p1.Gj.length+ [(⟨p2.aI,x2.1,{p2 with qQ:=p2.N}⟩:iM)].length)*56<=room)) (afE {p1 with p:=iL x2.2.2,copies:=[[(p1.copies.getD 0 aG).getD 0 aG,(p1.copies.getD 0 aG).getD 1 aG]],Gj:=(p1.Gj++ [(⟨p2.aI,x2.1,{p2 with qQ:=p2.N}⟩:iM)])}) else afE {p1 with p:=iL x2.2.2,copies:=[[(p1.copies.getD 0 aG).getD 0 aG,(p1.copies.getD 0 aG).getD 1 aG]]}
def Gc(p1 p2:Int):Option Int:=bq (decide (p2≠(0:Int))) (bq (decide (p2≠(0:Int))) (some (Int.tmod (aQ ((Int.tmod p1 p2)+p2)) p2)))
def aoR(p1:iD):Option Bool:=some (((((((decide (1<=p1.bN)&&decide (p1.bN<=1048576))&&decide (0<=p1.qQ))&&decide (p1.qQ<30))&&decide (0<=p1.From))&&decide (p1.From<=1073741824))&&decide (p1.From<p1.bV))&&decide (p1.bV<=1073743824))
def cmp_isNaN_int(p1:Int):Option Bool:=some (p1 !=p1)
def cmp_Compare_int(p1 p2:Int):Option Int:=(cmp_isNaN_int p1).bind λx1=>(cmp_isNaN_int p2).bind λx2=>bif x1 then bif x2 then some 0 else some (-1) else bif x2 then some 1 else bif decide (p1<p2) then some (-1) else bif decide (p2<p1) then some 1 else some 0
def KH(p1:List Int)(x1 x2:Int):Nat->Int->Option Int|0,_=>none|bg+1,x3=>bif decide (x3<x2) then bE p1 x3 λx4=>bif x4 !=x1 then some x4 else(KH p1 x1 x2 bg) (aQ (x3+1)) else some x1
def KV(p1:(List Int)):Option Int:=KH p1 0 (p1.length:Int) fuel 0
def agI(p1 p2:iD):Option Int:=(cmp_Compare_int p1.From p2.From).bind λx1=>(cmp_Compare_int p1.bN p2.bN).bind λx2=>(cmp_Compare_int p1.bV p2.bV).bind λx3=>(cmp_Compare_int p1.qQ p2.qQ).bind λx4=>(KV [x1,x2,x3,x4]).bind λx5=>some x5
def XD(p1:List iD)(p2:iD)(x1:Int):Nat->Int->Int->Option (Int×Bool)|0,_,_=>none|bg+1,x2,x3=>bif decide (x2<x3) then bE p1 (IntKind.i64.wrap (iF .u64 (IntKind.u64.wrap (aQ (x2+x3))) 1)) λx4=>(agI x4 p2).bind λx5=>bif decide (x5<0) then(XD p1 p2 x1 bg) (aQ ((IntKind.i64.wrap (iF .u64 (IntKind.u64.wrap (aQ (x2+x3))) 1))+1)) x3 else(XD p1 p2 x1 bg) x2 (IntKind.i64.wrap (iF .u64 (IntKind.u64.wrap (aQ (x2+x3))) 1)) else qH (decide (x2<x1)) p1 x2 λx6=>(bif decide (x2<x1) then agI x6 p2 else some aG).bind λx7=>some (x2,decide (x2<x1)&&x7==0)
def ama(p1:List iD)(p2:iD):Option (Int×Bool):=XD p1 p2 (p1.length:Int) fuel 0 (p1.length:Int)
def amj(p1:List iD)(p2:Int)(p3:List iD):Option (List iD):=bq (decide (0<=p2/\p2<=(p1.length:Int)/\(p1.length:Int)<=(p1.length:Int))) (bif(p3.length:Int)==0 then some p1 else bif p2==(p1.length:Int) then bq (decide ((p1.length+p3.length)*40<=room)) (some (p1++p3)) else none)
def afJ(x1:iJ):Option (Int×iJ):=some (0,x1)
def agt(p1:iJ)(p2:iD):Option (Int×iJ):=(aoR p2).bind λx2=>bif !x2 then some (1,p1) else bif p2.aK !=p1.cell then some (5,p1) else bif decide (p2.bN<=p1.closed) then some (7,p1) else(ama p1.l9 p2).bind λx3=>bif !x3.2 then(amj p1.l9 x3.1 [p2]).bind λx4=>afJ {p1 with l9:=x4} else afJ p1
def anQ(p1:wP)(p2:Int):Option wP:=bif(p1.Gj.length:Int)==0 then some {p1 with p:=iL p1.p,copies:=[[(p1.copies.getD 0 aG).getD 0 aG,(p1.copies.getD 0 aG).getD 1 aG]]} else(Gc p2 (p1.Gj.length:Int)).bind λx1=>bE p1.Gj x1 λx2=>bif x2.aI==0 then bif x2.dn.aK==1 then(Kz ((p1.copies.getD 0 aG).getD 1 aG)).bind λx3=>(agt (((p1.copies.getD 0 aG).getD 1 aG).qd) {x2.dn with aK:=1}).bind λx4=>some {p1 with p:=iL p1.p,copies:=[[(p1.copies.getD 0 aG).getD 0 aG,{((p1.copies.getD 0 aG).getD 1 aG)with qd:=x4.2}]]} else bif x2.dn.aK==0 then(Kz ((p1.copies.getD 0 aG).getD 0 aG)).bind λx5=>(agt (((p1.copies.getD 0 aG).getD 0 aG).qd) {x2.dn with aK:=0}).bind λx6=>some {p1 with p:=iL p1.p,copies:=[[{((p1.copies.getD 0 aG).getD 0 aG)with qd:=x6.2},(p1.copies.getD 0 aG).getD 1 aG]]} else none else none
def Z4(p1:ByteArray):Option Bool:=some (decide (1<=((p1.size:Nat):Int))&&decide (((p1.size:Nat):Int)<=16))
def agE(p1:ByteArray):Option Bool:=some (decide (((p1.size:Nat):Int)<=64))
def aoK(p1:lQ):Option Bool:=bif((decide (p1.aI<0)||decide (32<=p1.aI))||decide (p1.uK<1))||decide (8<p1.uK) then some false else bif p1.Op==1 then(bif p1.lV==0&&p1.jh==0 then Z4 p1.uh else some aG).bind λx1=>some (((p1.lV==0&&p1.jh==0)&&x1)&&p1.Value.toList==ByteArray.empty.toList) else bif p1.Op==2 then(bif(decide (1<=p1.lV)&&decide (p1.lV<=1048576))&&p1.jh==0 then Z4 p1.uh else some aG).bind λx2=>(bif((decide (1<=p1.lV)&&decide (p1.lV<=1048576))&&p1.jh==0)&&x2 then agE p1.Value else some aG).bind λx3=>some ((((decide (1<=p1.lV)&&decide (p1.lV<=1048576))&&p1.jh==0)&&x2)&&x3) else bif p1.Op==3 then(bif(decide (1<=p1.lV)&&decide (p1.lV<=1048576))&&p1.jh==0 then Z4 p1.uh else some aG).bind λx4=>some ((((decide (1<=p1.lV)&&decide (p1.lV<=1048576))&&p1.jh==0)&&x4)&&p1.Value.toList==ByteArray.empty.toList) else bif p1.Op==4 then(bif((decide (1<=p1.lV)&&decide (p1.lV<=1048576))&&p1.jh==0)&&p1.uh.toList==ByteArray.empty.toList then agE p1.Value else some aG).bind λx5=>some ((((decide (1<=p1.lV)&&decide (p1.lV<=1048576))&&p1.jh==0)&&p1.uh.toList==ByteArray.empty.toList)&&x5) else bif p1.Op==5 then some (((p1.lV==0&&p1.jh==0)&&p1.uh.toList==ByteArray.empty.toList)&&p1.Value.toList==ByteArray.empty.toList) else bif p1.Op==6 then some (((((decide (1<=p1.lV)&&decide (p1.lV<=1048576))&&decide (1<=p1.jh))&&decide (p1.jh<=4096))&&p1.uh.toList==ByteArray.empty.toList)&&p1.Value.toList==ByteArray.empty.toList) else some false
def Sv(aeC:Int->Int->Option (Int×Bool×iJ))(x1 x2:Int):Option (Int×Bool×iJ):=aeC x2 (aQ (x1+1))
def Nz(p1:iJ)(p2 p3 x3:Int):Nat->Int->Int->Option (Int×Bool×iJ)|0,_,_=>none|bg+1,x4,x1=>bif decide (x1<x3) then bE p1.l9 x1 λx5=>bif(x5.qQ==p2&&decide (x5.From<=p3))&&decide (p3<x5.bV) then Sv (Nz p1 p2 p3 x3 bg) x1 (jE x4 x5.bN)else Sv (Nz p1 p2 p3 x3 bg) x1 x4 else some (x4,decide (0<x4),p1)
def afI(p1:iJ)(p2 p3:Int):Option (Int×Bool×iJ):=Nz p1 p2 p3 (p1.l9.length:Int) fuel 0 0
def Ya(X3:Int->Int->Option (Int×Bool))(x1 x2:Int):Option (Int×Bool):=X3 x2 (aQ (x1+1))
theorem amN(G:(Int×Bool)->Option (Int×Bool×iJ))(X3:Int->Int->Option (Int×Bool))(x1 x2:Int):Sv (λy1 y2=>(X3 y1 y2).bind G) x1 x2=(Ya X3 x1 x2).bind G:=by
  simp only[Sv,Ya,fJ,fV,gu,gq,gy,fT,bG,fZ]
def Sd(p1:iJ)(p2 p3 x3:Int):Nat->Int->Int->Option (Int×Bool)|0,_,_=>none|bg+1,x4,x1=>bif decide (x1<x3) then bE p1.l9 x1 λx5=>bif(x5.qQ==p2&&decide (x5.From<=p3))&&decide (p3<x5.bV) then Ya (Sd p1 p2 p3 x3 bg) x1 (jE x4 x5.bN)else Ya (Sd p1 p2 p3 x3 bg) x1 x4 else some (x4,decide (0<x4))
theorem amO(p1:iJ)(p2 p3 x3:Int):∀n:Nat,Nz p1 p2 p3 x3 n=λx4 x1=>(Sd p1 p2 p3 x3 n x4 x1).bind (λx=>some (x.1,x.2,p1))
  |0=>rfl
  |n+1=>by
    funext x4 x1
    simp only[Nz,Sd,amO p1 p2 p3 x3 n,fJ,fV,gu,gq,gy,fT,bG,fZ,amN]
def Yy(p1:iJ)(p2 p3:Int):Option (Int×Bool):=Sd p1 p2 p3 (p1.l9.length:Int) fuel 0 0
theorem aBD(p1:iJ)(p2 p3:Int):afI p1 p2 p3=(Yy p1 p2 p3).bind λx=>some (x.1,x.2,p1):=by
  simp only[afI,Yy,fJ,fV,gu,gq,gy,fT,bG,fZ,amN,amO]
def agd(p1:lU):Option (Int×lU):=bif(p1.sH.length:Int)==0 then some (0,p1) else bE p1.sH (aQ ((p1.sH.length:Int)-1)) λx1=>some (x1.bN,p1)
def SX(p1:lU):Option Int:=bif(p1.sH.length:Int)==0 then some 0 else bE p1.sH (aQ ((p1.sH.length:Int)-1)) λx1=>some x1.bN
theorem aCJ(p1:lU):agd p1=(SX p1).bind λx=>some (x,p1):=by
  simp only[agd,SX,fJ,fV,gu,gq,gy,fT,bG,fZ]
def agm(p1:pz)(p2:ByteArray):Option (ByteArray×Int×Bool×pz):=bq (p1.values.isEmpty) (some (ByteArray.empty,0,false,p1))
def NW(p1:pz)(p2:ByteArray):Option (ByteArray×Int×Bool):=bq (p1.values.isEmpty) (some (ByteArray.empty,0,false))
theorem aC2(p1:pz)(p2:ByteArray):agm p1 p2=(NW p1 p2).bind λx=>some (x.1,x.2.1,x.2.2,p1):=by
  simp only[agm,NW,fJ,fV,gu,gq,gy,fT,bG,fZ]
def BM(p1:jq)(p3:Int)(x1:pR):Option (kY×Int×jq):=bif p3==aQ (x1.number+1) then some ((⟨0,0,0,ByteArray.empty⟩:kY),34,p1) else bif p3==x1.number then some (x1.iA,0,p1) else some ((⟨0,0,0,ByteArray.empty⟩:kY),32,p1)
def afD(p1:jq)(p2 p3:Int):Option (kY×Int×jq):=bif((decide (p2<1)||decide (8<p2))||decide (p3<1))||decide (1048576<p3) then some ((⟨0,0,0,ByteArray.empty⟩:kY),1,p1) else bif p2==8 then BM p1 p3 p1.iX.e7 else bif p2==7 then BM p1 p3 p1.iX.e6 else bif p2==6 then BM p1 p3 p1.iX.e5 else bif p2==5 then BM p1 p3 p1.iX.e4 else bif p2==4 then BM p1 p3 p1.iX.e3 else bif p2==3 then BM p1 p3 p1.iX.e2 else bif p2==2 then BM p1 p3 p1.iX.e1 else bif p2==1 then BM p1 p3 p1.iX.e0 else bif p2==0 then none else none
def Dw(p3:Int)(x1:pR):Option (kY×Int):=bif p3==aQ (x1.number+1) then some ((⟨0,0,0,ByteArray.empty⟩:kY),34) else bif p3==x1.number then some (x1.iA,0) else some ((⟨0,0,0,ByteArray.empty⟩:kY),32)
theorem aze(p1:jq)(p3:Int)(x1:pR):BM p1 p3 x1=(Dw p3 x1).bind (λx=>some (x.1,x.2,p1)):=by
  simp only[BM,Dw,fJ,fV,gu,gq,gy,fT,bG,fZ]
def SB(p1:jq)(p2 p3:Int):Option (kY×Int):=bif((decide (p2<1)||decide (8<p2))||decide (p3<1))||decide (1048576<p3) then some ((⟨0,0,0,ByteArray.empty⟩:kY),1) else bif p2==8 then Dw p3 p1.iX.e7 else bif p2==7 then Dw p3 p1.iX.e6 else bif p2==6 then Dw p3 p1.iX.e5 else bif p2==5 then Dw p3 p1.iX.e4 else bif p2==4 then Dw p3 p1.iX.e3 else bif p2==3 then Dw p3 p1.iX.e2 else bif p2==2 then Dw p3 p1.iX.e1 else bif p2==1 then Dw p3 p1.iX.e0 else bif p2==0 then none else none
theorem aBu(p1:jq)(p2 p3:Int):afD p1 p2 p3=(SB p1 p2 p3).bind λx=>some (x.1,x.2,p1):=by
  simp only[afD,SB,fJ,fV,gu,gq,gy,fT,bG,fZ,aze]
def agw(p1:lU):Option (Int×lU):=some ((p1.sH.length:Int),p1)
def N9(p1:lU):Option Int:=some (p1.sH.length:Int)
theorem aDE(p1:lU):agw p1=(N9 p1).bind λx=>some (x,p1):=by
  simp only[agw,N9,fJ,fV,gu,gq,gy,fT,bG,fZ]
def agc(p1:pz):Option (List ByteArray×pz):=bq (p1.values.isEmpty) (some ([],p1))
def SQ(p1:pz):Option (List ByteArray):=bq (p1.values.isEmpty) (some [])
theorem aCF(p1:pz):agc p1=(SQ p1).bind λx=>some (x,p1):=by
  simp only[agc,SQ,fJ,fV,gu,gq,gy,fT,bG,fZ]
def XR(p1:(List iY)):Option (List iY):=bq (decide ((([]:List iY).length+p1.length)*24<=room)) (some (([]:List iY)++p1))
def afN(p1:iw):Option (List iY×iw):=(XR p1.yc).bind λx1=>some (x1,p1)
def Kt(p1:iw):Option (List iY):=(XR p1.yc).bind λx1=>some x1
theorem aBL(p1:iw):afN p1=(Kt p1).bind λx=>some (x,p1):=by
  simp only[afN,Kt,fJ,fV,gu,gq,gy,fT,bG,fZ]
def aeO(p1:iY)(p2:lQ):Option (Bool×lQ):=some (p1.lV==p2.jh,p2)
def RZ(p1:iY)(p2:lQ):Option Bool:=some (p1.lV==p2.jh)
theorem ayI(p1:iY)(p2:lQ):aeO p1 p2=(RZ p1 p2).bind λx=>some (x,p2):=by
  simp only[aeO,RZ,fJ,fV,gu,gq,gy,fT,bG,fZ]
def Rq(p1:List iY)(p2:lQ)(x1:Int):Nat->Int->Option (Int×lQ)|0,_=>none|bg+1,x2=>bif decide (x2<x1) then bE p1 x2 λx3=>(RZ x3 p2).bind λx4=>bif x4 then some (x2,p2) else(Rq p1 p2 x1 bg) (aQ (x2+1)) else some ((-1),p2)
def adY(p1:List iY)(p2:lQ):Option (Int×lQ):=Rq p1 p2 (p1.length:Int) fuel 0
def XI(p1:List iY)(p2:lQ)(x1:Int):Nat->Int->Option Int|0,_=>none|bg+1,x2=>bif decide (x2<x1) then bE p1 x2 λx3=>(RZ x3 p2).bind λx4=>bif x4 then some x2 else(XI p1 p2 x1 bg) (aQ (x2+1)) else some (-1)
theorem amf(p1:List iY)(p2:lQ)(x1:Int):∀n:Nat,Rq p1 p2 x1 n=λx2=>(XI p1 p2 x1 n x2).bind (λx=>some (x,p2))
  |0=>rfl
  |n+1=>by
    funext x2
    simp only[Rq,XI,amf p1 p2 x1 n,fJ,fV,gu,gq,gy,fT,bG,fZ]
def Rs(p1:List iY)(p2:lQ):Option Int:=XI p1 p2 (p1.length:Int) fuel 0
theorem awM(p1:List iY)(p2:lQ):adY p1 p2=(Rs p1 p2).bind λx=>some (x,p2):=by
  simp only[adY,Rs,fJ,fV,gu,gq,gy,fT,bG,fZ,amf]
def adR(p1:List iY)(p2:lQ):Option (Bool×lQ):=(Rs p1 p2).bind λx1=>some (decide (0<=x1),p2)
def Ro(p1:List iY)(p2:lQ):Option Bool:=(Rs p1 p2).bind λx1=>some (decide (0<=x1))
theorem aww(p1:List iY)(p2:lQ):adR p1 p2=(Ro p1 p2).bind λx=>some (x,p2):=by
  simp only[adR,Ro,fJ,fV,gu,gq,gy,fT,bG,fZ]
def ahf(p1:jr)(p2 p3:Int):Option Bool:=some (p1.bN==p2&&decide (p3<p1.bV))
def Sz(p1:iw)(p2 p3 p4 p5:Int)(x1:List jr)(x2:Int):Nat->Int->Option (Bool×iw)|0,_=>none|bg+1,x3=>bif decide (x3<x2) then bE x1 x3 λx4=>(bif x4.jh==p4&&x4.uK==p2 then ahf x4 p3 p5 else some aG).bind λx5=>bif(x4.jh==p4&&x4.uK==p2)&&x5 then some (true,p1) else(Sz p1 p2 p3 p4 p5 x1 x2 bg) (aQ (x3+1)) else some (false,p1)
def afM(p1:iw)(p2 p3 p4 p5:Int):Option (Bool×iw):=Sz p1 p2 p3 p4 p5 p1.yQ (p1.yQ.length:Int) fuel 0
def Yf(p2 p3 p4 p5:Int)(x1:List jr)(x2:Int):Nat->Int->Option Bool|0,_=>none|bg+1,x3=>bif decide (x3<x2) then bE x1 x3 λx4=>(bif x4.jh==p4&&x4.uK==p2 then ahf x4 p3 p5 else some aG).bind λx5=>bif(x4.jh==p4&&x4.uK==p2)&&x5 then some true else(Yf p2 p3 p4 p5 x1 x2 bg) (aQ (x3+1)) else some false
theorem amP(p1:iw)(p2 p3 p4 p5:Int)(x1:List jr)(x2:Int):∀n:Nat,Sz p1 p2 p3 p4 p5 x1 x2 n=λx3=>(Yf p2 p3 p4 p5 x1 x2 n x3).bind (λx=>some (x,p1))
  |0=>rfl
  |n+1=>by
    funext x3
    simp only[Sz,Yf,amP p1 p2 p3 p4 p5 x1 x2 n,fJ,fV,gu,gq,gy,fT,bG,fZ]
def SI(p1:iw)(p2 p3 p4 p5:Int):Option Bool:=Yf p2 p3 p4 p5 p1.yQ (p1.yQ.length:Int) fuel 0
theorem aBJ(p1:iw)(p2 p3 p4 p5:Int):afM p1 p2 p3 p4 p5=(SI p1 p2 p3 p4 p5).bind λx=>some (x,p1):=by
  simp only[afM,SI,fJ,fV,gu,gq,gy,fT,bG,fZ,amP]
def afb(p1:lU)(p2 p3:Int)(p4:lQ):Option (Int×Int×lU):=(NW p1.now.tJ p4.uh).bind λx1=>bif p4.Op==2 then(bif !x1.2.2 then SQ p1.now.tJ else some aG).bind λx2=>bif !x1.2.2&&decide (32<=(x2.length:Int)) then some (0,33,p1) else some (1,0,p1) else bif p4.Op==3 then bif !x1.2.2 then some (0,34,p1) else some (2,0,p1) else bif p4.Op==4 then(Kt p1.now.qA).bind λx3=>bif decide (16<=(x3.length:Int)) then some (0,33,p1) else some (3,0,p1) else(Kt p1.now.qA).bind λx4=>(Ro x4 p4).bind λx5=>bif !x5 then some (0,34,p1) else(SI p1.now.qA p4.uK p2 p4.jh p3).bind λx6=>bif !x6 then some (0,35,p1) else some (4,0,p1)
def Yj(p1:lU)(p2 p3:Int)(p4:lQ):Option (Int×Int):=(NW p1.now.tJ p4.uh).bind λx1=>bif p4.Op==2 then(bif !x1.2.2 then SQ p1.now.tJ else some aG).bind λx2=>bif !x1.2.2&&decide (32<=(x2.length:Int)) then some (0,33) else some (1,0) else bif p4.Op==3 then bif !x1.2.2 then some (0,34) else some (2,0) else bif p4.Op==4 then(Kt p1.now.qA).bind λx3=>bif decide (16<=(x3.length:Int)) then some (0,33) else some (3,0) else(Kt p1.now.qA).bind λx4=>(Ro x4 p4).bind λx5=>bif !x5 then some (0,34) else(SI p1.now.qA p4.uK p2 p4.jh p3).bind λx6=>bif !x6 then some (0,35) else some (4,0)
theorem azV(p1:lU)(p2 p3:Int)(p4:lQ):afb p1 p2 p3 p4=(Yj p1 p2 p3 p4).bind λx=>some (x.1,x.2,p1):=by
  simp only[afb,Yj,fJ,fV,gu,gq,gy,fT,bG,fZ]
def agZ(p1:ByteArray):Option Bool:=some (decide (1<=((p1.size:Nat):Int))&&decide (((p1.size:Nat):Int)<=16))
def agA(p1:ByteArray):Option Bool:=some (decide (((p1.size:Nat):Int)<=64))
def UO(p1:iH):Option Bool:=bif((((((decide (p1.bN<1)||decide (1048576<p1.bN))||decide (p1.mq<1))||decide (4096<p1.mq))||decide (p1.uK<1))||decide (8<p1.uK))||decide (p1.lV<1))||decide (1048576<p1.lV) then some false else bif p1.aM==1 then(agZ p1.uh).bind λx1=>(bif x1 then agA p1.Value else some aG).bind λx2=>some ((x1&&x2)&&p1.jh==0) else bif p1.aM==2 then(agZ p1.uh).bind λx3=>some ((x3&&p1.Value.toList==ByteArray.empty.toList)&&p1.jh==0) else bif p1.aM==3 then(bif p1.uh.toList==ByteArray.empty.toList then agA p1.Value else some aG).bind λx4=>some ((p1.uh.toList==ByteArray.empty.toList&&x4)&&p1.jh==0) else bif p1.aM==4 then some (((p1.uh.toList==ByteArray.empty.toList&&p1.Value.toList==ByteArray.empty.toList)&&decide (1<=p1.jh))&&decide (p1.jh<p1.mq)) else some false
def al9(p1:(List (Value×Value))):Option ((List (Value×Value))×(List (Value×Value))):=some (p1,p1)
def anF(p1:pz):Option (pz×pz):=(al9 p1.values).bind λx1=>some ((⟨x1.1⟩:pz),(⟨x1.2⟩:pz))
def amn(p1:(List jr)):Option (List jr):=bq (decide ((([]:List jr).length+p1.length)*32<=room)) (some (([]:List jr)++p1))
def anC(p1:iw):Option (iw×iw):=(XR p1.yc).bind λx1=>(amn p1.yQ).bind λx2=>some ((⟨x1,x2,p1.zP⟩:iw),p1)
def afC(p1:jq):Option (jq×jq):=some (p1,p1)
def Yr(p1:jq):Option jq:=some p1
theorem aBs(p1:jq):afC p1=(Yr p1).bind λx=>some (x,p1):=by
  simp only[afC,Yr,fJ,fV,gu,gq,gy,fT,bG,fZ]
def anL(p1:Az):Option (Az×pz×iw×jq):=(anF p1.tJ).bind λx1=>(anC p1.qA).bind λx2=>(Yr p1.wU).bind λx3=>some ((⟨x1.1,x2.1,x3⟩:Az),x1.2,x2.2,p1.wU)
def Yi(x1:jq):Option (Int×jq):=some (0,x1)
def ang(p1:jq)(p2:iH):Option (Int×jq):=(UO p2).bind λx2=>bif !x2 then some (1,p1) else bif p2.uK==1 then bif p2.lV !=aQ (p1.iX.e0.number+1) then some (32,p1) else bif p2.aM==3 then Yi (⟨{p1.iX with e0:=(⟨p2.lV,⟨0,p2.mq,p2.mq,ByteArray.empty⟩⟩:pR)}⟩:jq)else bif p2.aM==4 then Yi (⟨{p1.iX with e0:=(⟨p2.lV,⟨0,p2.mq,p2.jh,ByteArray.empty⟩⟩:pR)}⟩:jq)else Yi (⟨{p1.iX with e0:=(⟨p2.lV,⟨0,p2.mq,0,ByteArray.empty⟩⟩:pR)}⟩:jq) else none
def ae7(x1:(List (Value×Value))):Option (Int×pz):=some (0,(⟨x1⟩:pz))
def anv(p1:pz)(p2:iH):Option (Int×pz):=(UO p2).bind λx2=>bif !x2 then some (1,p1) else bq (p1.values.isEmpty) (bif p2.aM==1 then bif !false&&decide (32<=(p1.values.length:Int)) then some (33,p1) else bq (p1.values.isEmpty) (ae7 [(Value.string p2.uh,Value.agg #[Value.string p2.Value,Value.int .i64 p2.mq])]) else bif p2.aM==2 then bif !false then some (34,p1) else none else ae7 p1.values)
def afi(p1:iY)(p2:iH):Option (Bool×iH):=some (p1.lV==p2.jh,p2)
def Sn(p1:iY)(p2:iH):Option Bool:=some (p1.lV==p2.jh)
theorem az7(p1:iY)(p2:iH):afi p1 p2=(Sn p1 p2).bind λx=>some (x,p2):=by
  simp only[afi,Sn,fJ,fV,gu,gq,gy,fT,bG,fZ]
def Rn(p1:List iY)(p2:iH)(x1:Int):Nat->Int->Option (Int×iH)|0,_=>none|bg+1,x2=>bif decide (x2<x1) then bE p1 x2 λx3=>(Sn x3 p2).bind λx4=>bif x4 then some (x2,p2) else(Rn p1 p2 x1 bg) (aQ (x2+1)) else some ((-1),p2)
def adS(p1:List iY)(p2:iH):Option (Int×iH):=Rn p1 p2 (p1.length:Int) fuel 0
def XF(p1:List iY)(p2:iH)(x1:Int):Nat->Int->Option Int|0,_=>none|bg+1,x2=>bif decide (x2<x1) then bE p1 x2 λx3=>(Sn x3 p2).bind λx4=>bif x4 then some x2 else(XF p1 p2 x1 bg) (aQ (x2+1)) else some (-1)
theorem amb(p1:List iY)(p2:iH)(x1:Int):∀n:Nat,Rn p1 p2 x1 n=λx2=>(XF p1 p2 x1 n x2).bind (λx=>some (x,p2))
  |0=>rfl
  |n+1=>by
    funext x2
    simp only[Rn,XF,amb p1 p2 x1 n,fJ,fV,gu,gq,gy,fT,bG,fZ]
def XJ(p1:List iY)(p2:iH):Option Int:=XF p1 p2 (p1.length:Int) fuel 0
theorem awy(p1:List iY)(p2:iH):adS p1 p2=(XJ p1 p2).bind λx=>some (x,p2):=by
  simp only[adS,XJ,fJ,fV,gu,gq,gy,fT,bG,fZ,amb]
def amo(p1:List iY)(p2 p3:Int):Option (List iY):=bq (decide (0<=p2/\p2<=p3/\p3<=(p1.length:Int)/\(p1.length:Int)<=(p1.length:Int))) (bif p2==p3 then some p1 else bq (decide (0<=p2/\p2<=(p1.length:Int))) (bq (decide (0<=p3/\p3<=(p1.length:Int)/\(p1.length:Int)<=(p1.length:Int))) (bq (decide ((0+Int.toNat p3)+(Int.toNat (p1.length:Int)-Int.toNat p3)<=p1.length)) (bq (decide ((Int.toNat p2)+(Int.toNat (p1.length:Int)-Int.toNat p3)<=p1.length)) (bq (decide (0<=((((Int.toNat p2)+(Int.toNat (p1.length:Int)-Int.toNat p3)):Nat):Int)/\((((Int.toNat p2)+(Int.toNat (p1.length:Int)-Int.toNat p3)):Nat):Int)<=(p1.length:Int)/\(p1.length:Int)<=(((jQ (Int.toNat p2) ((p1.drop (0+Int.toNat p3)).take (Int.toNat (p1.length:Int)-Int.toNat p3)).length p1 ((p1.drop (0+Int.toNat p3)).take (Int.toNat (p1.length:Int)-Int.toNat p3))).length:Nat):Int))) (bq (decide ((0+Int.toNat ((((Int.toNat p2)+(Int.toNat (p1.length:Int)-Int.toNat p3)):Nat):Int))+(Int.toNat (p1.length:Int)-Int.toNat ((((Int.toNat p2)+(Int.toNat (p1.length:Int)-Int.toNat p3)):Nat):Int))<=(jQ (Int.toNat p2) ((p1.drop (0+Int.toNat p3)).take (Int.toNat (p1.length:Int)-Int.toNat p3)).length p1 ((p1.drop (0+Int.toNat p3)).take (Int.toNat (p1.length:Int)-Int.toNat p3))).length)) (bq (decide (((Int.toNat p2)+(Int.toNat (p1.length:Int)-Int.toNat p3))<=(jQ (0+Int.toNat ((((Int.toNat p2)+(Int.toNat (p1.length:Int)-Int.toNat p3)):Nat):Int)) (Int.toNat (p1.length:Int)-Int.toNat ((((Int.toNat p2)+(Int.toNat (p1.length:Int)-Int.toNat p3)):Nat):Int)) (jQ (Int.toNat p2) ((p1.drop (0+Int.toNat p3)).take (Int.toNat (p1.length:Int)-Int.toNat p3)).length p1 ((p1.drop (0+Int.toNat p3)).take (Int.toNat (p1.length:Int)-Int.toNat p3))) (List.replicate (Int.toNat (p1.length:Int)-Int.toNat ((((Int.toNat p2)+(Int.toNat (p1.length:Int)-Int.toNat p3)):Nat):Int)) (aG:iY))).length)) (some ((jQ (0+Int.toNat ((((Int.toNat p2)+(Int.toNat (p1.length:Int)-Int.toNat p3)):Nat):Int)) (Int.toNat (p1.length:Int)-Int.toNat ((((Int.toNat p2)+(Int.toNat (p1.length:Int)-Int.toNat p3)):Nat):Int)) (jQ (Int.toNat p2) ((p1.drop (0+Int.toNat p3)).take (Int.toNat (p1.length:Int)-Int.toNat p3)).length p1 ((p1.drop (0+Int.toNat p3)).take (Int.toNat (p1.length:Int)-Int.toNat p3))) (List.replicate (Int.toNat (p1.length:Int)-Int.toNat ((((Int.toNat p2)+(Int.toNat (p1.length:Int)-Int.toNat p3)):Nat):Int)) (aG:iY))).take ((Int.toNat p2)+(Int.toNat (p1.length:Int)-Int.toNat p3)))))))))))
def afj(p1:jr)(p2:iH):Option (Bool×iH):=some (p1.jh==p2.jh,p2)
def Ns(p1:jr)(p2:iH):Option Bool:=some (p1.jh==p2.jh)
theorem az8(p1:jr)(p2:iH):afj p1 p2=(Ns p1 p2).bind λx=>some (x,p2):=by
  simp only[afj,Ns,fJ,fV,gu,gq,gy,fT,bG,fZ]
def Rp(p1:List jr)(p2:iH)(x1:Int):Nat->Int->Option (Int×iH)|0,_=>none|bg+1,x2=>bif decide (x2<x1) then bE p1 x2 λx3=>(Ns x3 p2).bind λx4=>bif x4 then some (x2,p2) else(Rp p1 p2 x1 bg) (aQ (x2+1)) else some ((-1),p2)
def adV(p1:List jr)(p2:iH):Option (Int×iH):=Rp p1 p2 (p1.length:Int) fuel 0
def XG(p1:List jr)(p2:iH)(x1:Int):Nat->Int->Option Int|0,_=>none|bg+1,x2=>bif decide (x2<x1) then bE p1 x2 λx3=>(Ns x3 p2).bind λx4=>bif x4 then some x2 else(XG p1 p2 x1 bg) (aQ (x2+1)) else some (-1)
theorem amc(p1:List jr)(p2:iH)(x1:Int):∀n:Nat,Rp p1 p2 x1 n=λx2=>(XG p1 p2 x1 n x2).bind (λx=>some (x,p2))
  |0=>rfl
  |n+1=>by
    funext x2
    simp only[Rp,XG,amc p1 p2 x1 n,fJ,fV,gu,gq,gy,fT,bG,fZ]
def XL(p1:List jr)(p2:iH):Option Int:=XG p1 p2 (p1.length:Int) fuel 0
theorem awH(p1:List jr)(p2:iH):adV p1 p2=(XL p1 p2).bind λx=>some (x,p2):=by
  simp only[adV,XL,fJ,fV,gu,gq,gy,fT,bG,fZ,amc]
def adP(adN:(List jr)->Int->Int->Option (List jr×iH))(x1:Int)(x2:List jr)(x3:Int):Option (List jr×iH):=adN x2 x3 (aQ (x1+1))
def XH(p2:iH):Nat->(List jr)->Int->Int->Option (List jr×iH)|0,_,_,_=>none|bg+1,x4,x5,x1=>bif decide (x1<(x4.length:Int)) then bE x4 x1 λx6=>(Ns x6 p2).bind λx7=>bif !x7 then bE x4 x5 λx8=>bF (x4.set (Int.toNat x5) x6) λx9=>adP (XH p2 bg) x1 x9 (aQ (x5+1)) else adP (XH p2 bg) x1 x4 x5 else bq (decide (0<=x5/\x5<=(x4.length:Int)/\(x4.length:Int)<=(x4.length:Int))) (bq (decide ((0+Int.toNat x5)+(Int.toNat (x4.length:Int)-Int.toNat x5)<=x4.length)) (bq (decide (0<=x5/\x5<=(((jQ (0+Int.toNat x5) (Int.toNat (x4.length:Int)-Int.toNat x5) x4 (List.replicate (Int.toNat (x4.length:Int)-Int.toNat x5) (aG:jr))).length:Nat):Int))) (bq (decide (Int.toNat x5<=(jQ (0+Int.toNat x5) (Int.toNat (x4.length:Int)-Int.toNat x5) x4 (List.replicate (Int.toNat (x4.length:Int)-Int.toNat x5) (aG:jr))).length)) (some ((jQ (0+Int.toNat x5) (Int.toNat (x4.length:Int)-Int.toNat x5) x4 (List.replicate (Int.toNat (x4.length:Int)-Int.toNat x5) (aG:jr))).take (Int.toNat x5),p2)))))
def amg(p1:List jr)(p2:iH):Option (List jr×iH):=(XL p1 p2).bind λx10=>bif x10==(-1) then some (p1,p2) else XH p2 fuel p1 x10 (aQ (x10+1))
def Yp(x1:iw):Option (Int×iw):=some (0,x1)
def anu(p1:iw)(p2:iH):Option (Int×iw):=(UO p2).bind λx2=>bif !x2 then some (1,p1) else bif p2.aM==3 then bif decide (p2.mq<=p1.zP) then some (36,p1) else bif decide (16<=(p1.yc.length:Int)) then some (33,p1) else bq (decide ((p1.yc.length+ [(⟨p2.mq,p2.Value⟩:iY)].length)*24<=room)) (Yp (⟨(p1.yc++ [(⟨p2.mq,p2.Value⟩:iY)]),p1.yQ,p2.mq⟩:iw)) else bif p2.aM==4 then(XJ p1.yc p2).bind λx3=>bif decide (x3<0) then some (34,p1) else(amo p1.yc x3 (aQ (x3+1))).bind λx4=>(amg p1.yQ p2).bind λx5=>Yp (⟨x4,x5.1,p1.zP⟩:iw) else Yp p1
def anR(p1:Az)(p2:iH):Option (Int×pz×iw×jq):=(ang p1.wU p2).bind λx1=>bif x1.1 !=0 then some (x1.1,p1.tJ,p1.qA,x1.2) else(anv p1.tJ p2).bind λx2=>bif x2.1 !=0 then some (x2.1,x2.2,p1.qA,x1.2) else(anu p1.qA p2).bind λx3=>some (x3.1,x2.2,x3.2,x1.2)
def anJ(p1:lU)(p2:iH):Option (Int×lU):=(UO p2).bind λx1=>bif !x1 then some (1,p1) else(N9 p1).bind λx2=>(bif !(p2.mq !=aQ (x2+1)) then SX p1 else some aG).bind λx3=>bif p2.mq !=aQ (x2+1)||decide (p2.bN<x3) then some (36,p1) else(anL p1.now).bind λx4=>(anR x4.1 p2).bind λx5=>bif x5.1 !=0 then some (x5.1,{p1 with now:=(⟨x4.2.1,x4.2.2.1,x4.2.2.2⟩:Az)}) else bq (decide ((p1.sH.length+ [p2].length)*80<=room)) (some (0,{p1 with sH:=(p1.sH++ [p2]),now:=(⟨x5.2.1,x5.2.2.1,x5.2.2.2⟩:Az)}))
def afu(p4:lQ)(x1:Int)(x2:lU):Option (kY×lU):=bif x1 !=0 then some ((⟨x1,0,0,ByteArray.empty⟩:kY),x2) else(SB x2.now.wU p4.uK p4.lV).bind λx3=>some (x3.1,x2)
def anK(p1:lU)(p2 p3:Int)(p4:lQ):Option (kY×lU):=(SB p1.now.wU p4.uK p4.lV).bind λx4=>bif x4.2==0 then some (x4.1,p1) else bif x4.2 !=34 then some ((⟨x4.2,0,0,ByteArray.empty⟩:kY),p1) else(N9 p1).bind λx5=>bif decide (4096<=x5) then some ((⟨2,0,0,ByteArray.empty⟩:kY),p1) else(Yj p1 p2 p3 p4).bind λx6=>bif x6.2==0 then(N9 p1).bind λx7=>(anJ p1 (⟨p2,aQ (x7+1),x6.1,p4.uK,p4.lV,p4.jh,p4.uh,p4.Value⟩:iH)).bind λx8=>afu p4 x8.1 x8.2 else afu p4 x6.2 p1
def anr(p1:lU)(p2 p3:Int)(p4:lQ):Option (kY×lU):=(aoK p4).bind λx1=>bif((!x1||p4.aI !=p1.vH)||decide (p3<0))||decide (1073741824<p3) then some ((⟨1,0,0,ByteArray.empty⟩:kY),p1) else(Yy p1.qd p2 p3).bind λx2=>(bif !(!x2.2) then SX p1 else some aG).bind λx3=>bif !x2.2||decide (x2.1<x3) then some ((⟨30,0,0,ByteArray.empty⟩:kY),p1) else bif p4.Op==1 then(NW p1.now.tJ p4.uh).bind λx4=>bif !x4.2.2 then some ((⟨34,0,0,ByteArray.empty⟩:kY),p1) else some ((⟨0,x4.2.1,0,x4.1⟩:kY),p1) else bif p4.Op==5 then none else(anK p1 x2.1 p3 p4).bind λx5=>some (x5.1,x5.2)
def Rt(p1:(List aP)):Option (List aP):=bq (decide ((([]:List aP).length+p1.length)*72<=room)) (some (([]:List aP)++p1))
def aey(p1:bP):Option (List aP×bP):=(Rt p1.kW).bind λx1=>some (x1,iE p1)
def y7(p1:bP):Option (List aP):=(Rt p1.kW).bind λx1=>some x1
theorem axU(p1:bP):aey p1=(y7 p1).bind λx=>some (x,iE p1):=by
  simp only[aey,y7,fJ,fV,gu,gq,gy,fT,bG,fZ]
def afe(p1:bO):Option (List aP×bO):=(y7 (iE p1.bn)).bind λx1=>some (x1,iL p1)
def Fw(p1:bO):Option (List aP):=(y7 (iE p1.bn)).bind λx1=>some x1
theorem az2(p1:bO):afe p1=(Fw p1).bind λx=>some (x,iL p1):=by
  simp only[afe,Fw,fJ,fV,gu,gq,gy,fT,bG,fZ]
def IJ(p1:aN)(p2 x1:List aP)(x2:Int):Nat->aO->Int->Option (aO×Int×Int)|0,_,_=>none|bg+1,x3,x4=>bif decide (x4<x2) then bE x1 x4 λx5=>(BQ p1 x3 x5).bind λx6=>bif x6.2 !=0 then some (x3,x4,x6.2) else(IJ p1 p2 x1 x2 bg) x6.1 (aQ (x4+1)) else some (x3,(p2.length:Int),0)
def UW(p1:aN)(p2:List aP):Option (aO×Int×Int):=(O8 p1).bind λx7=>IJ p1 p2 p2 (p2.length:Int) fuel x7 0
def afV(afm:(List iM)->Int->Option (List iM))(x1:Int)(x2:List iM):Option (List iM):=afm x2 (aQ (x1+1))
def YI(p2:aP)(x3:Int):Nat->(List iM)->Int->Option (List iM)|0,_,_=>none|bg+1,x4,x1=>bif decide (x1<x3) then bE x4 x1 λx5=>bif x5.aI==p2.aI then bE x4 x1 λx6=>bF (x4.set (Int.toNat x1) {x6 with dn:={x6.dn with bV:=je x6.dn.bV (aQ (p2.bf+1))}}) λx7=>bF (x7.getD (Int.toNat x1) aG) λx8=>bF (x7.set (Int.toNat x1) {x8 with dn:={x8.dn with From:=je x8.dn.From x8.dn.bV}}) λx9=>afV (YI p2 x3 bg) x1 x9 else afV (YI p2 x3 bg) x1 x4 else some x4
def an0(p1:List iM)(p2:aP):Option (List iM):=YI p2 (p1.length:Int) fuel p1 0
def ae9(p1:iM):Option Bool:=some (p1.dn.From==p1.dn.bV)
def adT(p1:List iM)(x1:Int):Nat->Int->Option Int|0,_=>none|bg+1,x2=>bif decide (x2<x1) then bE p1 x2 λx3=>(ae9 x3).bind λx4=>bif x4 then some x2 else(adT p1 x1 bg) (aQ (x2+1)) else some (-1)
def amk(p1:(List iM)):Option Int:=adT p1 (p1.length:Int) fuel 0
def adQ(adO:(List iM)->Int->Int->Option (List iM))(x1:Int)(x2:List iM)(x3:Int):Option (List iM):=adO x2 x3 (aQ (x1+1))
def XK:Nat->(List iM)->Int->Int->Option (List iM)|0,_,_,_=>none|bg+1,x4,x5,x1=>bif decide (x1<(x4.length:Int)) then bE x4 x1 λx6=>(ae9 x6).bind λx7=>bif !x7 then bE x4 x5 λx8=>bF (x4.set (Int.toNat x5) x6) λx9=>adQ (XK bg) x1 x9 (aQ (x5+1)) else adQ (XK bg) x1 x4 x5 else bq (decide (0<=x5/\x5<=(x4.length:Int)/\(x4.length:Int)<=(x4.length:Int))) (bq (decide ((0+Int.toNat x5)+(Int.toNat (x4.length:Int)-Int.toNat x5)<=x4.length)) (bq (decide (0<=x5/\x5<=(((jQ (0+Int.toNat x5) (Int.toNat (x4.length:Int)-Int.toNat x5) x4 (List.replicate (Int.toNat (x4.length:Int)-Int.toNat x5) (aG:iM))).length:Nat):Int))) (bq (decide (Int.toNat x5<=(jQ (0+Int.toNat x5) (Int.toNat (x4.length:Int)-Int.toNat x5) x4 (List.replicate (Int.toNat (x4.length:Int)-Int.toNat x5) (aG:iM))).length)) (some ((jQ (0+Int.toNat x5) (Int.toNat (x4.length:Int)-Int.toNat x5) x4 (List.replicate (Int.toNat (x4.length:Int)-Int.toNat x5) (aG:iM))).take (Int.toNat x5))))))
def ami(p1:(List iM)):Option (List iM):=(amk p1).bind λx10=>bif x10==(-1) then some p1 else XK fuel p1 x10 (aQ (x10+1))
def afa(p1 p2:iM):Option Int:=(cmp_Compare_int p1.aI p2.aI).bind λx1=>(cmp_Compare_int p1.gQ p2.gQ).bind λx2=>(KV [x1,x2]).bind λx3=>some x3
def amI(p1:(List iM)):Option (List iM):=Wu (λx y=>afa x y) p1
def Yl(aeB:(List iM)->Int->Option (List iM))(x1:Int)(x2:List iM):Option (List iM):=aeB x2 (aQ (x1+1))
def Sr(x3:List aP)(x4:Int):Nat->(List iM)->Int->Option (List iM)|0,_,_=>none|bg+1,x5,x1=>bif decide (x1<x4) then bE x3 x1 λx6=>bif x6.aM==2 then bq (decide ((x5.length+ [(⟨x6.aI,x1,⟨x6.aK,x6.bN,x6.N,x6.From,x6.bV⟩⟩:iM)].length)*56<=room)) (Yl (Sr x3 x4 bg) x1 (x5++ [(⟨x6.aI,x1,⟨x6.aK,x6.bN,x6.N,x6.From,x6.bV⟩⟩:iM)])) else bif x6.aM==3 then(an0 x5 x6).bind λx7=>Yl (Sr x3 x4 bg) x1 x7 else Yl (Sr x3 x4 bg) x1 x5 else(ami x5).bind λx8=>(amI x8).bind λx9=>some x9
def anq(p1:aN)(p2:List aP):Option (List iM):=(UW p1 p2).bind λx10=>bq (decide (0<=x10.2.1/\x10.2.1<=(p2.length:Int))) (Sr (p2.take (Int.toNat x10.2.1)) (((p2.take (Int.toNat x10.2.1)).length:Nat):Int) fuel ([]:List iM) 0)
def anh(p1:iD)(p2:Int):Option Bool:=some (decide (p1.From<=p2)&&decide (p2<p1.bV))
def ae8(p3 p4:Int)(x1:List iM)(x2:Int):Nat->Int->Option (iM×Bool)|0,_=>none|bg+1,x3=>bif decide (x3<x2) then bE x1 x3 λx4=>(bif x4.aI==p3 then anh x4.dn p4 else some aG).bind λx5=>bif x4.aI==p3&&x5 then some (x4,true) else(ae8 p3 p4 x1 x2 bg) (aQ (x3+1)) else some ((⟨0,0,⟨0,0,0,0,0⟩⟩:iM),false)
def anw(p1:aN)(p2:List aP)(p3 p4:Int):Option (iM×Bool):=(anq p1 p2).bind λx1=>ae8 p3 p4 x1 (x1.length:Int) fuel 0
def Ut(x1:Bool)(x2:wP):Option Bool:=bif x1 then some false else(anQ x2 0).bind λx3=>(anr ((x3.copies.getD 0 aG).getD 0 aG) 0 3 (⟨0,1,1,2,0,ByteArray.mk #[97],ByteArray.mk #[98]⟩:lQ)).bind λx4=>(Fw (iL x3.p)).bind λx5=>(anw x3.c x5 0 3).bind λx6=>some (((x4.1.uS==0&&x4.1.mq==1)&&x6.2)&&x6.1.dn.aK==0)
def O9:Option Bool:=arJ.bind λx7=>(ap4 x7).bind λx8=>bif false then bif true then Ut true {x8 with p:=iL x8.p,copies:=[[(x8.copies.getD 0 aG).getD 0 aG,(x8.copies.getD 0 aG).getD 1 aG]]}else(YT {x8 with p:=iL x8.p,copies:=[[(x8.copies.getD 0 aG).getD 0 aG,(x8.copies.getD 0 aG).getD 1 aG]]} (⟨2,0,0,0,(-1),1,0,20,0⟩:aP)).bind λx9=>Ut (!x9.1) {x9.2 with p:=iL x9.2.p,copies:=[[(x9.2.copies.getD 0 aG).getD 0 aG,(x9.2.copies.getD 0 aG).getD 1 aG]]} else(YT {x8 with p:=iL x8.p,copies:=[[(x8.copies.getD 0 aG).getD 0 aG,(x8.copies.getD 0 aG).getD 1 aG]]} (⟨1,0,0,0,1,0,0,0,0⟩:aP)).bind λx10=>bif !x10.1 then Ut true {x10.2 with p:=iL x10.2.p,copies:=[[(x10.2.copies.getD 0 aG).getD 0 aG,(x10.2.copies.getD 0 aG).getD 1 aG]]}else(YT {x10.2 with p:=iL x10.2.p,copies:=[[(x10.2.copies.getD 0 aG).getD 0 aG,(x10.2.copies.getD 0 aG).getD 1 aG]]} (⟨2,0,0,0,(-1),1,0,20,0⟩:aP)).bind λbQ=>Ut (!bQ.1) {bQ.2 with p:=iL bQ.2.p,copies:=[[(bQ.2.copies.getD 0 aG).getD 0 aG,(bQ.2.copies.getD 0 aG).getD 1 aG]]}
def DR(p1:(List Int)):Option Bool:=some (decide ((p1.length:Int)<=200))
def Vj(p1:(List Int)):Option eP:=some (⟨p1,0⟩:eP)
def lZ(p1:eP)(p2:Int):Option (Int×eP):=bif(p1.L.length:Int)==0 then some (0,p1) else bq (decide ((p1.L.length:Int)≠(0:Int))) (bE p1.L (Int.tmod p1.At (p1.L.length:Int)) λx1=>bq (decide ((p1.L.length:Int)≠(0:Int))) ((Gc x1 1073741824).bind λx2=>(Gc (aQ (x2+(aQ ((aQ (Int.tdiv p1.At (p1.L.length:Int)))*7)))) p2).bind λx3=>some (x3,{p1 with At:=aQ (p1.At+1)})))
def Zy(p1 p2 p3:Int):Option Int:=(Gc p1 (aQ ((aQ (p3-p2))+1))).bind λx1=>some (aQ (p2+x1))
def zf(p1:eP)(p2 p3:Int):Option (Int×eP):=(lZ p1 (aQ ((aQ (p3-p2))+1))).bind λx1=>some (aQ (p2+x1.1),x1.2)
def qM(p1:eP)(p2:Int):Option (Bool×eP):=(lZ p1 p2).bind λx1=>some (x1.1==0,x1.2)
def TD(afQ:eP->aN->Int->Option aN)(x1:aN)(x2:Int)(x3:eP)(x4:iq):Option aN:=bq (decide ((x1.aH.length+ [x4].length)*56<=room)) (afQ x3 {x1 with aH:=(x1.aH++ [x4]),fD:=([]:List ji),dh:=([]:List Int),jX:=([]:List Int)} (aQ (x2-1)))
def TF:Nat->eP->aN->Int->Option aN|0,_,_,_=>none|bg+1,x5,x6,x7=>bif decide (0<x7) then(lZ x5 (x6.iO.length:Int)).bind λx8=>bq (decide ((x6.jX.length+ [x8.1].length)*8<=room)) ((TF bg) x8.2 {x6 with jX:=(x6.jX++ [x8.1])} (aQ (x7-1))) else some x6
def TG:Nat->eP->aN->Int->Option aN|0,_,_,_=>none|wz+1,x9,x10,bQ=>bif decide (0<bQ) then(lZ x9 (x10.iO.length:Int)).bind λbR=>bq (decide ((x10.dh.length+ [bR.1].length)*8<=room)) ((TG wz) bR.2 {x10 with dh:=(x10.dh++ [bR.1]),jX:=([]:List Int)} (aQ (bQ-1))) else(zf x9 1 4).bind λdz=>TF fuel dz.2 {x10 with jX:=([]:List Int)} dz.1
def TH:Nat->eP->aN->Int->Option aN|0,_,_,_=>none|MI+1,fq,fA,gT=>bif decide (0<gT) then(lZ fq 2).bind λiG=>(lZ iG.2 3).bind λx18=>bq (decide ((fA.fD.length+ [(⟨iG.1,aQ (iG.1+x18.1)⟩:ji)].length)*16<=room)) ((TH MI) x18.2 {fA with fD:=(fA.fD++ [(⟨iG.1,aQ (iG.1+x18.1)⟩:ji)]),dh:=([]:List Int),jX:=([]:List Int)} (aQ (gT-1))) else(lZ fq 2).bind λmD=>TG fuel mD.2 {fA with dh:=([]:List Int),jX:=([]:List Int)} (aQ ((aQ (2*mD.1))+1))
def KD:Nat->eP->aN->Int->Option aN|0,_,_,_=>none|fu4+1,x20,x1,x2=>bif decide (0<x2) then(zf x20 1 12).bind λx21=>(lZ x21.2 (aQ (x21.1+1))).bind λog=>(lZ og.2 4).bind λx23=>(zf x23.2 (-1) 3).bind λx24=>bq (decide ((0:Int)<=IntKind.u64.wrap x1.gH)) ((lZ x24.2 3).bind λx25=>(qM x25.2 4).bind λqL=>(qM qL.2 4).bind λx27=>bif x27.1 then bq (decide ((0:Int)<=IntKind.u64.wrap x1.gH)) ((zf x27.2 1 (aQ ((iV .i64 1 (IntKind.u64.wrap x1.gH))-1))).bind λx28=>TD (KD fu4) x1 x2 x28.2 (⟨x21.1,og.1,x23.1,x24.1,x28.1,x25.1,qL.1⟩:iq)) else TD (KD fu4) x1 x2 x27.2 (⟨x21.1,og.1,x23.1,x24.1,aQ ((iV .i64 1 (IntKind.u64.wrap x1.gH))-1),x25.1,qL.1⟩:iq)) else(lZ x20 3).bind λx29=>(lZ x29.2 3).bind λx30=>TH fuel x30.2 {x1 with fD:=[(⟨0,x29.1⟩:ji)],dh:=([]:List Int),jX:=([]:List Int)} x30.1
def TI:Nat->eP->aN->Int->Option aN|0,_,_,_=>none|fu5+1,x31,x32,Aj=>(bif !(decide (Aj<(x32.iO.length:Int))) then qM x31 2 else some (aG,x31)).bind λx34=>bif decide (Aj<(x32.iO.length:Int))||x34.1&&decide (Aj<7) then bq (decide ((x32.iO.length:Int)≠(0:Int))) ((zf x34.2 1 4).bind λDl=>bq (decide ((x32.aJ.length+ [(⟨Int.tmod Aj (x32.iO.length:Int),aQ (Dl.1*10)⟩:jy)].length)*16<=room)) ((TI fu5) Dl.2 {x32 with aJ:=(x32.aJ++ [(⟨Int.tmod Aj (x32.iO.length:Int),aQ (Dl.1*10)⟩:jy)]),aH:=([]:List iq),fD:=([]:List ji),dh:=([]:List Int),jX:=([]:List Int)} (aQ (Aj+1)))) else(lZ x34.2 6).bind λDm=>KD fuel Dm.2 {x32 with aH:=([]:List iq),fD:=([]:List ji),dh:=([]:List Int),jX:=([]:List Int)} Dm.1
def TJ:Nat->eP->aN->Int->Option aN|0,_,_,_=>none|fu6+1,BA,x38,x39=>(bif !(decide (x39<x38.gH)) then qM BA 3 else some (aG,BA)).bind λx40=>bif decide (x39<x38.gH)||x40.1&&decide (x39<6) then bq (decide (x38.gH≠(0:Int))) (bq (decide ((x38.iO.length+ [(⟨Int.tmod x39 x38.gH⟩:jC)].length)*8<=room)) ((TJ fu6) x40.2 (⟨x38.gH,(x38.iO++ [(⟨Int.tmod x39 x38.gH⟩:jC)]),([]:List jy),([]:List iq),([]:List ji),([]:List Int),([]:List Int),x38.ou,x38.iC,x38.oW⟩:aN) (aQ (x39+1)))) else TI fuel x40.2 {x38 with aJ:=([]:List jy),aH:=([]:List iq),fD:=([]:List ji),dh:=([]:List Int),jX:=([]:List Int)} 0
def KR(p1:(List Int)):Option aN:=(Vj p1).bind λx41=>(lZ x41 5).bind λx42=>(Zy (aQ (x42.1+1)) 1 3).bind λx43=>(zf x42.2 1 3).bind λx44=>(zf x44.2 2 12).bind λx45=>(lZ x45.2 9).bind λx46=>TJ fuel x46.2 (⟨x43,([]:List jC),([]:List jy),([]:List iq),([]:List ji),([]:List Int),([]:List Int),x44.1,x45.1,x46.1⟩:aN) 0
def Uo(p1:aN):Nat->aO->Int->Option aO|0,_,_=>none|bg+1,x1,x2=>bif decide (x2<(p1.aJ.length:Int)) then bq (decide ((x1.aJ.length+ [(⟨1,0,0,0⟩:gG)].length)*32<=room)) ((Uo p1 bg) {x1 with aJ:=(x1.aJ++ [(⟨1,0,0,0⟩:gG)])} (aQ (x2+1))) else some x1
def Uq(p1:aN):Nat->aO->Int->Option aO|0,_,_=>none|wz+1,x3,x4=>bif decide (x4<(p1.aH.length:Int)) then bq (decide ((x3.aH.length+ [(⟨false,false,(-1),(-1),(-1),(-1),0,⟨(-1),0,0,0,0⟩⟩:bI)].length)*88<=room)) ((Uq p1 wz) {x3 with aH:=(x3.aH++ [(⟨false,false,(-1),(-1),(-1),(-1),0,⟨(-1),0,0,0,0⟩⟩:bI)]),aJ:=([]:List gG)} (aQ (x4+1))) else Uo p1 fuel {x3 with aJ:=([]:List gG)} 0
def aax(p1:aN):Option aO:=Uq p1 fuel (⟨0,0,([]:List bI),([]:List gG),1,0,0,0⟩:aO) 0
def agu(p1:eP):Option (Bool×eP):=some (decide (p1.At<(p1.L.length:Int)),p1)
def K6(p1 p2:Int):Option aP:=some (⟨p1,p2,(-1),(-1),(-1),0,0,0,0⟩:aP)
def DW(p1 p2:Int):Option Bool:=bq (!(decide (0<=p2)&&decide (p2<62))||decide ((0:Int)<=IntKind.u64.wrap p2)) (bq (!(decide (0<=p2)&&decide (p2<62))||decide (2≠(0:Int))) (some ((decide (0<=p2)&&decide (p2<62))&&Int.tmod (iF .i64 p1 (IntKind.u64.wrap p2)) 2 !=0)))
def Ao(x1:eP)(x2:aP):Option (aP×eP):=some (x2,x1)
def N7(p2:aN)(p3:aO)(p4:Int)(x3:aP)(x4:gG)(x5:eP)(x6 x7:Int)(x8:Bool):Option (aP×eP):=bif x8 then(lZ x5 p2.iC).bind λx9=>Ao x9.2 {x3 with aM:=11,bf:=aQ (p4+x9.1),aK:=x6,N:=x4.iN} else bif x7==8 then(lZ x5 (aQ (p2.oW+1))).bind λx10=>Ao x10.2 {x3 with aM:=12,bf:=aQ (p4+x10.1),N:=x4.fI} else bif x7==9 then(lZ x5 p2.gH).bind λbQ=>(DW p3.d9 bQ.1).bind λbR=>bif bR then Ao bQ.2 {x3 with aM:=13,dx:=bQ.1,N:=0}else Ao bQ.2 {x3 with aM:=13,dx:=bQ.1,N:=1} else bif x7==10 then bif decide (p3.gP<p3.dL) then Ao x5 {x3 with aM:=15}else Ao x5 {x3 with aM:=14} else(lZ x5 100).bind λdz=>Ao dz.2 {x3 with N:=dz.1}
def N8(p2:aN)(p3:aO)(p4:Int)(x3:aP)(x4:gG)(x5:eP)(x6 x7:Int)(fq:Bool):Option (aP×eP):=bif fq then(lZ x5 (p2.fD.length:Int)).bind λfA=>Ao fA.2 {x3 with aM:=10,aK:=x6,N:=fA.1} else bif x7==5 then N7 p2 p3 p4 x3 x4 x5 x6 x7 (x7==5)else bif x7==6 then N7 p2 p3 p4 x3 x4 x5 x6 x7 (x7==6)else N7 p2 p3 p4 x3 x4 x5 x6 x7 (x7==7)
def Zf(p1:eP)(p2:aN)(p3:aO)(p4:Int):Option (aP×eP):=(K6 16 p4).bind λx3=>(lZ p1 (p2.aJ.length:Int)).bind λgT=>bE p3.aJ gT.1 λx4=>(lZ gT.2 12).bind λiG=>bif iG.1==0 then(zf iG.2 1 3).bind λx18=>Ao x18.2 {x3 with aM:=9,aK:=gT.1,N:=x18.1} else bif iG.1==1 then Ao iG.2 {x3 with aM:=9,aK:=gT.1,N:=1}else bif iG.1==2 then N8 p2 p3 p4 x3 x4 iG.2 gT.1 iG.1 (iG.1==2)else bif iG.1==3 then N8 p2 p3 p4 x3 x4 iG.2 gT.1 iG.1 (iG.1==3)else N8 p2 p3 p4 x3 x4 iG.2 gT.1 iG.1 (iG.1==4)
def agK(p1:aN)(p2:Int):Option Int:=bif decide (p2<0)||decide ((p1.aJ.length:Int)<=p2) then some (-1) else bE p1.aJ p2 λx1=>some x1.tN
def KE(p1:aN)(p2:Int):Option Int:=(agK p1 p2).bind λx1=>bif decide (x1<0) then some (-1) else bE p1.iO x1 λx2=>some x2.Region
def F9(p1:aN)(p2 p3:Int):Option Bool:=qH (decide (0<=p2)&&decide (p2<(p1.aH.length:Int))) p1.aH p2 λx1=>(bif decide (0<=p2)&&decide (p2<(p1.aH.length:Int)) then KE p1 p3 else some aG).bind λx2=>(bif decide (0<=p2)&&decide (p2<(p1.aH.length:Int)) then DW x1.BS x2 else some aG).bind λx3=>some ((decide (0<=p2)&&decide (p2<(p1.aH.length:Int)))&&x3)
def Y2(afR:(List Int)->Int->Option (List Int))(x1:Int)(x2:List Int):Option (List Int):=afR x2 (aQ (x1+1))
def Oq(p1:aN)(p2:Int):Nat->(List Int)->Int->Option (List Int)|0,_,_=>none|bg+1,x3,x1=>bif decide (x1<(p1.aJ.length:Int)) then(F9 p1 p2 x1).bind λx4=>bif x4 then bq (decide ((x3.length+ [x1].length)*8<=room)) (Y2 (Oq p1 p2 bg) x1 (x3++ [x1])) else Y2 (Oq p1 p2 bg) x1 x3 else some x3
def UH(p1:aN)(p2:Int):Option (List Int):=Oq p1 p2 fuel ([]:List Int) 0
def K7(p1:eP)(p2:List Int):Option (Int×eP):=bif(p2.length:Int)==0 then some ((-1),p1) else(lZ p1 (p2.length:Int)).bind λx1=>bE p2 x1.1 λx2=>some (x2,x1.2)
def UG(p1:aN)(p2 p3:Int):Option Bool:=(KE p1 p2).bind λx1=>(KE p1 p3).bind λx2=>some ((decide (0<=x1)&&decide (0<=x2))&&x1 !=x2)
def YG(ae0:(List Int)->Int->Option (List Int))(x1:Int)(x2:List Int):Option (List Int):=ae0 x2 (aQ (x1+1))
def NV(p1:aN)(p2 p3:Int):Nat->(List Int)->Int->Option (List Int)|0,_,_=>none|bg+1,x3,x1=>bif decide (x1<(p1.aJ.length:Int)) then(F9 p1 p2 x1).bind λx4=>(bif x4 then UG p1 p3 x1 else some aG).bind λx5=>bif x4&&x5 then bq (decide ((x3.length+ [x1].length)*8<=room)) (YG (NV p1 p2 p3 bg) x1 (x3++ [x1])) else YG (NV p1 p2 p3 bg) x1 x3 else some x3
def TL(p1:aN)(p2 p3:Int):Option (List Int):=NV p1 p2 p3 fuel ([]:List Int) 0
def Ze(x1:eP)(x2:aP):Option (aP×eP):=some (x2,x1)
def Ud(p2:aN)(p3:aO)(x3:eP)(x4:aP):Option (aP×eP):=(zf x3 1 p2.iC).bind λx5=>bE p3.aJ x4.aK λx6=>(qM x5.2 15).bind λx7=>bif x7.1 then(lZ x7.2 30).bind λx8=>Ze x8.2 {x4 with From:=jE 0 (aQ (x4.From-1)),bV:=aQ ((aQ (x4.From+x5.1))+x8.1),N:=x6.fI} else Ze x7.2 {x4 with bV:=aQ (x4.From+x5.1),N:=x6.fI}
def Ue(p2:aN)(p3:aO)(x9:bI)(x10:eP)(bQ:aP):Option (aP×eP):=(qM x10 5).bind λbR=>bif bR.1 then(lZ bR.2 3).bind λdz=>Ud p2 p3 dz.2 {bQ with From:=aQ ((jE bQ.bf x9.dn.bV)+dz.1)} else Ud p2 p3 bR.2 {bQ with From:=jE bQ.bf x9.dn.bV}
def Uf(p2:aN)(p3:aO)(x9:bI)(fq:eP)(fA:aP):Option (aP×eP):=(bif fA.aK !=x9.bC then lZ fq 4 else some (aG,fq)).bind λgT=>bif fA.aK !=x9.bC&&decide (0<gT.1) then Ue p2 p3 x9 gT.2 {fA with bf:=jE fA.bf x9.dn.bV}else Ue p2 p3 x9 gT.2 fA
def OB(p2:aN)(p3:aO)(x9:bI)(iG:eP)(x18:aP):Option (aP×eP):=(bif !(x18.aK !=x9.bC||x9.bN==0) then qM iG 4 else some (aG,iG)).bind λmD=>bif(x18.aK !=x9.bC||x9.bN==0)||mD.1 then Uf p2 p3 x9 mD.2 {x18 with bN:=aQ (x9.bN+1)}else Uf p2 p3 x9 mD.2 {x18 with bN:=x9.bN}
def aac(p1:eP)(p2:aN)(p3:aO)(p4:aP):Option (aP×eP):=bE p3.aH p4.aI λx9=>(bif decide (0<=x9.dK) then qM p1 2 else some (aG,p1)).bind λx20=>bif decide (0<=x9.dK)&&x20.1 then OB p2 p3 x9 x20.2 {p4 with aK:=x9.dK}else(bif decide (0<=x9.aT) then qM x20.2 5 else some (aG,x20.2)).bind λx21=>bif decide (0<=x9.aT)&&(x21.1||x9.eX) then OB p2 p3 x9 x21.2 {p4 with aK:=x9.aT}else OB p2 p3 x9 x21.2 {p4 with aK:=x9.bC}
def FV(x1:eP)(x2:aP):Option (aP×eP):=some (x2,x1)
def Uc(p2:aN)(p3:aO)(x3:eP)(x4:Int):Option (aP×eP):=(bif !((p2.aH.length:Int)==0) then qM x3 4 else some (aG,x3)).bind λx5=>bif(p2.aH.length:Int)==0||x5.1 then(Zf x5.2 p2 p3 x4).bind λx6=>some (x6.1,x6.2) else(lZ x5.2 (p2.aH.length:Int)).bind λx7=>bE p3.aH x7.1 λx8=>bif !x8.dN then(K6 1 x4).bind λx9=>(UH p2 x7.1).bind λx10=>(K7 x7.2 x10).bind λbQ=>(TL p2 x7.1 (jE 0 bQ.1)).bind λbR=>(K7 bQ.2 bR).bind λdz=>some ({x9 with aI:=x7.1,aK:=jE 0 bQ.1,dx:=dz.1},dz.2) else(K6 2 x4).bind λfq=>(lZ x7.2 12).bind λfA=>bif fA.1==0 then FV fA.2 {fq with aM:=3,aI:=x7.1,bN:=jE 1 x8.bN}else bif fA.1==1 then(TL p2 x7.1 x8.bC).bind λgT=>(K7 fA.2 gT).bind λiG=>FV iG.2 {fq with aM:=4,aI:=x7.1,aK:=iG.1} else bif fA.1==2 then FV fA.2 {fq with aM:=5,aI:=x7.1,aK:=jE 0 x8.Next}else bif fA.1==3 then(UH p2 x7.1).bind λx18=>(K7 fA.2 x18).bind λmD=>FV mD.2 {fq with aM:=6,aI:=x7.1,aK:=jE 0 mD.1} else bif fA.1==4 then FV fA.2 {fq with aM:=7,aI:=x7.1}else bif fA.1==5 then bif x8.eX then FV fA.2 {fq with aM:=8,aI:=x7.1,N:=0}else FV fA.2 {fq with aM:=8,aI:=x7.1,N:=1} else(aac fA.2 p2 p3 {fq with aI:=x7.1}).bind λx20=>some (x20.1,x20.2)
def Z9(p1:eP)(p2:aN)(p3:aO):Option (aP×eP):=(lZ p1 4).bind λx21=>(qM x21.2 20).bind λog=>bif og.1 then Uc p2 p3 og.2 (jE 0 (aQ (p3.bf-1)))else Uc p2 p3 og.2 (aQ (p3.bf+x21.1))
def wH(p1 p2 p3:Int):Option Bool:=some (decide (p2<=p1)&&decide (p1<=p3))
def ahh(p1:Int):Option ByteArray:=bif decide (p1<1)||decide ((([ByteArray.empty,ByteArray.mk #[116,99,111],ByteArray.mk #[116,99,101,119,118],ByteArray.mk #[116,101],ByteArray.mk #[116,67],ByteArray.mk #[116,99],ByteArray.mk #[116,99],ByteArray.mk #[116],ByteArray.mk #[116,98],ByteArray.mk #[99,109],ByteArray.mk #[99,118],ByteArray.mk #[99,118],ByteArray.mk #[118],ByteArray.mk #[114,98],ByteArray.empty,ByteArray.empty,ByteArray.mk #[110]].length:Nat):Int)<=p1) then some (ByteArray.mk #[63]) else bE [ByteArray.empty,ByteArray.mk #[116,99,111],ByteArray.mk #[116,99,101,119,118],ByteArray.mk #[116,101],ByteArray.mk #[116,67],ByteArray.mk #[116,99],ByteArray.mk #[116,99],ByteArray.mk #[116],ByteArray.mk #[116,98],ByteArray.mk #[99,109],ByteArray.mk #[99,118],ByteArray.mk #[99,118],ByteArray.mk #[118],ByteArray.mk #[114,98],ByteArray.empty,ByteArray.empty,ByteArray.mk #[110]] p1 λx1=>some x1
def Zz(p2:Int)(x1:ByteArray):Nat->Int->Option Bool|0,_=>none|bg+1,x2=>bif decide (x2<((x1.size:Nat):Int)) then bq (decide (0<=x2/\x2<((x1.size:Nat):Int))) (bif VP x1 x2==p2 then some true else(Zz p2 x1 bg) (aQ (x2+1))) else some false
def rJ(p1 p2:Int):Option Bool:=(ahh p1).bind λx1=>Zz p2 x1 fuel 0
def Tw(x1:Bool):Option Bool:=bif x1 then some false else some true
def Tx(p1:aP)(p3 p4 x2:Int)(x3:Bool):Option Bool:=bif x3 then some false else(rJ x2 111).bind λx4=>(bif x4 then wH p1.dx (-1) (aQ (p3-1))else some aG).bind λx5=>bif x4&&(!x5||p1.dx==p1.aK) then Tw (x4&&(!x5||p1.dx==p1.aK))else(rJ x2 114).bind λx6=>(bif x6 then wH p1.dx 0 (aQ (p4-1))else some aG).bind λx7=>bif x6&&!x7 then Tw (x6&&!x7)else(rJ x2 111).bind λx8=>(bif !x8 then rJ x2 114 else some aG).bind λx9=>Tw ((!x8&&!x9)&&p1.dx !=(-1))
def OL(p1:aP)(p2 p3 p4:Int):Option Bool:=(rJ p1.aM 116).bind λx10=>(bif !(!(x10==(p1.aI !=(-1)))) then rJ p1.aM 116 else some aG).bind λbQ=>(bif !(!(x10==(p1.aI !=(-1))))&&bQ then wH p1.aI 0 (aQ (p2-1))else some aG).bind λbR=>bif !(x10==(p1.aI !=(-1)))||bQ&&!bR then some false else(rJ p1.aM 99).bind λdz=>(bif dz then wH p1.aK 0 (aQ (p3-1))else some aG).bind λfq=>bif dz&&!fq then Tx p1 p3 p4 p1.aM (dz&&!fq)else(rJ p1.aM 67).bind λfA=>(bif fA then wH p1.aK (-1) (aQ (p3-1))else some aG).bind λgT=>bif fA&&!gT then Tx p1 p3 p4 p1.aM (fA&&!gT)else(rJ p1.aM 99).bind λiG=>(bif !iG then rJ p1.aM 67 else some aG).bind λx18=>Tx p1 p3 p4 p1.aM ((!iG&&!x18)&&p1.aK !=(-1))
def Tg(p1:aP)(p2 x1:Int)(x2:Bool):Option Bool:=bif x2 then some false else(rJ x1 118).bind λx3=>bif x3 then(wH p1.N 0 (aQ (p2-1))).bind λx4=>some x4 else(rJ x1 98).bind λx5=>bif x5 then(wH p1.N 0 1).bind λx6=>some x6 else(rJ x1 109).bind λx7=>bif x7 then(wH p1.N 1 3).bind λx8=>some x8 else(rJ x1 110).bind λx9=>bif x9 then(wH p1.N 0 1073741824).bind λx10=>some x10 else some (p1.N==0)
def YL(p1:aP)(p2 x1:Int)(bQ:Bool):Option Bool:=bif bQ then some false else(rJ x1 119).bind λbR=>(bif bR then wH p1.From 0 1073741824 else some aG).bind λdz=>(bif bR&&!(!dz) then wH p1.bV 0 1073741824 else some aG).bind λfq=>bif bR&&(!dz||!fq) then Tg p1 p2 x1 (bR&&(!dz||!fq))else(rJ x1 119).bind λfA=>Tg p1 p2 x1 (!fA&&(p1.From !=0||p1.bV !=0))
def OC(p1:aP)(p2:Int):Option Bool:=(rJ p1.aM 101).bind λgT=>(bif gT then wH p1.bN 1 1048576 else some aG).bind λiG=>bif gT&&!iG then YL p1 p2 p1.aM (gT&&!iG)else(rJ p1.aM 101).bind λx18=>YL p1 p2 p1.aM (!x18&&p1.bN !=0)
def agW(p1:aP)(p2 p3 p4 p5:Int):Option Bool:=(wH p1.aM 1 16).bind λx1=>(bif x1 then wH p1.bf 0 1073741824 else some aG).bind λx2=>(bif x1&&x2 then OL p1 p2 p3 p4 else some aG).bind λx3=>(bif(x1&&x2)&&x3 then OC p1 p5 else some aG).bind λx4=>some (((x1&&x2)&&x3)&&x4)
def OW(p1:aN)(p2:aP):Option Bool:=(agW p2 (je (p1.aH.length:Int) 32) (je (p1.aJ.length:Int) 16) (je p1.gH 4) (je (p1.fD.length:Int) 30)).bind λx1=>some x1
def jM(p1:Int):Option (aO×Int):=some ((⟨0,0,([]:List bI),([]:List gG),0,0,0,0⟩:aO),p1)
def ZB(p1:aO):Option aO:=bq (decide ((([]:List bI).length+p1.aH.length)*88<=room)) (bq (decide ((([]:List gG).length+p1.aJ.length)*32<=room)) (some {p1 with aH:=(([]:List bI)++p1.aH),aJ:=(([]:List gG)++p1.aJ)}))
def KN(p1:aN)(p2:aO)(p3:Int):Option Bool:=(KE p1 p3).bind λx1=>(DW p2.d9 x1).bind λx2=>some x2
def IG(p1:aN)(p2 p3:Int):Option Bool:=(bif decide (0<=p2)&&decide (0<=p3) then UG p1 p2 p3 else some aG).bind λx1=>some ((decide (0<=p2)&&decide (0<=p3))&&!x1)
def Lb(p1:List Int)(p2 p3:Int):Option (List Int):=bif decide (0<=p2)&&decide (p2<(p1.length:Int)) then bE p1 p2 λx1=>bE p1 p2 λx2=>bF (p1.set (Int.toNat p2) (aQ (x1+p3))) λx3=>some x3 else some p1
def YQ(NS:(List Int)->Int->Option (List Int))(x1:Int)(x2:List Int):Option (List Int):=NS x2 (aQ (x1+1))
def YR(NS:(List Int)->Int->Option (List Int))(x1:Int)(x3:bI)(x4:iq)(x5:List Int):Option (List Int):=(Lb x5 x3.aT x4.jA).bind λx6=>(Lb x6 x3.Next x4.jA).bind λx7=>YQ NS x1 x7
def IB(p1:aN)(p2:aO):Nat->(List Int)->Int->Option (List Int)|0,_,_=>none|bg+1,x8,x1=>bif decide (x1<(p2.aH.length:Int)) then bE p2.aH x1 λx3=>bE p1.aH x1 λx4=>bif !x3.dN then YQ (IB p1 p2 bg) x1 x8 else bif !x3.eX then(Lb x8 x3.bC x4.dZ).bind λx9=>(Lb x9 x3.dK x4.dZ).bind λx10=>YR (IB p1 p2 bg) x1 x3 x4 x10 else YR (IB p1 p2 bg) x1 x3 x4 x8 else some x8
def ZA(p1:aN)(p2:aO):Option (List Int):=bq (decide ((0:Int)<=(p1.aJ.length:Int)/\((p1.aJ.length:Int):Int)<=(p1.aJ.length:Int)/\((p1.aJ.length:Int):Int)<=9223372036854775807/\((p1.aJ.length:Int):Int)*8<=140737488355328)) (IB p1 p2 fuel (List.replicate (Int.toNat (p1.aJ.length:Int)) (aG:Int)) 0)
def Zg(af6:(List Int)->Int->Option (List Int))(x1:Int)(x2:List Int):Option (List Int):=af6 x2 (aQ (x1+1))
def KI(p1:aN)(x3:List Int):Nat->(List Int)->Int->Option (List Int)|0,_,_=>none|bg+1,x4,x1=>bif decide (x1<(x3.length:Int)) then bE x3 x1 λx5=>bE p1.aJ x1 λx6=>bif decide (x6.lT<x5) then bq (decide ((x4.length+ [x1].length)*8<=room)) (Zg (KI p1 x3 bg) x1 (x4++ [x1])) else Zg (KI p1 x3 bg) x1 x4 else some x4
def aae(p1:aN)(p2:aO):Option (List Int):=(ZA p1 p2).bind λx3=>KI p1 x3 fuel ([]:List Int) 0
def Ga(p1:aN)(p2:aO):Option (aO×Int):=(aae p1 p2).bind λx1=>bif decide (0<(x1.length:Int)) then some ((⟨0,0,([]:List bI),([]:List gG),0,0,0,0⟩:aO),10) else some (p2,0)
def ZQ(p1:aN)(p2:aO)(p3:aP):Option (aO×Int):=bE p2.aH p3.aI λx1=>bif x1.dN then(jM 4).bind λx2=>some (x2.1,x2.2) else bE p2.aJ p3.aK λx3=>qH (!(x3.gJ !=1)&&decide (0<=p3.dx)) p2.aJ p3.dx λx4=>bif x3.gJ !=1||decide (0<=p3.dx)&&x4.gJ !=1 then(jM 6).bind λx5=>some (x5.1,x5.2) else(KN p1 p2 p3.aK).bind λx6=>(bif !x6&&decide (0<=p3.dx) then KN p1 p2 p3.dx else some aG).bind λx7=>bif x6||decide (0<=p3.dx)&&x7 then(jM 12).bind λx8=>some (x8.1,x8.2) else(F9 p1 p3.aI p3.aK).bind λx9=>(bif !(!x9)&&decide (0<=p3.dx) then F9 p1 p3.aI p3.dx else some aG).bind λx10=>(bif(!(!x9)&&decide (0<=p3.dx))&&!(!x10) then IG p1 p3.aK p3.dx else some aG).bind λbQ=>bif !x9||decide (0<=p3.dx)&&(!x10||bQ) then(jM 11).bind λbR=>some (bR.1,bR.2) else bF (p2.aH.set (Int.toNat p3.aI) {x1 with dN:=true}) λdz=>bF (dz.getD (Int.toNat p3.aI) aG) λfq=>bF (dz.set (Int.toNat p3.aI) {fq with bC:=p3.aK}) λfA=>bF (fA.getD (Int.toNat p3.aI) aG) λgT=>bF (fA.set (Int.toNat p3.aI) {gT with aT:=p3.dx}) λiG=>(Ga p1 {p2 with aH:=iG}).bind λx18=>some (x18.1,x18.2)
def Zi(p1:aN)(p2:aO)(p3:aP):Option Int:=bE p2.aH p3.aI λx1=>bE p2.aJ p3.aK λx2=>bif x2.gJ==3||x2.gJ==2&&!(p3.aK==x1.bC) then some 6 else bif(p3.aK==x1.bC&&p3.bN !=x1.bN)&&p3.bN !=aQ (x1.bN+1)||(!(p3.aK==x1.bC)&&p3.bN !=aQ (x1.bN+1)) then some 7 else bif p3.N !=x2.fI||x2.fI !=x2.iN then some 8 else bif(((decide (p3.From<p3.bf)||decide (aQ (p3.bf+p1.iC)<p3.From))||decide (p3.bV<=p3.From))||decide (p1.iC<aQ (p3.bV-p3.From)))||decide (p3.From<x1.dn.bV) then some 9 else bif !(p3.aK==x1.bC)&&decide (p3.bf<x1.dn.bV) then some 9 else some 0
def TM(p1:aN)(x1:aO):Option (aO×Int):=(Ga p1 x1).bind λx2=>some (x2.1,x2.2)
def ZP(p1:aN)(p2:aO)(p3:aP):Option (aO×Int):=bE p2.aH p3.aI λx3=>bif(!x3.dN||x3.eX&&p3.aK !=x3.aT)then(jM 4).bind λx4=>some (x4.1,x4.2) else bif(p3.aK !=x3.bC&&p3.aK !=x3.aT)&&p3.aK !=x3.dK then(jM 5).bind λx5=>some (x5.1,x5.2) else(Zi p1 p2 p3).bind λx6=>bif x6 !=0 then(jM x6).bind λx7=>some (x7.1,x7.2) else bF (p2.aH.set (Int.toNat p3.aI) {x3 with dn:=(⟨p3.aK,p3.bN,p3.N,p3.From,p3.bV⟩:iD)}) λx8=>bF (x8.getD (Int.toNat p3.aI) aG) λx9=>bF (x8.set (Int.toNat p3.aI) {x9 with bN:=p3.bN}) λx10=>bF (x10.getD (Int.toNat p3.aI) aG) λbQ=>bif p3.aK==bQ.bC then TM p1 {p2 with aH:=x10}else bif p3.aK==bQ.aT then bF (x10.set (Int.toNat p3.aI) {bQ with bC:=p3.aK}) λbR=>bF (bR.getD (Int.toNat p3.aI) aG) λdz=>bF (bR.set (Int.toNat p3.aI) {dz with aT:=(-1)}) λfq=>bF (fq.getD (Int.toNat p3.aI) aG) λfA=>bF (fq.set (Int.toNat p3.aI) {fA with Next:=(-1)}) λgT=>bF (gT.getD (Int.toNat p3.aI) aG) λiG=>bF (gT.set (Int.toNat p3.aI) {iG with dK:=(-1)}) λx18=>bF (x18.getD (Int.toNat p3.aI) aG) λmD=>bF (x18.set (Int.toNat p3.aI) {mD with eX:=false}) λx20=>TM p1 {p2 with aH:=x20} else bF (x10.set (Int.toNat p3.aI) {bQ with bC:=p3.aK}) λx21=>bF (x21.getD (Int.toNat p3.aI) aG) λog=>bF (x21.set (Int.toNat p3.aI) {og with dK:=(-1)}) λx23=>TM p1 {p2 with aH:=x23}
def ahF(p1:iD)(p2:Int):Option iD:=some {p1 with From:=je p1.From (je p1.bV (aQ (p2+1))),bV:=je p1.bV (aQ (p2+1))}
def aay(p1:aO)(p2:aP):Option (aO×Int):=bE p1.aH p2.aI λx1=>bif !x1.dN then(jM 4).bind λx2=>some (x2.1,x2.2) else bif p2.bN !=x1.bN then(jM 7).bind λx3=>some (x3.1,x3.2) else(ahF x1.dn p2.bf).bind λx4=>bF (p1.aH.set (Int.toNat p2.aI) {x1 with dn:=x4}) λx5=>some ({p1 with aH:=x5},0)
def YM(p1:aN)(p2:aO)(p3:aP)(x1:Nat):Option (aO×Int):=bF (p2.aH.getD x1 aG) λx2=>bF (p2.aH.set x1 {x2 with Next:=p3.aK}) λx3=>(Ga p1 {p2 with aH:=x3}).bind λx4=>some (x4.1,x4.2)
def Zk(p1:aN)(p2:aO)(p3:aP):Option (aO×Int):=bE p2.aH p3.aI λx5=>bif !x5.dN then(jM 4).bind λx6=>some (x6.1,x6.2) else bif decide (p3.aK<0) then YM p1 p2 p3 (Int.toNat p3.aI)else bif(p3.aK==x5.bC||p3.aK==x5.aT)||p3.aK==x5.dK then(jM 5).bind λx7=>some (x7.1,x7.2) else bE p2.aJ p3.aK λx8=>bif x8.gJ !=1 then(jM 6).bind λx9=>some (x9.1,x9.2) else(KN p1 p2 p3.aK).bind λx10=>bif x10 then(jM 12).bind λbQ=>some (bQ.1,bQ.2) else(F9 p1 p3.aI p3.aK).bind λbR=>(bif !(!bR) then IG p1 p3.aK x5.bC else some aG).bind λdz=>(bif !(!bR||dz) then IG p1 p3.aK x5.dK else some aG).bind λfq=>bif(!bR||dz)||fq then(jM 11).bind λfA=>some (fA.1,fA.2) else YM p1 p2 p3 (Int.toNat p3.aI)
def ZT(p1:aO)(p2:aP):Option (aO×Int):=bE p1.aH p2.aI λx1=>bif !x1.dN then(jM 4).bind λx2=>some (x2.1,x2.2) else bif p2.aK !=x1.Next then(jM 5).bind λx3=>some (x3.1,x3.2) else bE p1.aJ p2.aK λx4=>bif x4.gJ==3 then(jM 6).bind λx5=>some (x5.1,x5.2) else bF (p1.aH.set (Int.toNat p2.aI) {x1 with aT:=p2.aK}) λx6=>bF (x6.getD (Int.toNat p2.aI) aG) λx7=>bF (x6.set (Int.toNat p2.aI) {x7 with Next:=(-1)}) λx8=>some ({p1 with aH:=x8},0)
def Zj(p1:aN)(p2:aO)(p3:aP):Option (aO×Int):=bE p2.aH p3.aI λx1=>bif(!x1.dN||x1.eX)||decide (0<=x1.dK) then(jM 4).bind λx2=>some (x2.1,x2.2) else bif(p3.aK==x1.bC||p3.aK==x1.aT)||p3.aK==x1.Next then(jM 5).bind λx3=>some (x3.1,x3.2) else bE p2.aJ p3.aK λx4=>bif x4.gJ !=1 then(jM 6).bind λx5=>some (x5.1,x5.2) else(KN p1 p2 p3.aK).bind λx6=>bif x6 then(jM 12).bind λx7=>some (x7.1,x7.2) else(F9 p1 p3.aI p3.aK).bind λx8=>(bif !(!x8) then IG p1 p3.aK x1.aT else some aG).bind λx9=>(bif !(!x8||x9) then IG p1 p3.aK x1.Next else some aG).bind λx10=>bif(!x8||x9)||x10 then(jM 11).bind λbQ=>some (bQ.1,bQ.2) else bF (p2.aH.set (Int.toNat p3.aI) {x1 with dK:=p3.aK}) λbR=>(Ga p1 {p2 with aH:=bR}).bind λdz=>some (dz.1,dz.2)
def Zh(p1:aO)(p2:aP):Option (aO×Int):=bE p1.aH p2.aI λx1=>bif !x1.dN||decide (x1.dK<0) then(jM 4).bind λx2=>some (x2.1,x2.2) else bF (p1.aH.set (Int.toNat p2.aI) {x1 with dK:=(-1)}) λx3=>some ({p1 with aH:=x3},0)
def aah(p1:aN)(p2:aO)(p3:aP):Option (aO×Int):=bE p2.aH p3.aI λx1=>bif p3.N==1 then bif !x1.dN||x1.eX then(jM 4).bind λx2=>some (x2.1,x2.2) else bif decide (p3.bf<x1.dn.bV) then(jM 9).bind λx3=>some (x3.1,x3.2) else bF (p2.aH.set (Int.toNat p3.aI) {x1 with eX:=true}) λx4=>bF (x4.getD (Int.toNat p3.aI) aG) λx5=>bF (x4.set (Int.toNat p3.aI) {x5 with dK:=(-1)}) λx6=>some ({p2 with aH:=x6},0) else bif !x1.eX then(jM 4).bind λx7=>some (x7.1,x7.2) else bE p2.aJ x1.bC λx8=>bif x8.gJ==3 then(jM 6).bind λx9=>some (x9.1,x9.2) else bF (p2.aH.set (Int.toNat p3.aI) {x1 with eX:=false}) λx10=>(Ga p1 {p2 with aH:=x10}).bind λbQ=>some (bQ.1,bQ.2)
def FZ(p1:aO)(p2:Int):Option Bool:=(DW p1.jT p2).bind λx1=>some x1
def aaf(p1:aO)(p2:Int):Option Bool:=bE p1.aJ p2 λx1=>(FZ p1 x1.fI).bind λx2=>qH (!(!x2)) p1.aJ p2 λx3=>(bif !(!x2) then FZ p1 x3.iN else some aG).bind λx4=>some (!x2||!x4)
def Zl(af7:Int->Int->Option (aO×Int))(x1 x2:Int):Option (aO×Int):=af7 x2 (aQ (x1+1))
def OE(p1:aN)(p2:aO)(p3:aP)(x3:ji)(x4:Nat):Nat->Int->Int->Option (aO×Int)|0,_,_=>none|bg+1,x5,x1=>bif decide (x1<(p2.aJ.length:Int)) then(bif x1 !=p3.aK then aaf p2 x1 else some aG).bind λx6=>bif x1 !=p3.aK&&x6 then Zl (OE p1 p2 p3 x3 x4 bg) x1 (aQ (x5+1))else Zl (OE p1 p2 p3 x3 x4 bg) x1 x5 else bF (p2.aJ.getD x4 aG) λx7=>bif x7.iN==p3.N then(jM 4).bind λx8=>some (x8.1,x8.2) else bif decide (p2.gP<x3.gP)||decide (x3.dL<p2.dL) then(jM 13).bind λx9=>some (x9.1,x9.2) else(bif p3.N !=x7.fI then FZ p2 p3.N else some aG).bind λx10=>bif(p3.N !=x7.fI&&!x10)&&p2.d9 !=0 then(jM 12).bind λbQ=>some (bQ.1,bQ.2) else(bif p3.N !=x7.fI then FZ p2 p3.N else some aG).bind λbR=>bif(p3.N !=x7.fI&&!bR)&&decide (p1.ou<=x5) then(jM 14).bind λdz=>some (dz.1,dz.2) else bF (p2.aJ.set x4 {x7 with iN:=p3.N}) λfq=>some ({p2 with aJ:=fq},0)
def aai(p1:aN)(p2:aO)(p3:aP):Option (aO×Int):=bE p2.aJ p3.aK λfA=>bE p1.fD p3.N λx3=>OE p1 p2 p3 x3 (Int.toNat p3.aK) fuel 0 0
def OD(p1:aO)(p2:aP)(x1:Nat):Nat->Int->Option (aO×Int)|0,_=>none|bg+1,x2=>bif decide (x2<(p1.aH.length:Int)) then bE p1.aH x2 λx3=>bif x3.dn.aK==p2.aK&&decide (p2.bf<x3.dn.bV) then(jM 9).bind λx4=>some (x4.1,x4.2) else(OD p1 p2 x1 bg) (aQ (x2+1)) else bF (p1.aJ.getD x1 aG) λx5=>bF (p1.aJ.set x1 {x5 with fI:=p2.N}) λx6=>bF (x6.getD x1 aG) λx7=>bF (x6.set x1 {x7 with p9:=p2.bf}) λx8=>some ({p1 with aJ:=x8},0)
def aag(p1:aO)(p2:aP):Option (aO×Int):=bE p1.aJ p2.aK λx9=>bif p2.N !=x9.iN||x9.fI==x9.iN then(jM 4).bind λx10=>some (x10.1,x10.2) else(FZ p1 p2.N).bind λbQ=>bif(!bQ&&p1.d9 !=0)then(jM 12).bind λbR=>some (bR.1,bR.2) else OD p1 p2 (Int.toNat p2.aK) fuel 0
def Ot(p1:aN)(p2:aO)(p3:aP):Nat->Int->Option (aO×Int)|0,_=>none|bg+1,x1=>bif decide (x1<(p2.aJ.length:Int)) then bE p2.aJ x1 λx2=>bif((x2.gJ !=3&&x2.fI==p3.N)&&x2.iN==p3.N)&&decide (p1.oW<=aQ (p3.bf-x2.p9)) then bq (decide ((0:Int)<=IntKind.u64.wrap p3.N)) (some ({p2 with jT:=um .i64 p2.jT (iV .i64 1 (IntKind.u64.wrap p3.N))},0)) else(Ot p1 p2 p3 bg) (aQ (x1+1)) else(jM 15).bind λx3=>some (x3.1,x3.2)
def ZR(p1:aN)(p2:aO)(p3:aP):Option (aO×Int):=(FZ p2 p3.N).bind λx4=>bif x4 then(jM 4).bind λx5=>some (x5.1,x5.2) else Ot p1 p2 p3 fuel 0
def Oh(p1:aN)(p2:aO):Nat->Int->Option (aO×Int)|0,_=>none|bg+1,x1=>bif decide (x1<(p2.aJ.length:Int)) then bE p2.aJ x1 λx2=>bE p1.fD x2.fI λx3=>qH (!(decide (x3.dL<=p2.dL))) p1.fD x2.iN λx4=>bif decide (x3.dL<=p2.dL)||decide (x4.dL<=p2.dL) then(jM 13).bind λx5=>some (x5.1,x5.2) else(Oh p1 p2 bg) (aQ (x1+1)) else some ({p2 with dL:=aQ (p2.dL+1)},0)
def ZE(p1:aN)(p2:aO):Option (aO×Int):=bif decide (p2.gP<p2.dL) then(jM 4).bind λx6=>some (x6.1,x6.2) else bif decide (30<=p2.dL) then(jM 2).bind λx7=>some (x7.1,x7.2) else Oh p1 p2 fuel 0
def FQ(x1:aO):Option (aO×Int):=some (x1,0)
def ZO(p1:aN)(p2:aO)(p3:aP):Option (aO×Int):=(OW p1 p3).bind λx2=>bif !x2 then(jM 1).bind λx3=>some (x3.1,x3.2) else bif decide (4096<=p2.eH) then(jM 2).bind λx4=>some (x4.1,x4.2) else bif decide (p3.bf<p2.bf) then(jM 3).bind λx5=>some (x5.1,x5.2) else(ZB p2).bind λx6=>bif p3.aM==1 then(ZQ p1 {x6 with bf:=p3.bf,eH:=aQ (x6.eH+1)} p3).bind λx7=>some (x7.1,x7.2) else bif p3.aM==2 then(ZP p1 {x6 with bf:=p3.bf,eH:=aQ (x6.eH+1)} p3).bind λx8=>some (x8.1,x8.2) else bif p3.aM==3 then(aay {x6 with bf:=p3.bf,eH:=aQ (x6.eH+1)} p3).bind λx9=>some (x9.1,x9.2) else bif p3.aM==4 then(Zk p1 {x6 with bf:=p3.bf,eH:=aQ (x6.eH+1)} p3).bind λx10=>some (x10.1,x10.2) else bif p3.aM==5 then(ZT {x6 with bf:=p3.bf,eH:=aQ (x6.eH+1)} p3).bind λbQ=>some (bQ.1,bQ.2) else bif p3.aM==6 then(Zj p1 {x6 with bf:=p3.bf,eH:=aQ (x6.eH+1)} p3).bind λbR=>some (bR.1,bR.2) else bif p3.aM==7 then(Zh {x6 with bf:=p3.bf,eH:=aQ (x6.eH+1)} p3).bind λdz=>some (dz.1,dz.2) else bif p3.aM==8 then(aah p1 {x6 with bf:=p3.bf,eH:=aQ (x6.eH+1)} p3).bind λfq=>some (fq.1,fq.2) else bif p3.aM==9 then bE x6.aJ p3.aK λfA=>bif fA.gJ==p3.N then(jM 4).bind λgT=>some (gT.1,gT.2) else bE x6.aJ p3.aK λiG=>bF (x6.aJ.set (Int.toNat p3.aK) {iG with gJ:=p3.N}) λx18=>bE x18 p3.aK λmD=>bF (x18.set (Int.toNat p3.aK) {mD with p9:=p3.bf}) λx20=>FQ {x6 with bf:=p3.bf,eH:=aQ (x6.eH+1),aJ:=x20} else bif p3.aM==10 then(aai p1 {x6 with bf:=p3.bf,eH:=aQ (x6.eH+1)} p3).bind λx21=>some (x21.1,x21.2) else bif p3.aM==11 then(aag {x6 with bf:=p3.bf,eH:=aQ (x6.eH+1)} p3).bind λog=>some (og.1,og.2) else bif p3.aM==12 then(ZR p1 {x6 with bf:=p3.bf,eH:=aQ (x6.eH+1)} p3).bind λx23=>some (x23.1,x23.2) else bif p3.aM==13 then(DW x6.d9 p3.dx).bind λx24=>bif x24==(p3.N==1) then(jM 4).bind λx25=>some (x25.1,x25.2) else bq (decide ((0:Int)<=IntKind.u64.wrap p3.dx)) (FQ {x6 with bf:=p3.bf,eH:=aQ (x6.eH+1),d9:=wm .i64 x6.d9 (iV .i64 1 (IntKind.u64.wrap p3.dx))}) else bif p3.aM==14 then(ZE p1 {x6 with bf:=p3.bf,eH:=aQ (x6.eH+1)}).bind λqL=>some (qL.1,qL.2) else bif p3.aM==15 then bif x6.dL==x6.gP then(jM 4).bind λx27=>some (x27.1,x27.2) else FQ {x6 with bf:=p3.bf,eH:=aQ (x6.eH+1),gP:=x6.dL} else FQ {x6 with bf:=p3.bf,eH:=aQ (x6.eH+1)}
def agS(Y1:eP->aO->(List aP)->Option (List aP))(p2:aN)(x1:aO)(x2:List aP)(x3:eP):Option (List aP):=(Z9 x3 p2 x1).bind λx4=>(ZO p2 x1 x4.1).bind λx5=>bif x5.2==0 then bq (decide ((x2.length+ [x4.1].length)*72<=room)) (Y1 x4.2 x5.1 (x2++ [x4.1])) else Y1 x4.2 x1 x2
def UD(p2:aN)(p3:Int):Nat->eP->aO->(List aP)->Option (List aP)|0,_,_,_=>none|bg+1,x6,x1,x2=>(bif decide ((x2.length:Int)<p3) then agu x6 else some (aG,x6)).bind λx7=>bif decide ((x2.length:Int)<p3)&&x7.1 then agS (UD p2 p3 bg) p2 x1 x2 x7.2 else some x2
def Vi(p1:List Int)(p2:aN)(p3:Int):Option (List aP):=(Vj p1).bind λx8=>(aax p2).bind λx9=>UD p2 p3 fuel x8 x9 ([]:List aP)
def IW(p1:aN)(x1:List aP):Nat->Int->bO->Option bO|0,_,_=>none|bg+1,x2,x3=>bif decide (x2<(x1.length:Int)) then bE x1 x2 λx4=>(Il x3 x4).bind λx5=>bif x5.2.1 !=0 then none else(IW p1 x1 bg) (aQ (x2+1)) (iL x5.2.2) else(pQ x3).bind λx6=>bif(x6.aH.length:Int) !=(p1.aH.length:Int)||(x6.aJ.length:Int) !=(p1.aJ.length:Int) then none else some x3
def Pb(p1:aN)(p2:List Int)(p3:Int):Option bO:=(K9 p1).bind λx7=>bif false||x7.2 !=0 then none else(Vi p2 p1 p3).bind λx1=>IW p1 x1 fuel 0 (iL x7.1)
def UC(p1:aN)(p2:bI)(p3:Int):Option Bool:=(Uy p2).bind λx1=>(bif x1&&decide (0<=p3) then wD p1 p2.bC else some aG).bind λx2=>some ((x1&&decide (0<=p3))&&x2==p3)
def Zd(af5:(List Int)->Int->Option (List Int))(x1:Int)(x2:List Int):Option (List Int):=af5 x2 (aQ (x1+1))
def OA(p1:aN)(p2:aO)(p3 x3:Int):Nat->(List Int)->Int->Option (List Int)|0,_,_=>none|bg+1,x4,x1=>bif decide (x1<x3) then bE p1.aH x1 λx5=>bE p2.aH x1 λx6=>(UC p1 x6 p3).bind λx7=>(bif x7 then OQ p1 x6.bC x6.aT else some aG).bind λx8=>bif x7&&x8 then(I7 x4 x6.aT (aQ (x5.dZ-x5.jA))).bind λx9=>Zd (OA p1 p2 p3 x3 bg) x1 x9 else Zd (OA p1 p2 p3 x3 bg) x1 x4 else some x4
def Z7(p1:aN)(p2:aO)(p3:Int):Option (List Int):=bq (decide ((0:Int)<=(p1.aJ.length:Int)/\((p1.aJ.length:Int):Int)<=(p1.aJ.length:Int)/\((p1.aJ.length:Int):Int)<=9223372036854775807/\((p1.aJ.length:Int):Int)*8<=140737488355328)) ((KX p1 p2).bind λx3=>OA p1 p2 p3 x3 fuel (List.replicate (Int.toNat (p1.aJ.length:Int)) (aG:Int)) 0)
def Z8(p1:aN)(p2:aO)(p3:bI)(p4:Int):Option Bool:=(wD p1 p3.aT).bind λx1=>bif(decide (x1<0)||x1==p4)||decide ((p2.aJ.length:Int)<=p3.aT) then some false else bE p2.aJ p3.aT λx2=>bq (!(x2.gJ==1&&x2.fI==x2.iN)||decide ((0:Int)<=IntKind.u64.wrap x1)) (some ((x2.gJ==1&&x2.fI==x2.iN)&&jd .i64 (iF .i64 p2.d9 (IntKind.u64.wrap x1)) 1==0))
def Te(p1:aN)(p2:aO)(p3 x1:Int):Nat->Int->Option Bool|0,_=>none|bg+1,x2=>bif decide (x2<x1) then bE p2.aH x2 λx3=>(UC p1 x3 p3).bind λx4=>(bif x4 then Z8 p1 p2 x3 p3 else some aG).bind λx5=>bif x4&&!x5 then some false else(Te p1 p2 p3 x1 bg) (aQ (x2+1)) else some true
def NZ(p1:aN)(p2:aO)(p3:Int)(x6 x7:List Int)(x8:List jy)(x9:Int):Nat->Int->Option Bool|0,_=>none|wz+1,x10=>bif decide (x10<x9) then bE x8 x10 λbQ=>(wD p1 x10).bind λbR=>qH (bR !=p3) x6 x10 λdz=>qH (bR !=p3) x7 x10 λfq=>bif bR !=p3&&decide (bQ.lT<aQ (dz+fq)) then some false else(NZ p1 p2 p3 x6 x7 x8 x9 wz) (aQ (x10+1)) else(KX p1 p2).bind λx1=>Te p1 p2 p3 x1 fuel 0
def Ub(p1:aN)(p2:aO)(p3:Int):Option Bool:=bif decide (p3<0)||decide (p1.gH<=p3) then some false else(IX p1 p2).bind λx6=>(Z7 p1 p2 p3).bind λx7=>NZ p1 p2 p3 x6 x7 p1.aJ (p1.aJ.length:Int) fuel 0
def ZW(p1:aN)(p2 p3:Int):Option Bool:=(mX p3 0 (aQ (p1.gH-1))).bind λx1=>bq (!x1||decide ((0:Int)<=IntKind.u64.wrap p3)) (some (x1&&jd .i64 (iF .i64 p2 (IntKind.u64.wrap p3)) 1==1))
def YP(afp:Int->Int->Option Bool)(x1 x2:Int):Option Bool:=afp x2 (aQ (x1+1))
def KA(p1:aN)(p2:Int)(x3:List Int)(x4:Int):Nat->Int->Int->Option Bool|0,_,_=>none|bg+1,x5,x1=>bif decide (x1<x4) then bE x3 x1 λx6=>(NY p1 x6).bind λx7=>(ZW p1 p2 x7).bind λx8=>bif !x8 then YP (KA p1 p2 x3 x4 bg) x1 (aQ (x5+1))else YP (KA p1 p2 x3 x4 bg) x1 x5 else some (decide ((p1.dh.length:Int)<aQ (2*x5)))
def Uk(p1:aN)(p2:Int):Option Bool:=KA p1 p2 p1.dh (p1.dh.length:Int) fuel 0 0
def anB(p1:bO)(p2:Int):Option (Int×bO):=bif decide (p2<0)||decide ((p1.eu.dh.length:Int)<=p2) then some (1,iL p1) else(pq (iL p1) p2).bind λx1=>bif !x1 then some (4,iL p1) else bq (decide ((0:Int)<=p2)) ((Iy (iE p1.bn) (⟨7,p2,0,⟨0,0,0,0,0,0,0,0,0⟩⟩:lS)).bind λx2=>some (0,{p1 with bn:=iE x2.2,up:=Lh .i64 p1.up (iV .i64 1 p2)}))
def NM(Dy:Int->Int->bO->Option (Int×bO))(x1 x2:Int)(x3:bO):Option (Int×bO):=Dy x2 (aQ (x1+1)) x3
def Ik(Dy:Int->Int->bO->Option (Int×bO))(x4 x1:Int)(x5:Bool)(x6:bO):Option (Int×bO):=bif x5 then NM Dy x1 (aQ (x4+1)) x6 else NM Dy x1 x4 x6
def NN(p2:Int)(x7:List Int)(x8:Int):Nat->Int->Int->bO->Option (Int×bO)|0,_,_,_=>none|bg+1,x4,x1,x9=>bif decide (x1<x8) then bE x7 x1 λx10=>bE x9.eu.iO x10 λbQ=>bif bQ.Region==p2 then(anB x9 x1).bind λbR=>Ik (NN p2 x7 x8 bg) x4 x1 (bR.1==0) (iL bR.2) else Ik (NN p2 x7 x8 bg) x4 x1 false x9 else some (x4,x9)
def Tf(p1:bO)(p2:Int):Option (Int×bO):=NN p2 p1.eu.dh (p1.eu.dh.length:Int) fuel 0 0 (iL p1)
def YO(afo:(List Int)->Int->Option (List Int))(x1:Int)(x2:List Int):Option (List Int):=afo x2 (aQ (x1+1))
def FN(p1:aN)(p2 x3:Int):Nat->(List Int)->Int->Option (List Int)|0,_,_=>none|bg+1,x4,x1=>bif decide (x1<x3) then(wD p1 x1).bind λx5=>bif x5==p2 then bq (decide ((x4.length+ [x1].length)*8<=room)) (YO (FN p1 p2 x3 bg) x1 (x4++ [x1])) else YO (FN p1 p2 x3 bg) x1 x4 else some x4
def Uj(p1:aN)(p2:Int):Option (List Int):=FN p1 p2 (p1.aJ.length:Int) fuel ([]:List Int) 0
def Vp(p1 p2:Int):Option aP:=some (⟨p1,p2,(-1),(-1),(-1),0,0,0,0⟩:aP)
def IY(TK:Int->bO->Option (Bool×bO))(x1:Int)(x2:bO):Option (Bool×bO):=TK (aQ (x1+1)) x2
def F4(x3:aO)(x4:List Int):Nat->Int->bO->Option (Bool×bO)|0,_,_=>none|bg+1,x1,x5=>bif decide (x1<(x4.length:Int)) then bE x4 x1 λx6=>qH (!(decide (x6<0))) x4 x1 λx7=>bif decide (x6<0)||decide ((x3.aJ.length:Int)<=x7) then some (false,x5) else(Vp 9 x3.bf).bind λx8=>bE x4 x1 λx9=>bE x4 x1 λx10=>bE x3.aJ x10 λbQ=>bif bQ.gJ !=3 then(Il x5 {x8 with aK:=x9,N:=3}).bind λbR=>bif bR.2.1 !=0 then some (false,iL bR.2.2) else IY (F4 x3 x4 bg) x1 (iL bR.2.2) else IY (F4 x3 x4 bg) x1 x5 else some (true,x5)
def aaX(p1:aN)(p2:bO)(p3:Int):Option (Bool×bO):=(Tf (iL p2) p3).bind λdz=>(pQ (iL dz.2)).bind λx3=>(Uj p1 p3).bind λx4=>F4 x3 x4 fuel 0 (iL dz.2)
def Iw(p1:aN)(p2:aO)(x1:List bI)(x2:Int):Nat->ku->Int->Option ku|0,_,_=>none|bg+1,x3,x4=>bif decide (x4<x2) then bE x1 x4 λx5=>bq (decide ((x3.dQ.length+ [(⟨x5.dN&&!x5.eX,x5.bC,x5.aT,x5.Next,x5.dK⟩:mF)].length)*40<=room)) ((Iw p1 p2 x1 x2 bg) {x3 with dQ:=(x3.dQ++ [(⟨x5.dN&&!x5.eX,x5.bC,x5.aT,x5.Next,x5.dK⟩:mF)]),dM:=([]:List Int)} (aQ (x4+1))) else bq (decide ((0:Int)<=(p1.aJ.length:Int)/\((p1.aJ.length:Int):Int)<=(p1.aJ.length:Int)/\((p1.aJ.length:Int):Int)<=9223372036854775807/\((p1.aJ.length:Int):Int)*8<=140737488355328)) ((IX p1 p2).bind λx6=>bq (decide (0+(List.replicate (Int.toNat (p1.aJ.length:Int)) (aG:Int)).length<=(List.replicate (Int.toNat (p1.aJ.length:Int)) (aG:Int)).length)) (some {x3 with dM:=jQ 0 ((List.replicate (Int.toNat (p1.aJ.length:Int)) (aG:Int)).length) (List.replicate (Int.toNat (p1.aJ.length:Int)) (aG:Int)) x6}))
def YW(p1:aN)(p2:aO):Option ku:=bq (decide (0<=(je (p1.aH.length:Int) (p2.aH.length:Int))/\(je (p1.aH.length:Int) (p2.aH.length:Int))<=(p2.aH.length:Int))) (Iw p1 p2 (p2.aH.take (Int.toNat (je (p1.aH.length:Int) (p2.aH.length:Int)))) (((p2.aH.take (Int.toNat (je (p1.aH.length:Int) (p2.aH.length:Int)))).length:Nat):Int) fuel (⟨p1,p2,([]:List mF),([]:List Int)⟩:ku) 0)
def KG(p1 p2:Int)(p3:aN):Option Int:=bE p3.aH p1 λx1=>bE p3.aH p2 λx2=>(cmp_Compare_int x2.iT x1.iT).bind λx3=>(cmp_Compare_int x2.dZ x1.dZ).bind λx4=>(cmp_Compare_int p1 p2).bind λx5=>(KV [x3,x4,x5]).bind λx6=>some x6
def afs(p1:List Int)(p2:aN):Option (List Int×aN):=(EH (λx y=>KG x y p2) p1).bind λl=>some (l,p2)
def IC(p1:aN)(x1:Int):Nat->(List Int)->Int->Option (List Int)|0,_,_=>none|bg+1,x2,x3=>bif decide (x3<x1) then bq (decide ((x2.length+ [x3].length)*8<=room)) ((IC p1 x1 bg) (x2++ [x3]) (aQ (x3+1))) else(afs x2 p1).bind λx4=>some x4.1
def KP(p1:aN):Option (List Int):=bq (decide ((0:Int)<=0/\(0:Int)<=(p1.aH.length:Int)/\((p1.aH.length:Int):Int)<=9223372036854775807/\((p1.aH.length:Int):Int)*8<=140737488355328)) (IC p1 (p1.aH.length:Int) fuel (List.replicate (Int.toNat 0) (aG:Int)) 0)
def Sc(ael:(List Int)->Int->Option (List Int))(x1:Int)(x2:List Int):Option (List Int):=ael x2 (aQ (x1+1))
def Dx(p1:aN)(p2:aO)(p3:Int)(x3:List Int)(x4:Int):Nat->(List Int)->Int->Option (List Int)|0,_,_=>none|bg+1,x5,x1=>bif decide (x1<x4) then bE x3 x1 λx6=>bif decide (x6<0)||decide ((p2.aH.length:Int)<=x6) then Sc (Dx p1 p2 p3 x3 x4 bg) x1 x5 else bE p2.aH x6 λx7=>(bif x7.dN&&!x7.eX then wD p1 x7.bC else some aG).bind λx8=>bif(x7.dN&&!x7.eX)&&x8==p3 then bq (decide ((x5.length+ [x6].length)*8<=room)) (Sc (Dx p1 p2 p3 x3 x4 bg) x1 (x5++ [x6])) else Sc (Dx p1 p2 p3 x3 x4 bg) x1 x5 else some x5
def Yw(p1:aN)(p2:aO)(p3:Int):Option (List Int):=(KP p1).bind λx3=>Dx p1 p2 p3 x3 (x3.length:Int) fuel ([]:List Int) 0
def Iz(p1:aN)(p2:aO)(p3:Int):Option Bool:=bif(decide (p3<0)||decide ((p1.aJ.length:Int)<=p3))||decide ((p2.aJ.length:Int)<=p3) then some false else bE p2.aJ p3 λx1=>(wD p1 p3).bind λx2=>bq (!((x1.gJ==1&&x1.fI==x1.iN)&&decide (0<=x2))||decide ((0:Int)<=IntKind.u64.wrap x2)) (some (((x1.gJ==1&&x1.fI==x1.iN)&&decide (0<=x2))&&jd .i64 (iF .i64 p2.d9 (IntKind.u64.wrap x2)) 1==0))
def OM(p1 p2:Int)(p3:aN):Option Int:=bE p3.aH p1 λx1=>bE p3.aH p2 λx2=>(cmp_Compare_int x1.iT x2.iT).bind λx3=>bE p3.aH p2 λx4=>bE p3.aH p1 λx5=>(cmp_Compare_int x4.dZ x5.dZ).bind λx6=>(cmp_Compare_int p1 p2).bind λx7=>(KV [x3,x6,x7]).bind λx8=>some x8
def afU(p1:List Int)(p2:aN):Option (List Int×aN):=(EH (λx y=>OM x y p2) p1).bind λl=>some (l,p2)
def aeN(p1:(List Int)):Option (List Int):=bq (decide (p1.length<4611686018427387904)) (some (jV p1))
def Zn(af8:(List Int)->Int->Option (List Int))(x1:Int)(x2:List Int):Option (List Int):=af8 x2 (aQ (x1+1))
def FW(p1:aN)(p2:List Int)(x3:Int):Nat->(List Int)->Int->Option (List Int)|0,_,_=>none|bg+1,x4,x1=>bif decide (x1<x3) then bE p2 x1 λx5=>bif decide (0<=x5)&&decide (x5<(p1.aH.length:Int)) then bq (decide ((x4.length+ [x5].length)*8<=room)) (Zn (FW p1 p2 x3 bg) x1 (x4++ [x5])) else Zn (FW p1 p2 x3 bg) x1 x4 else(afU x4 p1).bind λx6=>(aeN x6.1).bind λx7=>some x7
def KY(p1:aN)(p2:List Int):Option (List Int):=FW p1 p2 (p2.length:Int) fuel ([]:List Int) 0
def XW(ad2:(List Int)->Int->Option (List Int))(x1:Int)(x2:List Int):Option (List Int):=ad2 x2 (aQ (x1+1))
def Fe(p1:ku)(p2 p3:Int)(x3:List mF)(x4:Int):Nat->(List Int)->Int->Option (List Int)|0,_,_=>none|bg+1,x5,x1=>bif decide (x1<x4) then bE x3 x1 λx6=>qH (x6.nT&&x6.lW==p2) p1.eu.aH x1 λx7=>bif(x6.nT&&x6.lW==p2)&&decide (x7.iT<p3) then bq (decide ((x5.length+ [x1].length)*8<=room)) (XW (Fe p1 p2 p3 x3 x4 bg) x1 (x5++ [x1])) else XW (Fe p1 p2 p3 x3 x4 bg) x1 x5 else(KY p1.eu x5).bind λx8=>some x8
def RU(p1:ku)(p2 p3:Int):Option (List Int):=Fe p1 p2 p3 p1.dQ (p1.dQ.length:Int) fuel ([]:List Int) 0
def Ry(p2:Int)(x1:mF)(x2:Int)(x3:List eU):Option (List eU):=bif decide (0<x2) then some ([]:List eU) else bq (decide ((x3.length+ [(⟨2,p2,x1.jF⟩:eU)].length)*24<=room)) (some (x3++ [(⟨2,p2,x1.jF⟩:eU)]))
def Dn(p1:ku)(p2:Int)(x1:mF)(x4:List Int)(x5:Int):Nat->Int->(List eU)->Int->Option (List eU)|0,_,_,_=>none|bg+1,x2,x3,x6=>bif decide (x6<x5) then bE x4 x6 λx7=>bif decide (x2<=0) then Ry p2 x1 x2 x3 else bE p1.eu.aH x7 λx8=>bq (decide ((x3.length+ [(⟨1,x7,x1.jF⟩:eU)].length)*24<=room)) ((Dn p1 p2 x1 x4 x5 bg) (aQ (x2-x8.dZ)) (x3++ [(⟨1,x7,x1.jF⟩:eU)]) (aQ (x6+1))) else Ry p2 x1 x2 x3
def X8(p1:ku)(p2:Int):Option (List eU):=bE p1.dQ p2 λx1=>(bif !(!x1.nT) then Iz p1.eu p1.state x1.jF else some aG).bind λx9=>bif !x1.nT||!x9 then some ([]:List eU) else bE p1.eu.aH p2 λx10=>bE p1.eu.aJ x1.jF λbQ=>bE p1.dM x1.jF λbR=>(RU p1 x1.jF x10.iT).bind λx4=>Dn p1 p2 x1 x4 (x4.length:Int) fuel (aQ ((aQ (x10.dZ-x10.jA))-(aQ (bQ.lT-bR)))) ([]:List eU) 0
def Fq(p1:ku)(p2 p3:Int):Option ku:=bif decide (0<=p2)&&decide (p2<(p1.dM.length:Int)) then bE p1.dM p2 λx1=>bE p1.dM p2 λx2=>bF (p1.dM.set (Int.toNat p2) (aQ (x1+p3))) λx3=>some {p1 with dM:=x3} else some p1
def RB(x1:ku):Option (Bool×ku):=some (true,x1)
def X9(p1:ku)(p2:eU):Option (Bool×ku):=bif((decide (p2.aI<0)||decide ((p1.dQ.length:Int)<=p2.aI))||decide (p2.aK<0))||decide ((p1.dM.length:Int)<=p2.aK) then some (false,p1) else bE p1.eu.aH p2.aI λx2=>bE p1.dQ p2.aI λx3=>bif p2.aM==1 then bif(!x3.nT||x3.lW !=p2.aK)then some (false,p1) else(Fq p1 x3.lW (IntKind.i64.wrap (0-x2.dZ))).bind λx4=>bF (x4.dQ.getD (Int.toNat p2.aI) aG) λx5=>(Fq x4 x5.xW (IntKind.i64.wrap (0-x2.dZ))).bind λx6=>bF (x6.dQ.getD (Int.toNat p2.aI) aG) λx7=>bF (x6.dQ.set (Int.toNat p2.aI) {x7 with nT:=false}) λx8=>bF (x8.getD (Int.toNat p2.aI) aG) λx9=>bF (x8.set (Int.toNat p2.aI) {x9 with xW:=(-1)}) λx10=>RB {x6 with dQ:=x10} else bif p2.aM==2 then(bif !(!x3.nT||x3.jF !=p2.aK) then Iz p1.eu p1.state x3.jF else some aG).bind λbQ=>bif(!x3.nT||x3.jF !=p2.aK)||!bQ then some (false,p1) else(Fq p1 x3.lW (IntKind.i64.wrap (0-x2.dZ))).bind λbR=>bF (bR.dQ.getD (Int.toNat p2.aI) aG) λdz=>(Fq bR dz.xW (IntKind.i64.wrap (0-x2.dZ))).bind λfq=>bF (fq.dQ.getD (Int.toNat p2.aI) aG) λfA=>(Fq fq fA.next (IntKind.i64.wrap (0-x2.jA))).bind λgT=>bF (gT.dQ.getD (Int.toNat p2.aI) aG) λiG=>(Fq gT iG.jF (aQ (x2.dZ-x2.jA))).bind λx18=>bF (x18.dQ.set (Int.toNat p2.aI) (⟨true,p2.aK,(-1),(-1),(-1)⟩:mF)) λmD=>RB {x18 with dQ:=mD} else some (false,p1)
def YJ(Ip:ku->gD->(List Int)->Int->Option (gD×Int))(x1:gD)(x2:Int)(x3:List eU)(x4:ku)(x5:List Int):Option (gD×Int):=bq (decide ((x1.bY.length+x3.length)*24<=room)) (Ip x4 {x1 with bY:=(x1.bY++x3)} x5 (aQ (x2+1)))
def FK(Ip:ku->gD->(List Int)->Int->Option (gD×Int))(x1:gD)(x6:List Int)(x2 x7:Int)(x3:List eU)(x8:Int):Nat->ku->Int->Option (gD×Int)|0,_,_=>none|bg+1,x4,x9=>bif decide (x9<x8) then bE x3 x9 λx10=>(X9 x4 x10).bind λbQ=>(FK Ip x1 x6 x2 x7 x3 x8 bg) bQ.2 (aQ (x9+1)) else bif(x3.length:Int)==0 then bq (decide ((x6.length+ [x7].length)*8<=room)) (YJ Ip x1 x2 x3 x4 (x6++ [x7])) else YJ Ip x1 x2 x3 x4 x6
def FM(YA:ku->gD->Option (gD×Int))(bR:List Int)(dz:Int):Nat->ku->gD->(List Int)->Int->Option (gD×Int)|0,_,_,_,_=>none|wz+1,fq,x1,x6,x2=>bif decide (x2<dz) then bE bR x2 λx7=>(X8 fq x7).bind λx3=>FK (FM YA bR dz wz) x1 x6 x2 x7 x3 (x3.length:Int) fuel fq 0 else bif(x6.length:Int)==(x1.kH.length:Int) then some (x1,0) else YA fq {x1 with kH:=x6}
def S9:Nat->ku->gD->Option (gD×Int)|0,_,_=>none|MI+1,fA,gT=>FM (S9 MI) gT.kH (gT.kH.length:Int) fuel fA gT ([]:List Int) 0
def Ox(p1:aN)(p2:aO)(p3:Int):Option (gD×Int):=bif decide (p3<0)||decide (p1.gH<=p3) then some ((⟨0,([]:List eU),([]:List Int)⟩:gD),1) else(YW p1 p2).bind λiG=>(Yw p1 p2 p3).bind λx18=>S9 fuel iG (⟨p3,([]:List eU),x18⟩:gD)
def YF(aeZ:(List Int)->Int->Option (List Int))(x1:Int)(x2:List Int):Option (List Int):=aeZ x2 (aQ (x1+1))
def FI(p2:Int)(x3:List eU)(x4:Int):Nat->(List Int)->Int->Option (List Int)|0,_,_=>none|bg+1,x5,x1=>bif decide (x1<x4) then bE x3 x1 λx6=>bif x6.aM==p2 then bq (decide ((x5.length+ [x6.aI].length)*8<=room)) (YF (FI p2 x3 x4 bg) x1 (x5++ [x6.aI])) else YF (FI p2 x3 x4 bg) x1 x5 else some x5
def TA(p1:gD)(p2:Int):Option (List Int):=FI p2 p1.bY (p1.bY.length:Int) fuel ([]:List Int) 0
def Oy(p1:gD):Option (List Int):=(TA p1 1).bind λx1=>some x1
def R3(aed:(List Int)->Int->Option (List Int))(x1:Int)(x2:List Int):Option (List Int):=aed x2 (aQ (x1+1))
def Du(p1:aN)(p2:aO)(p3:Int)(x3:List Int)(x4:Int):Nat->(List Int)->Int->Option (List Int)|0,_,_=>none|bg+1,x5,x1=>bif decide (x1<x4) then bE x3 x1 λx6=>bif decide (x6<0)||decide ((p2.aH.length:Int)<=x6) then R3 (Du p1 p2 p3 x3 x4 bg) x1 x5 else bE p2.aH x6 λx7=>(bif x7.dN&&!x7.eX then wD p1 x7.bC else some aG).bind λx8=>bif(x7.dN&&!x7.eX)&&x8==p3 then bq (decide ((x5.length+ [x6].length)*8<=room)) (R3 (Du p1 p2 p3 x3 x4 bg) x1 (x5++ [x6])) else R3 (Du p1 p2 p3 x3 x4 bg) x1 x5 else some x5
def Ym(p1:aN)(p2:aO)(p3:Int):Option (List Int):=(KP p1).bind λx3=>Du p1 p2 p3 x3 (x3.length:Int) fuel ([]:List Int) 0
def Iu(p1:aN)(p2:aO):Nat->jm->Int->Option jm|0,_,_=>none|bg+1,x1,x2=>bif decide (x2<je (p1.aH.length:Int) (p2.aH.length:Int)) then bE p2.aH x2 λx3=>bq (decide ((x1.dQ.length+ [(⟨x3.dN&&!x3.eX,x3.bC,x3.aT,x3.Next,x3.dK⟩:mE)].length)*40<=room)) ((Iu p1 p2 bg) {x1 with dQ:=(x1.dQ++ [(⟨x3.dN&&!x3.eX,x3.bC,x3.aT,x3.Next,x3.dK⟩:mE)]),dM:=([]:List Int)} (aQ (x2+1))) else bq (decide ((0:Int)<=(p1.aJ.length:Int)/\((p1.aJ.length:Int):Int)<=(p1.aJ.length:Int)/\((p1.aJ.length:Int):Int)<=9223372036854775807/\((p1.aJ.length:Int):Int)*8<=140737488355328)) ((IX p1 p2).bind λx4=>bq (decide (0+(List.replicate (Int.toNat (p1.aJ.length:Int)) (aG:Int)).length<=(List.replicate (Int.toNat (p1.aJ.length:Int)) (aG:Int)).length)) (some {x1 with dM:=jQ 0 ((List.replicate (Int.toNat (p1.aJ.length:Int)) (aG:Int)).length) (List.replicate (Int.toNat (p1.aJ.length:Int)) (aG:Int)) x4}))
def Oc(p1:aN)(p2:aO):Option jm:=Iu p1 p2 fuel (⟨p1,p2,([]:List mE),([]:List Int)⟩:jm) 0
def FC(p1:jm)(p2 p3:Int):Option jm:=bif decide (0<=p2)&&decide (p2<(p1.dM.length:Int)) then bE p1.dM p2 λx1=>bE p1.dM p2 λx2=>bF (p1.dM.set (Int.toNat p2) (aQ (x1+p3))) λx3=>some {p1 with dM:=x3} else some p1
def Od(p1:aN)(p2:aO)(p3:Int):Option Bool:=bif(decide (p3<0)||decide ((p1.aH.length:Int)<=p3))||decide ((p2.aH.length:Int)<=p3) then some false else bE p2.aH p3 λx1=>(bif x1.dN&&!x1.eX then Iz p1 p2 x1.aT else some aG).bind λx2=>some ((x1.dN&&!x1.eX)&&x2)
def RQ(x1:jm):Option (Bool×jm):=some (true,x1)
def Sl(p1:jm)(p2:eU):Option (Bool×jm):=bif((decide (p2.aI<0)||decide ((p1.dQ.length:Int)<=p2.aI))||decide (p2.aK<0))||decide ((p1.dM.length:Int)<=p2.aK) then some (false,p1) else bE p1.eu.aH p2.aI λx2=>bE p1.dQ p2.aI λx3=>bif p2.aM==1 then bif(!x3.nT||x3.lW !=p2.aK)then some (false,p1) else(FC p1 x3.lW (IntKind.i64.wrap (0-x2.dZ))).bind λx4=>(FC x4 x3.xW (IntKind.i64.wrap (0-x2.dZ))).bind λx5=>bE x5.dQ p2.aI λx6=>bF (x5.dQ.set (Int.toNat p2.aI) {x6 with nT:=false}) λx7=>bE x7 p2.aI λx8=>bF (x7.set (Int.toNat p2.aI) {x8 with xW:=(-1)}) λx9=>RQ {x5 with dQ:=x9} else bif p2.aM==2 then(bif !(!x3.nT||x3.jF !=p2.aK) then Od p1.eu p1.state p2.aI else some aG).bind λx10=>bif(!x3.nT||x3.jF !=p2.aK)||!x10 then some (false,p1) else(FC p1 x3.lW (IntKind.i64.wrap (0-x2.dZ))).bind λbQ=>(FC bQ x3.xW (IntKind.i64.wrap (0-x2.dZ))).bind λbR=>(FC bR x3.next (IntKind.i64.wrap (0-x2.jA))).bind λdz=>(FC dz p2.aK (aQ (x2.dZ-x2.jA))).bind λfq=>bE fq.dQ p2.aI λfA=>bF (fq.dQ.set (Int.toNat p2.aI) (⟨true,p2.aK,(-1),(-1),(-1)⟩:mE)) λgT=>RQ {fq with dQ:=gT} else some (false,p1)
def Ih(p1:List Int)(p2 x1:Int):Nat->Int->Option Int|0,_=>none|bg+1,x2=>bif decide (x2<x1) then bE p1 x2 λx3=>bif p2==x3 then some x2 else(Ih p1 p2 x1 bg) (aQ (x2+1)) else some (-1)
def Yv(p1:List Int)(p2:Int):Option Int:=Ih p1 p2 (p1.length:Int) fuel 0
def Nl(p1:List Int)(p2:Int):Option Bool:=(Yv p1 p2).bind λx1=>some (decide (0<=x1))
def RP(p1:jm)(x1:Int):Nat->Int->Option (Bool×jm)|0,_=>none|bg+1,x2=>bif decide (x2<x1) then bE p1.dM x2 λx3=>bE p1.eu.aJ x2 λx4=>bif decide (x4.lT<x3) then some (true,p1) else(RP p1 x1 bg) (aQ (x2+1)) else some (false,p1)
def aeP(p1:jm):Option (Bool×jm):=RP p1 (p1.dM.length:Int) fuel 0
def Fh(p1:jm)(x1:Int):Nat->Int->Option Bool|0,_=>none|bg+1,x2=>bif decide (x2<x1) then bE p1.dM x2 λx3=>bE p1.eu.aJ x2 λx4=>bif decide (x4.lT<x3) then some true else(Fh p1 x1 bg) (aQ (x2+1)) else some false
theorem amu(p1:jm)(x1:Int):∀n:Nat,RP p1 x1 n=λx2=>(Fh p1 x1 n x2).bind (λx=>some (x,p1))
  |0=>rfl
  |n+1=>by
    funext x2
    simp only[RP,Fh,amu p1 x1 n,fJ,fV,gu,gq,gy,fT,bG,fZ]
def Nh(p1:jm):Option Bool:=Fh p1 (p1.dM.length:Int) fuel 0
theorem ayK(p1:jm):aeP p1=(Nh p1).bind λx=>some (x,p1):=by
  simp only[aeP,Nh,fJ,fV,gu,gq,gy,fT,bG,fZ,amu]
def amY(p1:Int):Option Bool:=some true
def aec(p2 x1:List eU)(x2:Int):Nat->jm->Int->Option (Int×jm)|0,_,_=>none|bg+1,x3,x4=>bif decide (x4<x2) then bE x1 x4 λx5=>(Sl x3 x5).bind λx6=>(bif !(!x6.1) then amY x4 else some aG).bind λx7=>bif !x6.1||!x7 then some (x4,x6.2) else(aec p2 x1 x2 bg) x6.2 (aQ (x4+1)) else some ((p2.length:Int),x3)
def amK(p1:jm)(p2:List eU):Option (Int×jm):=aec p2 p2 (p2.length:Int) fuel p1 0
def Yn(p1:jm)(p2:List eU):Option (Bool×jm):=(amK p1 p2).bind λx1=>some (x1.1==(p2.length:Int),x1.2)
def afc(p1:aN)(p3:gD)(p4:Int)(x1:eU)(x2:Int)(x3:jm):Nat->Int->Option Bool|0,_=>none|bg+1,x4=>qH (decide (x4<(p3.bY.length:Int))) p3.bY x4 λx5=>qH (decide (x4<(p3.bY.length:Int))&&x5.aM==1) p3.bY x4 λx6=>bif(decide (x4<(p3.bY.length:Int))&&x5.aM==1)&&x6.aK==x1.aK then(afc p1 p3 p4 x1 x2 x3 bg) (aQ (x4+1))else bq (decide (0<=p4/\p4<=x4/\x4<=(p3.bY.length:Int))) ((Yn x3 ((p3.bY.take (Int.toNat x4)).drop (Int.toNat p4))).bind λx7=>bif(!x7.1||x4==(p3.bY.length:Int))then some false else bE p3.bY x4 λx8=>bif((x8.aM !=2||x8.aK !=x1.aK)||decide (x8.aI<0))||decide ((x7.2.dQ.length:Int)<=x8.aI) then some false else bE p1.aH x8.aI λx9=>bE p1.aH x1.aI λx10=>bif decide (x9.iT<=x10.iT) then some false else qH (!(decide (p4<aQ (x4-1)))) p1.aJ x1.aK λbQ=>some (decide (p4<aQ (x4-1))||decide (bQ.lT<aQ ((aQ (x2+x9.dZ))-x9.jA))))
def afX(p1:aN)(p2:aO)(p3:gD)(p4:Int):Option Bool:=qH (!(decide (p4<0)||decide ((p3.bY.length:Int)<=p4))) p3.bY p4 λbR=>bif(decide (p4<0)||decide ((p3.bY.length:Int)<=p4))||bR.aM !=1 then some false else(Oc p1 p2).bind λdz=>bE p3.bY p4 λx1=>bq (decide (0<=p4/\p4<=(p3.bY.length:Int))) ((Yn dz (p3.bY.take (Int.toNat p4))).bind λfq=>bif(!fq.1||decide (x1.aK<0))||decide ((fq.2.dM.length:Int)<=x1.aK) then some false else bE fq.2.dM x1.aK λx2=>afc p1 p3 p4 x1 x2 fq.2 fuel p4)
def Ny(p2:gD)(p3:List Int)(p5:jm)(p6:aN)(p7:aO)(x1:Int):Option (Bool×gD×List Int×Int×jm×aN×aO):=some (x1==0,p2,p3,x1,p5,p6,p7)
def YD(p1:Int)(p2:gD)(p3:List Int)(p4:Int)(p5:jm)(p6:aN)(p7:aO):Option (Bool×gD×List Int×Int×jm×aN×aO):=bE p2.bY p1 λx2=>(bif x2.aM==2 then Nl p3 x2.aI else some aG).bind λx3=>bif x2.aM==2&&!x3 then Ny p2 p3 p5 p6 p7 4 else(Nh p5).bind λx4=>bif x4 then Ny p2 p3 p5 p6 p7 10 else(bif x2.aM==1 then afX p6 p7 p2 p1 else some aG).bind λx5=>bif x2.aM==1&&!x5 then Ny p2 p3 p5 p6 p7 37 else Ny p2 p3 p5 p6 p7 p4
def R4(p2 x1:List eU)(x2:Int):Nat->jm->gD->(List Int)->Int->aN->aO->Int->Option (Int×jm×gD×List Int×Int×aN×aO)|0,_,_,_,_,_,_,_=>none|bg+1,x3,x4,x5,x6,x7,x8,x9=>bif decide (x9<x2) then bE x1 x9 λx10=>(Sl x3 x10).bind λbQ=>(bif !(!bQ.1) then YD x9 x4 x5 x6 bQ.2 x7 x8 else some (aG,x4,x5,x6,bQ.2,x7,x8)).bind λbR=>bif !bQ.1||!bR.1 then some (x9,bR.2.2.2.2.1,bR.2.1,bR.2.2.1,bR.2.2.2.1,bR.2.2.2.2.2.1,bR.2.2.2.2.2.2) else(R4 p2 x1 x2 bg) bR.2.2.2.2.1 bR.2.1 bR.2.2.1 bR.2.2.2.1 bR.2.2.2.2.2.1 bR.2.2.2.2.2.2 (aQ (x9+1)) else some ((p2.length:Int),x3,x4,x5,x6,x7,x8)
def Yo(p1:jm)(p2:List eU)(p3:gD)(p4:List Int)(p5:Int)(p6:aN)(p7:aO):Option (Int×jm×gD×List Int×Int×aN×aO):=R4 p2 p2 (p2.length:Int) fuel p1 p3 p4 p5 p6 p7 0
def YV(p1:gD):Option (List Int):=(TA p1 2).bind λx1=>some x1
def afG(p1:Int)(p2:List Int):Option (Bool×List Int):=(Nl p2 p1).bind λx1=>some (x1,p2)
def Ij(p1:Int)(p2:List Int):Option Bool:=(Nl p2 p1).bind λx1=>some x1
theorem aBB(p1:Int)(p2:List Int):afG p1 p2=(Ij p1 p2).bind λx=>some (x,p2):=by
  simp only[afG,Ij,fJ,fV,gu,gq,gy,fT,bG,fZ]
def RA(p1 p2:List Int)(x1:Int):Nat->Int->Option (Int×List Int)|0,_=>none|bg+1,x2=>bif decide (x2<x1) then bE p1 x2 λx3=>(Ij x3 p2).bind λx4=>bif x4 then some (x2,p2) else(RA p1 p2 x1 bg) (aQ (x2+1)) else some ((-1),p2)
def aeu(p1 p2:List Int):Option (Int×List Int):=RA p1 p2 (p1.length:Int) fuel 0
def Fb(p1 p2:List Int)(x1:Int):Nat->Int->Option Int|0,_=>none|bg+1,x2=>bif decide (x2<x1) then bE p1 x2 λx3=>(Ij x3 p2).bind λx4=>bif x4 then some x2 else(Fb p1 p2 x1 bg) (aQ (x2+1)) else some (-1)
theorem ams(p1 p2:List Int)(x1:Int):∀n:Nat,RA p1 p2 x1 n=λx2=>(Fb p1 p2 x1 n x2).bind (λx=>some (x,p2))
  |0=>rfl
  |n+1=>by
    funext x2
    simp only[RA,Fb,ams p1 p2 x1 n,fJ,fV,gu,gq,gy,fT,bG,fZ]
def Nb(p1 p2:List Int):Option Int:=Fb p1 p2 (p1.length:Int) fuel 0
theorem axN(p1 p2:List Int):aeu p1 p2=(Nb p1 p2).bind λx=>some (x,p2):=by
  simp only[aeu,Nb,fJ,fV,gu,gq,gy,fT,bG,fZ,ams]
def XV(ad1:(List Int)->Int->Int->Option (List Int×List Int))(x1:Int)(x2:List Int)(x3:Int):Option (List Int×List Int):=ad1 x2 x3 (aQ (x1+1))
def M8(p2:(List Int)):Nat->(List Int)->Int->Int->Option (List Int×List Int)|0,_,_,_=>none|bg+1,x4,x5,x1=>bif decide (x1<(x4.length:Int)) then bE x4 x1 λx6=>(Ij x6 p2).bind λx7=>bif !x7 then bE x4 x5 λx8=>bF (x4.set (Int.toNat x5) x6) λx9=>XV (M8 p2 bg) x1 x9 (aQ (x5+1)) else XV (M8 p2 bg) x1 x4 x5 else bq (decide (0<=x5/\x5<=(x4.length:Int)/\(x4.length:Int)<=(x4.length:Int))) (bq (decide ((0+Int.toNat x5)+(Int.toNat (x4.length:Int)-Int.toNat x5)<=x4.length)) (bq (decide (0<=x5/\x5<=(((jQ (0+Int.toNat x5) (Int.toNat (x4.length:Int)-Int.toNat x5) x4 (List.replicate (Int.toNat (x4.length:Int)-Int.toNat x5) (aG:Int))).length:Nat):Int))) (bq (decide (Int.toNat x5<=(jQ (0+Int.toNat x5) (Int.toNat (x4.length:Int)-Int.toNat x5) x4 (List.replicate (Int.toNat (x4.length:Int)-Int.toNat x5) (aG:Int))).length)) (some ((jQ (0+Int.toNat x5) (Int.toNat (x4.length:Int)-Int.toNat x5) x4 (List.replicate (Int.toNat (x4.length:Int)-Int.toNat x5) (aG:Int))).take (Int.toNat x5),p2)))))
def X6(p1 p2:List Int):Option (List Int×List Int):=(Nb p1 p2).bind λx10=>bif x10==(-1) then some (p1,p2) else M8 p2 fuel p1 x10 (aQ (x10+1))
def Ig(p1 p2:List Int)(x1:Int):Nat->Int->Option Bool|0,_=>none|bg+1,x2=>bif decide (x2<x1) then bE p1 x2 λx3=>bE p2 x2 λx4=>bif x3 !=x4 then some false else(Ig p1 p2 x1 bg) (aQ (x2+1)) else some true
def Yu(p1 p2:List Int):Option Bool:=bif(p1.length:Int) !=(p2.length:Int) then some false else Ig p1 p2 (p1.length:Int) fuel 0
def afH(aeY:Int->Int->Option Bool)(x1 x2:Int):Option Bool:=aeY x2 (aQ (x1+1))
def YE(p1:aN)(x3:mE)(x4:iq)(x5:List mE)(x6:Int):Nat->Int->Int->Option Bool|0,_,_=>none|bg+1,x7,x1=>bif decide (x1<x6) then bE x5 x1 λx8=>qH (x8.nT&&x8.lW==x3.jF) p1.aH x1 λx9=>bif(x8.nT&&x8.lW==x3.jF)&&decide (x9.iT<x4.iT) then bE p1.aH x1 λx10=>afH (YE p1 x3 x4 x5 x6 bg) x1 (aQ (x7-x10.dZ)) else afH (YE p1 x3 x4 x5 x6 bg) x1 x7 else bE p1.aJ x3.jF λbQ=>some (decide (x7<=bQ.lT))
def ags(p1:aN)(p2:aO)(p3:gD)(p4:Int):Option Bool:=(Oc p1 p2).bind λbR=>(Yn bR p3.bY).bind λdz=>bif(!dz.1||decide (p4<0))||decide ((dz.2.dQ.length:Int)<=p4) then some false else bE dz.2.dQ p4 λx3=>(bif !(!x3.nT||decide (x3.lW<0)) then wD p1 x3.lW else some aG).bind λfq=>bif(!x3.nT||decide (x3.lW<0))||fq !=p3.Region then some false else(bif !(decide (x3.jF<0)||decide ((dz.2.dM.length:Int)<=x3.jF)) then Od p1 p2 p4 else some aG).bind λfA=>bif(decide (x3.jF<0)||decide ((dz.2.dM.length:Int)<=x3.jF))||!fA then some false else bE p1.aH p4 λx4=>bE dz.2.dM x3.jF λgT=>YE p1 x3 x4 dz.2.dQ (dz.2.dQ.length:Int) fuel (aQ ((aQ (gT+x4.dZ))-x4.jA)) 0
def Ir(x1:aN)(x2:aO)(x3:gD)(x4:Int)(x5:List Int)(x6:Int):Nat->Int->Option (Int×Int)|0,_=>none|bg+1,x7=>bif decide (x7<x6) then bE x5 x7 λx8=>(ags x1 x2 x3 x8).bind λx9=>bif x9 then some (x4,37) else(Ir x1 x2 x3 x4 x5 x6 bg) (aQ (x7+1)) else some (x4,0)
def Ob(p1:aN)(p2:aO)(p3:gD):Option (Int×Int):=bif decide (p3.Region<0)||decide (p1.gH<=p3.Region) then some (0,1) else(Ym p1 p2 p3.Region).bind λx10=>(Oc p1 p2).bind λbQ=>(Yo bQ p3.bY p3 x10 0 p1 p2).bind λbR=>bif bR.2.2.2.2.1 !=0 then some (bR.1,bR.2.2.2.2.1) else bif decide (bR.1<(bR.2.2.1.bY.length:Int)) then some (bR.1,4) else(YV bR.2.2.1).bind λdz=>(X6 bR.2.2.2.1 dz).bind λfq=>(Yu fq.1 bR.2.2.1.kH).bind λfA=>bif !fA then some (bR.1,4) else Ir bR.2.2.2.2.2.1 bR.2.2.2.2.2.2 bR.2.2.1 bR.1 bR.2.2.1.kH (bR.2.2.1.kH.length:Int) fuel 0
def Yx(p1:aO)(p2:Int):Option Bool:=bq (!(decide (0<=p2))||decide ((0:Int)<=IntKind.u64.wrap p2)) (some (decide (0<=p2)&&jd .i64 (iF .i64 p1.d9 (IntKind.u64.wrap p2)) 1==1))
def SF(p1:aO)(p2:eU)(p3:Bool):Option Bool:=bif decide (p2.aI<0)||decide ((p1.aH.length:Int)<=p2.aI) then some true else bE p1.aH p2.aI λx1=>bif p2.aM==1 then some (x1.eX||(!p3&&x1.bC !=p2.aK)) else bif p2.aM==2 then some (x1.bC==p2.aK) else some true
def YK(Kw:(List Int)->(List (Value×Value))->Int->Option (List Int))(x1:Int)(x2:List Int)(x3:(List (Value×Value))):Option (List Int):=Kw x2 x3 (aQ (x1+1))
def Ta(Kw:(List Int)->(List (Value×Value))->Int->Option (List Int))(x4:(List (Value×Value)))(x1:Int)(x5:eU)(x2:List Int):Option (List Int):=bif x5.aM==2 then bq (tQ x4) (YK Kw x1 x2 (vQ x4 x5.aI true)) else YK Kw x1 x2 x4
def DF(p1:aO)(x6:List eU)(x7:Int):Nat->(List Int)->(List (Value×Value))->Int->Option (List Int)|0,_,_,_=>none|bg+1,x8,x4,x1=>bif decide (x1<x7) then bE x6 x1 λx5=>bq (tQ x4) ((SF p1 x5 (wV x4 x5.aI)).bind λx9=>bif !x9 then bq (decide ((x8.length+ [x1].length)*8<=room)) (Ta (DF p1 x6 x7 bg) x4 x1 x5 (x8++ [x1])) else Ta (DF p1 x6 x7 bg) x4 x1 x5 x8) else some x8
def Zc(p1:aO)(p2:gD):Option (List Int):=DF p1 p2.bY (p2.bY.length:Int) fuel ([]:List Int) ([]:List (Value×Value)) 0
def UK(p1:aN)(p2:aO)(p3:aP):Option Int:=(BQ p1 p2 p3).bind λx1=>some x1.2
def Oo(p1:aN)(p2:aO)(p3 p4:Int):Option (aP×Int):=bif((decide (p3<0)||decide ((p1.aH.length:Int)<=p3))||decide (p4<0))||decide (1073741824<p4) then some ((⟨0,0,0,0,0,0,0,0,0⟩:aP),1) else bif decide ((p2.aH.length:Int)<=p3) then some ((⟨0,0,0,0,0,0,0,0,0⟩:aP),4) else bE p2.aH p3 λx1=>bif(!x1.dN||decide (x1.aT<0))||decide ((p2.aJ.length:Int)<=x1.aT) then some ((⟨0,0,0,0,0,0,0,0,0⟩:aP),4) else bE p2.aJ x1.aT λx2=>(UK p1 p2 (⟨2,p4,p3,x1.aT,(-1),aQ (x1.bN+1),p4,aQ (p4+p1.iC),x2.fI⟩:aP)).bind λx3=>bif x3 !=0 then some ((⟨0,0,0,0,0,0,0,0,0⟩:aP),x3) else some ((⟨2,p4,p3,x1.aT,(-1),aQ (x1.bN+1),p4,aQ (p4+p1.iC),x2.fI⟩:aP),0)
def Td(p1:aN)(p2:aO)(p3:eU)(p4:Int):Option (aP×Bool):=bif p3.aM==1 then(UK p1 p2 (⟨8,p4,p3.aI,(-1),(-1),0,0,0,1⟩:aP)).bind λx1=>some ((⟨8,p4,p3.aI,(-1),(-1),0,0,0,1⟩:aP),x1==0) else(Oo p1 p2 p3.aI p4).bind λx2=>some (x2.1,x2.2==0&&x2.1.aK==p3.aK)
def afY(afn:(List (Value×Value))->Int->Option (aP×Int))(x1:Int)(x2:(List (Value×Value))):Option (aP×Int):=afn x2 (aQ (x1+1))
def Tc(p1:aN)(p2:aO)(p3:gD)(p4:Int)(x3:List Int)(x4:Int):Nat->(List (Value×Value))->Int->Option (aP×Int)|0,_,_=>none|bg+1,x5,x1=>bif decide (x1<x4) then bE x3 x1 λx6=>bE p3.bY x6 λx7=>bq (tQ x5) (bif wV x5 x7.aK then afY (Tc p1 p2 p3 p4 x3 x4 bg) x1 x5 else bq (tQ x5) ((Td p1 p2 x7 p4).bind λx8=>bif x8.2 then some (x8.1,0) else afY (Tc p1 p2 p3 p4 x3 x4 bg) x1 (vQ x5 x7.aK true))) else some ((⟨0,0,0,0,0,0,0,0,0⟩:aP),31)
def FU(p1:aN)(p2:aO)(p3:gD)(p4:Int):Option (aP×Int):=bif((decide (p3.Region<0)||decide (p1.gH<=p3.Region))||decide (p4<0))||decide (1073741824<p4) then some ((⟨0,0,0,0,0,0,0,0,0⟩:aP),1) else(Yx p2 p3.Region).bind λx9=>bif !x9 then some ((⟨13,p4,(-1),(-1),p3.Region,0,0,0,1⟩:aP),0) else(Zc p2 p3).bind λx3=>bif(x3.length:Int)==0 then some ((⟨0,0,0,0,0,0,0,0,0⟩:aP),34) else Tc p1 p2 p3 p4 x3 (x3.length:Int) fuel ([]:List (Value×Value)) 0
def Oe(p2:aN)(p3:gD)(p4:Int):Nat->(List aP)->bO->Option (List aP×Int×bO)|0,_,_=>none|bg+1,x1,x2=>(pQ x2).bind λx3=>(FU p2 x3 p3 p4).bind λx4=>bif x4.2 !=0 then some (x1,x4.2,x2) else(Il x2 x4.1).bind λx5=>bif x5.2.1 !=0 then some (x1,x5.2.1,iL x5.2.2) else bq (decide ((x1.length+ [x4.1].length)*72<=room)) ((Oe p2 p3 p4 bg) (x1++ [x4.1]) (iL x5.2.2))
def Zw(p1:bO)(p2:aN)(p3:gD)(p4:Int):Option (List aP×Int×bO):=Oe p2 p3 p4 fuel ([]:List aP) (iL p1)
def IK(p1:aN)(x1:List Int):Nat->Int->Option Bool|0,_=>none|bg+1,x2=>bif decide (x2<(x1.length:Int)) then bE x1 x2 λx3=>bE p1.aJ x2 λx4=>bif decide (x4.lT<x3) then some false else(IK p1 x1 bg) (aQ (x2+1)) else some true
def aak(p1:aN)(p2:aO):Option Bool:=(IX p1 p2).bind λx1=>bif(x1.length:Int) !=(p1.aJ.length:Int) then some false else IK p1 x1 fuel 0
def Zu(aga:Int->Option Bool)(x1:Int):Option Bool:=aga (aQ (x1+1))
def DN(p1:aN)(p2 p3:aO)(p4 p5:Int):Nat->Int->Option Bool|0,_=>none|bg+1,x1=>bif decide (x1<(p2.aH.length:Int)) then bE p2.aH x1 λx2=>bE p3.aH x1 λx3=>(bif !(!x2.dN||x2.eX) then wD p1 x2.bC else some aG).bind λx4=>bif(!x2.dN||x2.eX)||x4 !=p4 then bif !(x2.dN==x3.dN&&(x2.eX==x3.eX&&(x2.bC==x3.bC&&(x2.aT==x3.aT&&(x2.Next==x3.Next&&(x2.dK==x3.dK&&(x2.bN==x3.bN&&(x2.dn.aK==x3.dn.aK&&(x2.dn.bN==x3.dn.bN&&(x2.dn.qQ==x3.dn.qQ&&(x2.dn.From==x3.dn.From&&(x2.dn.bV==x3.dn.bV&&true)))))))))))) then some false else Zu (DN p1 p2 p3 p4 p5 bg) x1 else qH (!((((((x3.eX||x3.bC !=x2.aT)||x3.dn.aK !=x3.bC)||decide (p5<x3.dn.From))||decide (x3.dn.bV<=p5))||decide (x3.bC<0))||decide ((p3.aJ.length:Int)<=x3.bC))) p3.aJ x3.bC λx5=>(bif !(((((((x3.eX||x3.bC !=x2.aT)||x3.dn.aK !=x3.bC)||decide (p5<x3.dn.From))||decide (x3.dn.bV<=p5))||decide (x3.bC<0))||decide ((p3.aJ.length:Int)<=x3.bC))||x5.gJ !=1) then wD p1 x3.bC else some aG).bind λx6=>bif(((((((x3.eX||x3.bC !=x2.aT)||x3.dn.aK !=x3.bC)||decide (p5<x3.dn.From))||decide (x3.dn.bV<=p5))||decide (x3.bC<0))||decide ((p3.aJ.length:Int)<=x3.bC))||x5.gJ !=1)||x6==p4 then some false else Zu (DN p1 p2 p3 p4 p5 bg) x1 else some true
def K5(p1:aN)(p2 p3:aO)(p4 p5:Int):Option Bool:=DN p1 p2 p3 p4 p5 fuel 0
def Iq(x1:aN)(x2:Int)(x3:aO)(x4:Int)(x5:aO)(x6:List aP):Nat->Int->Option Bool|0,_=>none|bg+1,x7=>bif decide (x7<=(x6.length:Int)) then bq (decide (0<=x7/\x7<=(x6.length:Int))) ((UW x1 (x6.take (Int.toNat x7))).bind λx8=>(bif !(x8.2.2 !=0) then aak x1 x8.1 else some aG).bind λx9=>bif x8.2.2 !=0||!x9 then some false else(Iq x1 x2 x3 x4 x5 x6 bg) (aQ (x7+1))) else(K5 x1 x3 x5 x2 x4).bind λx10=>some x10
def aft(x1:aN)(x2:Int)(x3:aO)(bQ:gD)(bR dz x4 fq:Int)(fA:bO):Option Bool:=(Zw fA x1 bQ x4).bind λgT=>(pQ (iL gT.2.2)).bind λx5=>(bif !(((bR !=(bQ.bY.length:Int)||dz !=0)||gT.2.1 !=34)||(x5.aH.length:Int) !=(x3.aH.length:Int)) then Fw (iL gT.2.2)else some aG).bind λiG=>bif(((bR !=(bQ.bY.length:Int)||dz !=0)||gT.2.1 !=34)||(x5.aH.length:Int) !=(x3.aH.length:Int))||(iG.length:Int) !=aQ ((aQ (fq+1))+(bQ.bY.length:Int)) then some false else(Fw (iL gT.2.2)).bind λx6=>Iq x1 x2 x3 x4 x5 x6 fuel fq
def BO(p1 p2:List Int)(p3:Int):Option Bool:=O9.bind λx18=>(bif !(!x18) then DR p1 else some aG).bind λmD=>(bif !(!x18||!mD) then DR p2 else some aG).bind λx20=>bif(!x18||!mD)||!x20 then O9.bind λx21=>some x21 else(KR p1).bind λx1=>(Pb x1 p2 40).bind λog=>(Gc p3 x1.gH).bind λx2=>(pQ (iL og)).bind λx3=>(Ub x1 x3 x2).bind λx23=>bq (!(!(!x23))||decide ((0:Int)<=IntKind.u64.wrap x2)) ((bif !(!x23) then Uk x1 (iV .i64 1 (IntKind.u64.wrap x2))else some aG).bind λx24=>(bif !(!x23||!x24) then DW x3.d9 x2 else some aG).bind λx25=>bif(!x23||!x24)||x25 then some true else(aaX x1 (iL og) x2).bind λqL=>bif !qL.1 then some false else(pQ (iL qL.2)).bind λx27=>(Ox x1 x27 x2).bind λx28=>(bif !(x28.2 !=0||(x28.1.kH.length:Int) !=0) then Oy x28.1 else some aG).bind λx29=>bif(x28.2 !=0||(x28.1.kH.length:Int) !=0)||(x29.length:Int) !=0 then some false else(pQ (iL qL.2)).bind λx30=>(Ob x1 x30 x28.1).bind λx31=>(Fw (iL qL.2)).bind λx32=>aft x1 x2 x3 x28.1 x31.1 x31.2 (aQ (x3.bf+(aQ (2*x1.iC)))) (x32.length:Int) (iL qL.2))
def agJ(p1:Int):Option (bP×Int):=bif decide (0<p1)||0==0 then(UJ 0 p1).bind λx1=>bif x1.2 !=0 then none else bif decide (1<p1)||1==0 then(UJ 1 p1).bind λx2=>bif x2.2 !=0 then none else bif decide (2<p1)||2==0 then(UJ 2 p1).bind λx3=>bif x3.2 !=0 then none else bif decide (3<p1)||3==0 then none else some ((⟨[x1.1,x2.1,x3.1],([]:List bJ),([]:List aP)⟩:bP),0) else none else none else none
def UF(p1:aN):Option (bO×Int):=(Us p1).bind λx1=>bif x1 !=0 then none else(agJ (p1.dh.length:Int)).bind λx2=>bif x2.2 !=0 then none else(Um p1).bind λx3=>bq (decide ((0:Int)<=(x3.dh.length:Int))) ((O8 x3).bind λx4=>some ((⟨x3,gK x2.1,aQ ((iV .i64 1 (x3.dh.length:Int))-1),x4⟩:bO),0))
def afg(p1:bO):Option (aO×bO):=(JY p1.state.aH).bind λx1=>(JZ p1.state.aJ).bind λx2=>some ({p1.state with aH:=x1,aJ:=x2},jH p1)
theorem az5(p1:bO):afg p1=(pQ p1).bind λx=>some (x,jH p1):=by
  simp only[afg,pQ,fJ,fV,gu,gq,gy,fT,bG,fZ]
def aff(p1:bO):Option (Bool×bO):=(SH (IntKind.u64.wrap p1.up)).bind λx1=>some (decide ((p1.eu.dh.length:Int)<aQ (2*x1)),jH p1)
theorem az4(p1:bO):aff p1=(ze p1).bind λx=>some (x,jH p1):=by
  simp only[aff,ze,fJ,fV,gu,gq,gy,fT,bG,fZ]
def RO(x1 x2 x3:Int)(x4:bP):Option (Int×bP):=bif decide (aQ (x2+1)<x1) then none else some (x3,x4)
def Kh(x1 x5 x6 x2:Int)(x7:Bool)(x8:bP):Option (Int×bP):=bif x7 then RO x1 x2 x6 x8 else RO x1 x2 x5 x8
def R6(x1 x9 x10:Int)(bQ:bP):Option (Int×bP):=bif decide (aQ (x9+1)<x1) then bif aQ (x9+1)==2 then bif(x10== -1)then(xH (bQ.aU.getD 2 aG)).bind λbR=>(bif bR==3&&!(decide ((-1)<0)) then jl (bQ.aU.getD 2 aG)else some aG).bind λdz=>bq (!(bR==3&&!(decide ((-1)<0)))||decide ((0:Int)<=(-1)/\((-1):Int)<((3:Nat):Int))) ((bif bR==3&&!(decide ((-1)<0)) then jl (bQ.aU.getD 0 aG)else some aG).bind λfq=>Kh x1 (-1) 2 2 (bR==3&&(decide ((-1)<0)||decide (fq<dz))) bQ) else bif x10==2 then(xH (bQ.aU.getD 2 aG)).bind λfA=>(bif fA==3&&!(decide (2<0)) then jl (bQ.aU.getD 2 aG)else some aG).bind λgT=>bq (!(fA==3&&!(decide (2<0)))||decide ((0:Int)<=2/\(2:Int)<((3:Nat):Int))) ((bif fA==3&&!(decide (2<0)) then jl (bQ.aU.getD 2 aG)else some aG).bind λiG=>Kh x1 2 2 2 (fA==3&&(decide (2<0)||decide (iG<gT))) bQ) else bif x10==1 then(xH (bQ.aU.getD 2 aG)).bind λx18=>(bif x18==3&&!(decide (1<0)) then jl (bQ.aU.getD 2 aG)else some aG).bind λmD=>bq (!(x18==3&&!(decide (1<0)))||decide ((0:Int)<=1/\(1:Int)<((3:Nat):Int))) ((bif x18==3&&!(decide (1<0)) then jl (bQ.aU.getD 1 aG)else some aG).bind λx20=>Kh x1 1 2 2 (x18==3&&(decide (1<0)||decide (x20<mD))) bQ) else bif x10==0 then(xH (bQ.aU.getD 2 aG)).bind λx21=>(bif x21==3&&!(decide (0<0)) then jl (bQ.aU.getD 2 aG)else some aG).bind λog=>bq (!(x21==3&&!(decide (0<0)))||decide ((0:Int)<=0/\(0:Int)<((3:Nat):Int))) ((bif x21==3&&!(decide (0<0)) then jl (bQ.aU.getD 0 aG)else some aG).bind λx23=>Kh x1 0 2 2 (x21==3&&(decide (0<0)||decide (x23<og))) bQ) else none else none else none
def Ki(x1 x24 x25 x9:Int)(qL:Bool)(x27:bP):Option (Int×bP):=bif qL then R6 x1 x9 x25 x27 else R6 x1 x9 x24 x27
def R7(x28 x1 x29:Int)(x30:bP):Option (Int×bP):=bif decide (aQ (x29+1)<x1) then bif aQ (x29+1)==1 then bif(x28== -1)then(xH (x30.aU.getD 1 aG)).bind λx31=>(bif x31==3&&!(decide ((-1)<0)) then jl (x30.aU.getD 1 aG)else some aG).bind λx32=>bq (!(x31==3&&!(decide ((-1)<0)))||decide ((0:Int)<=(-1)/\((-1):Int)<((3:Nat):Int))) ((bif x31==3&&!(decide ((-1)<0)) then jl (x30.aU.getD 0 aG)else some aG).bind λAj=>Ki x1 (-1) 1 1 (x31==3&&(decide ((-1)<0)||decide (Aj<x32))) x30) else bif x28==2 then(xH (x30.aU.getD 1 aG)).bind λx34=>(bif x34==3&&!(decide (2<0)) then jl (x30.aU.getD 1 aG)else some aG).bind λDl=>bq (!(x34==3&&!(decide (2<0)))||decide ((0:Int)<=2/\(2:Int)<((3:Nat):Int))) ((bif x34==3&&!(decide (2<0)) then jl (x30.aU.getD 2 aG)else some aG).bind λDm=>Ki x1 2 1 1 (x34==3&&(decide (2<0)||decide (Dm<Dl))) x30) else bif x28==1 then(xH (x30.aU.getD 1 aG)).bind λBA=>(bif BA==3&&!(decide (1<0)) then jl (x30.aU.getD 1 aG)else some aG).bind λx38=>bq (!(BA==3&&!(decide (1<0)))||decide ((0:Int)<=1/\(1:Int)<((3:Nat):Int))) ((bif BA==3&&!(decide (1<0)) then jl (x30.aU.getD 1 aG)else some aG).bind λx39=>Ki x1 1 1 1 (BA==3&&(decide (1<0)||decide (x39<x38))) x30) else bif x28==0 then(xH (x30.aU.getD 1 aG)).bind λx40=>(bif x40==3&&!(decide (0<0)) then jl (x30.aU.getD 1 aG)else some aG).bind λx41=>bq (!(x40==3&&!(decide (0<0)))||decide ((0:Int)<=0/\(0:Int)<((3:Nat):Int))) ((bif x40==3&&!(decide (0<0)) then jl (x30.aU.getD 0 aG)else some aG).bind λx42=>Ki x1 0 1 1 (x40==3&&(decide (0<0)||decide (x42<x41))) x30) else none else none else none
def Ii(p1:bP):Option (Int×bP):=bif decide (0<3) then(xH (p1.aU.getD 0 aG)).bind λx43=>(bif x43==3&&!(decide ((-1)<0)) then jl (p1.aU.getD 0 aG)else some aG).bind λx44=>bq (!(x43==3&&!(decide ((-1)<0)))||decide ((0:Int)<=(-1)/\((-1):Int)<((3:Nat):Int))) ((bif x43==3&&!(decide ((-1)<0)) then jl (p1.aU.getD 0 aG)else some aG).bind λx45=>bif x43==3&&(decide ((-1)<0)||decide (x45<x44)) then R7 0 3 0 (gK p1)else R7 (-1) 3 0 (gK p1)) else none
def afA(p1:bO)(p2:Int):Option (Bool×bO):=bq (!(decide (0<=p2)&&decide (p2<(p1.eu.dh.length:Int)))||decide ((0:Int)<=p2)) (some ((decide (0<=p2)&&decide (p2<(p1.eu.dh.length:Int)))&&jd .i64 (iF .i64 p1.up p2) 1==1,jH p1))
theorem aAW(p1:bO)(p2:Int):afA p1 p2=(pq p1 p2).bind λx=>some (x,jH p1):=by
  simp only[afA,pq,fJ,fV,gu,gq,gy,fT,bG,fZ]
def afl(p1:bP)(p2:Int):Option (Bool×bP):=some (decide (0<=p2)&&decide (p2<3),gK p1)
def xJ(p1:bP)(p2:Int):Option Bool:=some (decide (0<=p2)&&decide (p2<3))
theorem aAc(p1:bP)(p2:Int):afl p1 p2=(xJ p1 p2).bind λx=>some (x,gK p1):=by
  simp only[afl,xJ,fJ,fV,gu,gq,gy,fT,bG,fZ]
def J5(p2:lS)(x3:Int)(x4:Bool)(x5:bP):Option (Bool×bP):=bif x4 then(xJ x5 p2.nY).bind λx6=>some (x6,x5) else bif x3==4 then Dq p2 (x3==4) x5 else bif x3==5 then Dq p2 (x3==5) x5 else Dq p2 (x3==6) x5
def aek(p1:bP)(p2:lS):Option (Bool×bP):=bif p2.aM==1 then J5 p2 p2.aM (p2.aM==1) (gK p1)else bif p2.aM==2 then J5 p2 p2.aM (p2.aM==2) (gK p1)else bif p2.aM==3 then J5 p2 p2.aM (p2.aM==3) (gK p1)else J5 p2 p2.aM (p2.aM==7) (gK p1)
def Hz(p2:lS)(x3:Int)(x4:Bool)(x5:bP):Option Bool:=bif x4 then(xJ x5 p2.nY).bind λx6=>some x6 else bif x3==4 then HY p2 (x3==4) x5 else bif x3==5 then HY p2 (x3==5) x5 else HY p2 (x3==6) x5
theorem aw9(p2:lS)(x3:Int)(x4:Bool)(x5:bP):J5 p2 x3 x4 x5=(Hz p2 x3 x4 x5).bind (λx=>some (x,x5)):=by
  simp only[J5,Hz,fJ,fV,gu,gq,gy,fT,bG,fZ,XT]
def Fg(p1:bP)(p2:lS):Option Bool:=bif p2.aM==1 then Hz p2 p2.aM (p2.aM==1) (gK p1)else bif p2.aM==2 then Hz p2 p2.aM (p2.aM==2) (gK p1)else bif p2.aM==3 then Hz p2 p2.aM (p2.aM==3) (gK p1)else Hz p2 p2.aM (p2.aM==7) (gK p1)
theorem axv(p1:bP)(p2:lS):aek p1 p2=(Fg p1 p2).bind λx=>some (x,gK p1):=by
  simp only[aek,Fg,fJ,fV,gu,gq,gy,fT,bG,fZ,XT,aw9]
def R8(Ke:Int->bP->Option bP)(x1:Int)(x2:bJ)(x3:bP):Option bP:=bq (decide ((x3.bn.length+ [x2].length)*88<=room)) (Ke (aQ (x1+1)) (⟨[x3.aU.getD 0 aG,x3.aU.getD 1 aG,x3.aU.getD 2 aG],(x3.bn++ [x2]),x3.kW⟩:bP))
def Kj(p2:List bJ)(x4:Int):Nat->Int->bP->Option bP|0,_,_=>none|bg+1,x1,x5=>bif decide (x1<x4) then bE p2 x1 λx2=>bif decide (256<=(x5.bn.length:Int)) then(Hw x5.bn 0 1).bind λx6=>R8 (Kj p2 x4 bg) x1 x2 (⟨[x5.aU.getD 0 aG,x5.aU.getD 1 aG,x5.aU.getD 2 aG],x6,x5.kW⟩:bP) else R8 (Kj p2 x4 bg) x1 x2 x5 else some x5
def sD(p1:bP)(p2:List bJ):Option bP:=Kj p2 (p2.length:Int) fuel 0 (gK p1)
def Np(p1:bP)(p2:Int):Option bP:=(Hw p1.bn p2 (aQ (p2+1))).bind λx1=>some (⟨[p1.aU.getD 0 aG,p1.aU.getD 1 aG,p1.aU.getD 2 aG],x1,p1.kW⟩:bP)
def Nj(x1 x4:Int)(x5:List cO)(x6:Int)(x7:bP):Nat->(List aP)->Int->Option bP|0,_,_=>none|bg+1,x8,x9=>bif decide (x9<x6) then bE x5 x9 λx10=>bq (decide ((x8.length+ [x10.kP].length)*72<=room)) ((Nj x1 x4 x5 x6 x7 bg) (x8++ [x10.kP]) (aQ (x9+1))) else Ak x1 x4 (⟨[x7.aU.getD 0 aG,x7.aU.getD 1 aG,x7.aU.getD 2 aG],x7.bn,x8⟩:bP)
def Fz(x1 bQ:Int)(bR:bP):Option bP:=bif decide (aQ (bQ+1)<x1) then bif aQ (bQ+1)==2 then(oM (bR.aU.getD 2 aG)).bind λdz=>bif decide (dz<=(bR.kW.length:Int)) then Ak x1 2 bR else(oM (bR.aU.getD 2 aG)).bind λfq=>bq (decide ((0:Int)<=0/\(0:Int)<=fq/\(fq:Int)<=9223372036854775807/\(fq:Int)*72<=140737488355328)) ((rG (bR.aU.getD 2 aG)).bind λfA=>(oM (bR.aU.getD 2 aG)).bind λgT=>bq (decide (0<=gT/\gT<=(fA.length:Int))) (Nj x1 2 (fA.take (Int.toNat gT)) (((fA.take (Int.toNat gT)).length:Nat):Int) bR fuel (List.replicate (Int.toNat 0) (aG:aP)) 0)) else none else none
def Nv(x1 iG:Int)(x18:List cO)(mD:Int)(x20:bP):Nat->(List aP)->Int->Option bP|0,_,_=>none|wz+1,x21,og=>bif decide (og<mD) then bE x18 og λx23=>bq (decide ((x21.length+ [x23.kP].length)*72<=room)) ((Nv x1 iG x18 mD x20 wz) (x21++ [x23.kP]) (aQ (og+1))) else Fz x1 iG (⟨[x20.aU.getD 0 aG,x20.aU.getD 1 aG,x20.aU.getD 2 aG],x20.bn,x21⟩:bP)
def FB(x1 x24:Int)(x25:bP):Option bP:=bif decide (aQ (x24+1)<x1) then bif aQ (x24+1)==1 then(oM (x25.aU.getD 1 aG)).bind λqL=>bif decide (qL<=(x25.kW.length:Int)) then Fz x1 1 x25 else(oM (x25.aU.getD 1 aG)).bind λx27=>bq (decide ((0:Int)<=0/\(0:Int)<=x27/\(x27:Int)<=9223372036854775807/\(x27:Int)*72<=140737488355328)) ((rG (x25.aU.getD 1 aG)).bind λx28=>(oM (x25.aU.getD 1 aG)).bind λx29=>bq (decide (0<=x29/\x29<=(x28.length:Int))) (Nv x1 1 (x28.take (Int.toNat x29)) (((x28.take (Int.toNat x29)).length:Nat):Int) x25 fuel (List.replicate (Int.toNat 0) (aG:aP)) 0)) else none else none
def Nw(x30 x31:Int)(x32:List cO)(Aj:Int)(x34:bP):Nat->(List aP)->Int->Option bP|0,_,_=>none|MI+1,Dl,Dm=>bif decide (Dm<Aj) then bE x32 Dm λBA=>bq (decide ((Dl.length+ [BA.kP].length)*72<=room)) ((Nw x30 x31 x32 Aj x34 MI) (Dl++ [BA.kP]) (aQ (Dm+1))) else FB x30 x31 (⟨[x34.aU.getD 0 aG,x34.aU.getD 1 aG,x34.aU.getD 2 aG],x34.bn,Dl⟩:bP)
def SA(p1:bP):Option bP:=bif decide (0<3) then(oM (p1.aU.getD 0 aG)).bind λx38=>bif decide (x38<=(p1.kW.length:Int)) then FB 3 0 (gK p1)else(oM (p1.aU.getD 0 aG)).bind λx39=>bq (decide ((0:Int)<=0/\(0:Int)<=x39/\(x39:Int)<=9223372036854775807/\(x39:Int)*72<=140737488355328)) ((rG (p1.aU.getD 0 aG)).bind λx40=>(oM (p1.aU.getD 0 aG)).bind λx41=>bq (decide (0<=x41/\x41<=(x40.length:Int))) (Nw 3 0 (x40.take (Int.toNat x41)) (((x40.take (Int.toNat x41)).length:Nat):Int) (gK p1) fuel (List.replicate (Int.toNat 0) (aG:aP)) 0)) else none
def pO(x1:bP):Option (Int×bP):=(SA x1).bind λx2=>some (0,gK x2)
def NP(x3:List bJ)(x4:Int)(x5:bP):Option (Int×bP):=bif x4 !=0 then some (x4,x5) else(sD x5 x3).bind λx6=>pO (gK x6)
def Am(p1:bP)(p2:lS):Option (Int×bP):=(Fg (gK p1) p2).bind λx7=>bif !x7 then some (1,gK p1) else bif p2.aM==1 then bif p2.nY==2 then(y9 (p1.aU.getD 2 aG)).bind λx8=>(sD {p1 with aU:=[p1.aU.getD 0 aG,p1.aU.getD 1 aG,x8.2]} x8.1).bind λx9=>pO (gK x9) else bif p2.nY==1 then(y9 (p1.aU.getD 1 aG)).bind λx10=>(sD {p1 with aU:=[p1.aU.getD 0 aG,x10.2,p1.aU.getD 2 aG]} x10.1).bind λbQ=>pO (gK bQ) else bif p2.nY==0 then(y9 (p1.aU.getD 0 aG)).bind λbR=>(sD {p1 with aU:=[bR.2,p1.aU.getD 1 aG,p1.aU.getD 2 aG]} bR.1).bind λdz=>pO (gK dz) else none else bif p2.aM==2 then bif p2.nY==2 then(za (p1.aU.getD 2 aG) p2.kP).bind λfq=>NP fq.1 fq.2.1 {p1 with aU:=[p1.aU.getD 0 aG,p1.aU.getD 1 aG,fq.2.2]} else bif p2.nY==1 then(za (p1.aU.getD 1 aG) p2.kP).bind λfA=>NP fA.1 fA.2.1 {p1 with aU:=[p1.aU.getD 0 aG,fA.2.2,p1.aU.getD 2 aG]} else bif p2.nY==0 then(za (p1.aU.getD 0 aG) p2.kP).bind λgT=>NP gT.1 gT.2.1 {p1 with aU:=[gT.2.2,p1.aU.getD 1 aG,p1.aU.getD 2 aG]} else none else bif p2.aM==3 then bif p2.nY==2 then(Kl (p1.aU.getD 2 aG)).bind λiG=>(sD (gK p1) iG).bind λx18=>pO (gK x18) else bif p2.nY==1 then(Kl (p1.aU.getD 1 aG)).bind λmD=>(sD (gK p1) mD).bind λx20=>pO (gK x20) else bif p2.nY==0 then(Kl (p1.aU.getD 0 aG)).bind λx21=>(sD (gK p1) x21).bind λog=>pO (gK og) else none else bif p2.aM==4 then bE p1.bn p2.N λx23=>(Np (gK p1) p2.N).bind λx24=>bif x23.To==2 then(nP (x24.aU.getD 2 aG) {x23 with To:=2}).bind λx25=>(sD {x24 with aU:=[x24.aU.getD 0 aG,x24.aU.getD 1 aG,x25.2]} x25.1).bind λqL=>pO (gK qL) else bif x23.To==1 then(nP (x24.aU.getD 1 aG) {x23 with To:=1}).bind λx27=>(sD {x24 with aU:=[x24.aU.getD 0 aG,x27.2,x24.aU.getD 2 aG]} x27.1).bind λx28=>pO (gK x28) else bif x23.To==0 then(nP (x24.aU.getD 0 aG) {x23 with To:=0}).bind λx29=>(sD {x24 with aU:=[x29.2,x24.aU.getD 1 aG,x24.aU.getD 2 aG]} x29.1).bind λx30=>pO (gK x30) else none else bif p2.aM==5 then bE p1.bn p2.N λx31=>bif x31.To==2 then(nP (p1.aU.getD 2 aG) {x31 with To:=2}).bind λx32=>(sD {p1 with aU:=[p1.aU.getD 0 aG,p1.aU.getD 1 aG,x32.2]} x32.1).bind λAj=>pO (gK Aj) else bif x31.To==1 then(nP (p1.aU.getD 1 aG) {x31 with To:=1}).bind λx34=>(sD {p1 with aU:=[p1.aU.getD 0 aG,x34.2,p1.aU.getD 2 aG]} x34.1).bind λDl=>pO (gK Dl) else bif x31.To==0 then(nP (p1.aU.getD 0 aG) {x31 with To:=0}).bind λDm=>(sD {p1 with aU:=[Dm.2,p1.aU.getD 1 aG,p1.aU.getD 2 aG]} Dm.1).bind λBA=>pO (gK BA) else none else bif p2.aM==6 then(Np (gK p1) p2.N).bind λx38=>pO (gK x38) else bif p2.aM==7 then bif p2.nY==2 then(BL (p1.aU.getD 2 aG) p2.N).bind λx39=>pO {p1 with aU:=[p1.aU.getD 0 aG,p1.aU.getD 1 aG,x39]} else bif p2.nY==1 then(BL (p1.aU.getD 1 aG) p2.N).bind λx40=>pO {p1 with aU:=[p1.aU.getD 0 aG,x40,p1.aU.getD 2 aG]} else bif p2.nY==0 then(BL (p1.aU.getD 0 aG) p2.N).bind λx41=>pO {p1 with aU:=[x41,p1.aU.getD 1 aG,p1.aU.getD 2 aG]} else none else pO (gK p1)
def Kk(aem:Int->bP->Option (Int×bP))(x1:Int)(x2:bP):Option (Int×bP):=(SA x2).bind λx3=>aem (aQ (x1+1)) (gK x3)
def BI(p2:Int):Nat->Int->bP->Option (Int×bP)|0,_,_=>none|bg+1,x1,x4=>bif decide (0<(x4.bn.length:Int))&&decide (x1<5000) then bE x4.bn 0 λx5=>(Np x4 0).bind λx6=>bq (decide ((0:Int)<=IntKind.u64.wrap x5.From)) (bq (!(!(jd .i64 (iF .i64 p2 (IntKind.u64.wrap x5.From)) 1==0))||decide ((0:Int)<=IntKind.u64.wrap x5.To)) (bif jd .i64 (iF .i64 p2 (IntKind.u64.wrap x5.From)) 1==0||jd .i64 (iF .i64 p2 (IntKind.u64.wrap x5.To)) 1==0 then(BI p2 bg) x1 (gK x6)else bif x5.To==2 then(nP (x6.aU.getD 2 aG) {x5 with To:=2}).bind λx7=>(sD {x6 with aU:=[x6.aU.getD 0 aG,x6.aU.getD 1 aG,x7.2]} x7.1).bind λx8=>Kk (BI p2 bg) x1 (gK x8) else bif x5.To==1 then(nP (x6.aU.getD 1 aG) {x5 with To:=1}).bind λx9=>(sD {x6 with aU:=[x6.aU.getD 0 aG,x9.2,x6.aU.getD 2 aG]} x9.1).bind λx10=>Kk (BI p2 bg) x1 (gK x10) else bif x5.To==0 then(nP (x6.aU.getD 0 aG) {x5 with To:=0}).bind λbQ=>(sD {x6 with aU:=[bQ.2,x6.aU.getD 1 aG,x6.aU.getD 2 aG]} bQ.1).bind λbR=>Kk (BI p2 bg) x1 (gK bR) else none)) else some (x1,x4)
def Nt(p1:bP)(p2:Int):Option (Int×bP):=BI p2 fuel 0 (gK p1)
def Ni(x1:Int)(x2:bP):Option (Int×bP):=some (x1,x2)
def aeI(p1:bP)(p2:Int):Option (Int×bP):=(xJ (gK p1) p2).bind λx3=>bif !x3 then some (0,gK p1) else bif p2==2 then(oM (p1.aU.getD 2 aG)).bind λx4=>Ni x4 (gK p1) else bif p2==1 then(oM (p1.aU.getD 1 aG)).bind λx5=>Ni x5 (gK p1) else bif p2==0 then(oM (p1.aU.getD 0 aG)).bind λx6=>Ni x6 (gK p1) else none
def RN(x1:Int):Option Int:=some x1
theorem axS(x1:Int)(x2:bP):Ni x1 x2=(RN x1).bind (λx=>some (x,x2)):=by
  simp only[Ni,RN,fJ,fV,gu,gq,gy,fT,bG,fZ]
def Ka(p1:bP)(p2:Int):Option Int:=(xJ (gK p1) p2).bind λx3=>bif !x3 then some 0 else bif p2==2 then(oM (p1.aU.getD 2 aG)).bind λx4=>RN x4 else bif p2==1 then(oM (p1.aU.getD 1 aG)).bind λx5=>RN x5 else bif p2==0 then(oM (p1.aU.getD 0 aG)).bind λx6=>RN x6 else none
theorem ayh(p1:bP)(p2:Int):aeI p1 p2=(Ka p1 p2).bind λx=>some (x,gK p1):=by
  simp only[aeI,Ka,fJ,fV,gu,gq,gy,fT,bG,fZ,axS]
def NG(x1:List cO)(x2:bP):Option (List cO×bP):=some (x1,x2)
def afk(p1:bP)(p2:Int):Option (List cO×bP):=(xJ (gK p1) p2).bind λx3=>bif !x3 then some (([]:List cO),gK p1) else bif p2==2 then(rG (p1.aU.getD 2 aG)).bind λx4=>NG x4 (gK p1) else bif p2==1 then(rG (p1.aU.getD 1 aG)).bind λx5=>NG x5 (gK p1) else bif p2==0 then(rG (p1.aU.getD 0 aG)).bind λx6=>NG x6 (gK p1) else none
def Sk(x1:(List cO)):Option (List cO):=some x1
theorem azp(x1:List cO)(x2:bP):NG x1 x2=(Sk x1).bind (λx=>some (x,x2)):=by
  simp only[NG,Sk,fJ,fV,gu,gq,gy,fT,bG,fZ]
def Kq(p1:bP)(p2:Int):Option (List cO):=(xJ (gK p1) p2).bind λx3=>bif !x3 then some ([]:List cO) else bif p2==2 then(rG (p1.aU.getD 2 aG)).bind λx4=>Sk x4 else bif p2==1 then(rG (p1.aU.getD 1 aG)).bind λx5=>Sk x5 else bif p2==0 then(rG (p1.aU.getD 0 aG)).bind λx6=>Sk x6 else none
theorem aAb(p1:bP)(p2:Int):afk p1 p2=(Kq p1 p2).bind λx=>some (x,gK p1):=by
  simp only[afk,Kq,fJ,fV,gu,gq,gy,fT,bG,fZ,azp]
def Kn(bR:Int)(dz:bO):Nat->Int->Int->Int->Int->Option (Int×bO)|0,_,_,_,_=>none|bg+1,x5,x6,x7,x8=>bif decide (x8<bR) then(pq dz x8).bind λfq=>bif !fq then Im (Kn bR dz bg) x5 x6 x7 x8 else(Kq dz.bn x8).bind λx9=>bif decide (0<(x9.length:Int)) then bE x9 (aQ ((x9.length:Int)-1)) λfA=>Io (Kn bR dz bg) x5 x6 x7 x8 x9 fA.iB x8 else Io (Kn bR dz bg) x5 x6 x7 x8 x9 0 x8 else some (x5,dz)
def afz(p1:bO):Option (Int×bO):=Kn (p1.eu.dh.length:Int) (jH p1) fuel (-1) (-1) (-1) 0
def zK(bR:Int)(dz:bO):Nat->Int->Int->Int->Int->Option Int|0,_,_,_,_=>none|bg+1,x5,x6,x7,x8=>bif decide (x8<bR) then(pq dz x8).bind λfq=>bif !fq then Fx (zK bR dz bg) x5 x6 x7 x8 else(Kq dz.bn x8).bind λx9=>bif decide (0<(x9.length:Int)) then bE x9 (aQ ((x9.length:Int)-1)) λfA=>DC (zK bR dz bg) x5 x6 x7 x8 x9 fA.iB x8 else DC (zK bR dz bg) x5 x6 x7 x8 x9 0 x8 else some x5
theorem amG(bR:Int)(dz:bO):∀n:Nat,Kn bR dz n=λx5 x6 x7 x8=>(zK bR dz n x5 x6 x7 x8).bind (λx=>some (x,dz))
  |0=>rfl
  |n+1=>by
    funext x5 x6 x7 x8
    simp only[Kn,zK,amG bR dz n,fJ,fV,gu,gq,gy,fT,bG,fZ,Ye,Si]
def NC(p1:bO):Option Int:=zK (p1.eu.dh.length:Int) (jH p1) fuel (-1) (-1) (-1) 0
theorem aAU(p1:bO):afz p1=(NC p1).bind λx=>some (x,jH p1):=by
  simp only[afz,NC,fJ,fV,gu,gq,gy,fT,bG,fZ,Ye,Si,amG]
def Kg(Kc:Int->bO->Option (Bool×bO))(x1 x2:Int)(x3:Bool)(x4:bO):Option (Bool×bO):=bif x3 then(Nt x4.bn x4.up).bind λx5=>(Ka (gK x5.2) x2).bind λx6=>some (decide (x4.state.eH<x6),(⟨x4.eu,gK x5.2,x4.up,x4.state⟩:bO)) else(NC x4).bind λx7=>(Am x4.bn (⟨1,x7,0,⟨0,0,0,0,0,0,0,0,0⟩⟩:lS)).bind λx8=>(Nt (gK x8.2) x4.up).bind λx9=>Kc (aQ (x1+1)) (⟨x4.eu,gK x9.2,x4.up,x4.state⟩:bO)
def Dv(p2:aP):Nat->Int->bO->Option (Bool×bO)|0,_,_=>none|bg+1,x1,x10=>bif decide (x1<4) then(Ii x10.bn).bind λbQ=>(pq (⟨x10.eu,gK bQ.2,x10.up,x10.state⟩:bO) bQ.1).bind λbR=>bif bR then(Am (gK bQ.2) (⟨2,bQ.1,0,p2⟩:lS)).bind λdz=>Kg (Dv p2 bg) x1 bQ.1 (dz.1==0) (⟨x10.eu,gK dz.2,x10.up,x10.state⟩:bO) else Kg (Dv p2 bg) x1 bQ.1 false (⟨x10.eu,gK bQ.2,x10.up,x10.state⟩:bO) else some (false,x10)
def Sy(p1:bO)(p2:aP):Option (Bool×bO):=Dv p2 fuel 0 (jH p1)
def Km(p1:bO)(p2:aP):Option (Int×Int×bO):=(ze (jH p1)).bind λx1=>bif !x1 then some (0,16,jH p1) else(BQ p1.eu p1.state p2).bind λx2=>bif x2.2 !=0 then some (0,x2.2,jH p1) else(Sy (jH p1) p2).bind λx3=>bif !x3.1 then some (0,16,jH x3.2) else some (x3.2.state.eH,0,{x3.2 with bn:=gK x3.2.bn,state:=x2.1})
def aej(p1:bP):Option (List aP×bP):=(Rt p1.kW).bind λx1=>some (x1,gK p1)
theorem axt(p1:bP):aej p1=(y7 p1).bind λx=>some (x,gK p1):=by
  simp only[aej,y7,fJ,fV,gu,gq,gy,fT,bG,fZ]
def aeQ(p1:bO):Option (List aP×bO):=(y7 (gK p1.bn)).bind λx1=>some (x1,jH p1)
def Ic(p1:bO):Option (List aP):=(y7 (gK p1.bn)).bind λx1=>some x1
theorem ayQ(p1:bO):aeQ p1=(Ic p1).bind λx=>some (x,jH p1):=by
  simp only[aeQ,Ic,fJ,fV,gu,gq,gy,fT,bG,fZ]
def II(p1:aN)(x1:List aP):Nat->Int->bO->Option bO|0,_,_=>none|bg+1,x2,x3=>bif decide (x2<(x1.length:Int)) then bE x1 x2 λx4=>(Km x3 x4).bind λx5=>bif x5.2.1 !=0 then none else(II p1 x1 bg) (aQ (x2+1)) (jH x5.2.2) else(pQ x3).bind λx6=>bif(x6.aH.length:Int) !=(p1.aH.length:Int)||(x6.aJ.length:Int) !=(p1.aJ.length:Int) then none else some x3
def ZV(p1:aN)(p2:List Int)(p3:Int):Option bO:=(UF p1).bind λx7=>bif false||x7.2 !=0 then none else(Vi p2 p1 p3).bind λx1=>II p1 x1 fuel 0 (jH x7.1)
def NQ(p1:bO)(p2:Int):Option (Int×bO):=bif decide (p2<0)||decide ((p1.eu.dh.length:Int)<=p2) then some (1,jH p1) else(pq (jH p1) p2).bind λx1=>bif !x1 then some (4,jH p1) else bq (decide ((0:Int)<=p2)) ((Am (gK p1.bn) (⟨7,p2,0,⟨0,0,0,0,0,0,0,0,0⟩⟩:lS)).bind λx2=>some (0,{p1 with bn:=gK x2.2,up:=Lh .i64 p1.up (iV .i64 1 p2)}))
def BJ(p2:Int)(x7:List Int)(x8:Int):Nat->Int->Int->bO->Option (Int×bO)|0,_,_,_=>none|bg+1,x4,x1,x9=>bif decide (x1<x8) then bE x7 x1 λx10=>bE x9.eu.iO x10 λbQ=>bif bQ.Region==p2 then(NQ x9 x1).bind λbR=>Ik (BJ p2 x7 x8 bg) x4 x1 (bR.1==0) (jH bR.2) else Ik (BJ p2 x7 x8 bg) x4 x1 false x9 else some (x4,x9)
def SL(p1:bO)(p2:Int):Option (Int×bO):=BJ p2 p1.eu.dh (p1.eu.dh.length:Int) fuel 0 0 (jH p1)
def FY(x3:aO)(x4:List Int):Nat->Int->bO->Option (Bool×bO)|0,_,_=>none|bg+1,x1,x5=>bif decide (x1<(x4.length:Int)) then bE x4 x1 λx6=>qH (!(decide (x6<0))) x4 x1 λx7=>bif decide (x6<0)||decide ((x3.aJ.length:Int)<=x7) then some (false,x5) else(Vp 9 x3.bf).bind λx8=>bE x4 x1 λx9=>bE x4 x1 λx10=>bE x3.aJ x10 λbQ=>bif bQ.gJ !=3 then(Km x5 {x8 with aK:=x9,N:=3}).bind λbR=>bif bR.2.1 !=0 then some (false,jH bR.2.2) else IY (FY x3 x4 bg) x1 (jH bR.2.2) else IY (FY x3 x4 bg) x1 x5 else some (true,x5)
def aaj(p1:aN)(p2:bO)(p3:Int):Option (Bool×bO):=(SL (jH p2) p3).bind λdz=>(pQ (jH dz.2)).bind λx3=>(Uj p1 p3).bind λx4=>FY x3 x4 fuel 0 (jH dz.2)
def NT(p2:aN)(p3:gD)(p4:Int):Nat->(List aP)->bO->Option (List aP×Int×bO)|0,_,_=>none|bg+1,x1,x2=>(pQ x2).bind λx3=>(FU p2 x3 p3 p4).bind λx4=>bif x4.2 !=0 then some (x1,x4.2,x2) else(Km x2 x4.1).bind λx5=>bif x5.2.1 !=0 then some (x1,x5.2.1,jH x5.2.2) else bq (decide ((x1.length+ [x4.1].length)*72<=room)) ((NT p2 p3 p4 bg) (x1++ [x4.1]) (jH x5.2.2))
def YX(p1:bO)(p2:aN)(p3:gD)(p4:Int):Option (List aP×Int×bO):=NT p2 p3 p4 fuel ([]:List aP) (jH p1)
def aeT(x1:aN)(x2:Int)(x3:aO)(bQ:gD)(bR dz x4 fq:Int)(fA:bO):Option Bool:=(YX fA x1 bQ x4).bind λgT=>(pQ (jH gT.2.2)).bind λx5=>(bif !(((bR !=(bQ.bY.length:Int)||dz !=0)||gT.2.1 !=34)||(x5.aH.length:Int) !=(x3.aH.length:Int)) then Ic (jH gT.2.2)else some aG).bind λiG=>bif(((bR !=(bQ.bY.length:Int)||dz !=0)||gT.2.1 !=34)||(x5.aH.length:Int) !=(x3.aH.length:Int))||(iG.length:Int) !=aQ ((aQ (fq+1))+(bQ.bY.length:Int)) then some false else(Ic (jH gT.2.2)).bind λx6=>Iq x1 x2 x3 x4 x5 x6 fuel fq
def SS(p1 p2:List Int)(p3:Int):Option Bool:=O9.bind λx18=>(bif !(!x18) then DR p1 else some aG).bind λmD=>(bif !(!x18||!mD) then DR p2 else some aG).bind λx20=>bif(!x18||!mD)||!x20 then O9.bind λx21=>some x21 else(KR p1).bind λx1=>(ZV x1 p2 40).bind λog=>(Gc p3 x1.gH).bind λx2=>(pQ (jH og)).bind λx3=>(Ub x1 x3 x2).bind λx23=>bq (!(!(!x23))||decide ((0:Int)<=IntKind.u64.wrap x2)) ((bif !(!x23) then Uk x1 (iV .i64 1 (IntKind.u64.wrap x2))else some aG).bind λx24=>(bif !(!x23||!x24) then DW x3.d9 x2 else some aG).bind λx25=>bif(!x23||!x24)||x25 then some true else(aaj x1 (jH og) x2).bind λqL=>bif !qL.1 then some false else(pQ (jH qL.2)).bind λx27=>(Ox x1 x27 x2).bind λx28=>(bif !(x28.2 !=0||(x28.1.kH.length:Int) !=0) then Oy x28.1 else some aG).bind λx29=>bif(x28.2 !=0||(x28.1.kH.length:Int) !=0)||(x29.length:Int) !=0 then some false else(pQ (jH qL.2)).bind λx30=>(Ob x1 x30 x28.1).bind λx31=>(Ic (jH qL.2)).bind λx32=>aeT x1 x2 x3 x28.1 x31.1 x31.2 (aQ (x3.bf+(aQ (2*x1.iC)))) (x32.length:Int) (jH qL.2))
end Go.CP
namespace Go.CP
open Go
theorem gF{α β:Type} [Inhabited α](xs:List α)(i:Int)(k:α->Option β):bE xs i k=(idx xs i).bind k:=by unfold bE idx bq;cases decide (0<=i/\i<(xs.length:Int))<;>rfl
theorem aMV{α β:Type} [Inhabited α](g:Bool)(xs:List α)(i:Int)(k:α->Option β):qH g xs i k=bq (!g||decide (0<=i/\i<(xs.length:Int))) (k (xs.getD i.toNat aG)):=rfl
theorem abP{α β:Type} [Inhabited α]{g:Bool}{xs:List α}{i:Int}{k:α->Option β}(h:g=true->0<=i/\i<(xs.length:Int)):qH g xs i k=k (xs.getD i.toNat aG):=by rcases g with _|_;rfl;rw[aMV,dU (h rfl)];rfl
theorem Lv{α β:Type} [Inhabited α]{g:Bool}{xs:List α}{i:Int}{k:α->Option β}(h:0<=i/\i<(xs.length:Int)):qH g xs i k=k (xs.getD i.toNat aG):=abP λ_=>h
def Ok{α:Type}(m:Option α)(P:α->Prop):Prop:=∃a,m=some a/\P a
section
variable {α β:Type} {P:α->Prop} {Q:β->Prop}
theorem Ok.bind{m:Option α}{k:α->Option β}(h:Ok m P)(hk:∀a,P a->Ok (k a) Q):Ok (m.bind k) Q:=by obtain⟨a,rfl,ha⟩:=h;exact hk a ha
theorem Ok.zo{m:Option α}{k:α->Option β}{a:α}(h:m=some a)(hk:Ok (k a) Q):Ok (m.bind k) Q:=by subst h;exact hk
theorem Ok.bq{b:Bool}{k:Option β}(h:b=true)(hk:Ok k Q):Ok (CP.bq b k) Q:=by subst h;exact hk
theorem Ok.cond{b:Bool}{x y:Option β}(hx:b=true->Ok x Q)(hy:b=false->Ok y Q):Ok (bif b then x else y) Q:=by cases b with|true=>exact hx rfl|false=>exact hy rfl
theorem Ok.some{a:β}(h:Q a):Ok (some a) Q:=⟨a,rfl,h⟩
theorem Ok.mono{P':α->Prop}{m:Option α}(h:Ok m P)(hp:∀a,P a->P' a):Ok m P':=let⟨a,e,p⟩:=h;⟨a,e,hp a p⟩
theorem Ok.idx [Inhabited α]{xs:List α}{i:Int}{k:α->Option β}(h:0<=i/\i<(xs.length:Int))(hk:∀x,x∈xs->xs.getD i.toNat aG=x->Ok (k x) Q):Ok ((CP.idx xs i).bind k) Q:=by
 have hlt:i.toNat<xs.length:=ah
 have e:CP.idx xs i=Option.some (xs.getD i.toNat aG):=by unfold CP.idx;rw[dU h];rfl
 refine Ok.zo e (hk _ ?_ rfl);simp[fC,hlt]
theorem Ok.eq{m:Option α}{a:α}(h:m=Option.some a)(hp:P a):Ok m P:=⟨a,h,hp⟩
end
theorem dT{p:Prop} [Decidable p](h:p):decide p=true:=dU h
theorem dF{p:Prop} [Decidable p](h:¬p:=by omega):decide p=false:=fF h
theorem bL{x:Int}(h1: -9223372036854775808<=x)(h2:x<9223372036854775808):aQ x=x:=by show IntKind.i64.wrap x=x;simp only[IntKind.wrap,IntKind.signed,IntKind.bits,kN,oo,ge_iff_le,show(2:Int)^64=18446744073709551616 from rfl,show(2:Int)^(64-1)=9223372036854775808 from rfl];split<;>omega
theorem bLZ{x:Int}(h1: -9223372036854775808<=x:=by omega)(h2:x<9223372036854775808:=by omega):aQ x=x:=bL h1 h2
def G8(x:Int):Prop:= -9223372036854775808<=x/\x<9223372036854775808
end Go.CP
namespace Go.CP
open Go
variable [Fuel]
section
variable {t:eP}{b v n lo hi:Int}
structure TB(t:eP)(b:Int):Prop where
 el:∀x∈t.L,G8 x
 ln:t.L.length<=200
 lo:0<=t.At
 hi:t.At<=b
theorem TB.up{b':Int}(h:TB t b)(hb:b<=b'):TB t b':=⟨h.el,h.ln,h.lo,wS h.hi hb⟩
theorem VZ(_:G8 v)(h1:1<=n:=by omega)(h2:n<=4611686018427387904:=by omega):Ok (Gc v n) (λr=>0<=r/\r<n):=by
 unfold Gc;(try simp only[gF,bF])
 have hn:n≠0:=ah
 refine Ok.bq (dT hn) (Ok.bq (dT hn) (Ok.some ?_));have a1:=Qe v (show 0<n by omega);have a2: -n<v.tmod n:=by have:=Qe (-v) (show 0<n by omega);rw[Int.neg_tmod]at this;omega
 rw[bLZ];exact⟨ab5 _ ah,Qe _ ah⟩
theorem wI(h:TB t b)(h1:1<=n:=by omega)(h2:n<=4611686018427387904:=by omega)(hb:b<=1000000000:=by omega):
  Ok (lZ t n) (λr=>0<=r.1/\r.1<n/\TB r.2 (b+1)):=by
 have hlo:=h.lo;have hhi:=h.hi;unfold lZ;(try simp only[gF,bF])
 refine Ok.cond (λ_=>Ok.some ⟨by show(0:Int)<=0;omega,by show(0:Int)<n;omega,h.up ah⟩) (λh0=> ?_);have hl:(t.L.length:Int)≠0:=aD h0
 have hlen:(0:Int)<(t.L.length:Int):=ah
 have m1:=ab5 (b:=(t.L.length:Int)) (a:=t.At) hlo;have m2:=Qe t.At hlen;refine Ok.bq (dT hl) (Ok.idx ⟨m1,m2⟩ (λx hx _=>Ok.bq (dT hl) ?_));refine Ok.bind (VZ (h.el x hx)) (λy hy=> ?_);have d1:0<=t.At.tdiv (t.L.length:Int):=Int.tdiv_nonneg hlo ah;have d2:t.At.tdiv (t.L.length:Int)<=t.At:=Int.tdiv_le_self _ hlo;rw[bL (x:=t.At.tdiv _) ah ah,bL (x:=t.At.tdiv _*7) ah ah,bL (x:=y+_) ah ah];refine Ok.bind (VZ ⟨ah,ah⟩ h1 h2) (λz hz=>Ok.some ⟨hz.1,hz.2,?_⟩);rw[bLZ];exact⟨h.el,h.ln,by show 0<=t.At+1;omega,by show t.At+1<=b+1;omega⟩
theorem Lf(h:TB t b)(h1:lo<=hi:=by omega)(h2: -1000000000<=lo:=by omega)(h3:hi<=1000000000:=by omega)(hb:b<=1000000000:=by omega):
  Ok (zf t lo hi) (λr=>lo<=r.1/\r.1<=hi/\TB r.2 (b+1)):=by
 unfold zf;(try simp only[gF,bF])
 rw[bL (x:=hi-lo) ah ah,bL (x:=hi-lo+1) ah ah];refine Ok.bind (wI h ah ah hb) (λr hr=>Ok.some ?_);rw[bLZ];exact⟨by show lo<=lo+r.1;omega,by show lo+r.1<=hi;omega,hr.2.2⟩
theorem ab0(h:TB t b)(h1:1<=n:=by omega)(h2:n<=4611686018427387904:=by omega)(hb:b<=1000000000:=by omega):
  Ok (qM t n) (λr=>TB r.2 (b+1)):=by
 unfold qM;(try simp only[gF,bF])
 exact Ok.bind (wI h h1 h2 hb) (λr hr=>Ok.some hr.2.2)
theorem aHT(hv:G8 v)(h1:lo<=hi)(h2: -1000000000<=lo)(h3:hi<=1000000000):Ok (Zy v lo hi) (λr=>lo<=r/\r<=hi):=by
 unfold Zy;(try simp only[gF,bF])
 rw[bL (x:=hi-lo) ah ah,bL (x:=hi-lo+1) ah ah];refine Ok.bind (VZ hv) (λr hr=>Ok.some ?_);rw[bLZ];omega
structure VT(regions:Int)(x:iq):Prop where
 load:1<=x.dZ/\x.dZ<=65536
 shadow:0<=x.jA/\x.jA<=x.dZ
 prio:0<=x.iT/\x.iT<=9
 lag: -1<=x.Xg/\x.Xg<=1000
 allowed:1<=x.BS/\x.BS<2^regions.toNat
 group:0<=x.Wh/\x.Wh<=32
structure VC(c:aN):Prop where
 reg:1<=c.gH/\c.gH<=3
 zl:1<=c.iO.length/\c.iO.length<=8
 z:∀x∈c.iO,0<=x.Region/\x.Region<c.gH
 cl:1<=c.aJ.length/\c.aJ.length<=16
 oK:∀x∈c.aJ,0<=x.tN/\x.tN<(c.iO.length:Int)/\1<=x.lT/\x.lT<=4194304
 tl:c.aH.length<=32
 t:∀x∈c.aH,VT c.gH x
 vl:1<=c.fD.length/\c.fD.length<=30
 v:∀x∈c.fD,0<=x.gP/\x.gP<=x.dL/\x.dL<=30
 v0:(c.fD.getD 0 aG).gP=0
 rl:1<=c.dh.length/\c.dh.length<=3
 r:∀x∈c.dh,0<=x/\x<(c.iO.length:Int)
 ol:1<=c.jX.length/\c.jX.length<=9
 o:∀x∈c.jX,0<=x/\x<(c.iO.length:Int)
 blast:1<=c.ou/\c.ou<=16
 yg:1<=c.iC/\c.iC<=1000
 bake:0<=c.oW/\c.oW<=10000
 ro:c.dh.length%2=1
theorem Po{α:Type}{xs:List α}{y:α}{P:α->Prop}(h:∀x∈xs,P x)(hy:P y):∀x∈xs++ [y],P x:=by
 intro x hx;rcases qp.1 hx with h1|h1
 .exact h x h1
 .rw[qw.1 h1];exact hy
structure Pre(x4:Int)(x5 x6 x7:Int×eP)(zs:List jC):Prop where
 reg:1<=x4/\x4<=3
 bl:1<=x5.1/\x5.1<=3
 le:2<=x6.1/\x6.1<=12
 ba:0<=x7.1/\x7.1<=8
 zl:1<=zs.length/\zs.length<=6
 z:∀x∈zs,0<=x.Region/\x.Region<x4
def ZC(n:Nat)(x:jy):Prop:=0<=x.tN/\x.tN<(n:Int)/\1<=x.lT/\x.lT<=4194304
theorem atf{x4:Int}{x5 x6 x7:Int×eP}{zs:List jC}{cs:List jy}{ts:List iq}{vs:List ji}{rs:List Int}(hp:Pre x4 x5 x6 x7 zs)
  (hcl:1<=cs.length/\cs.length<=7) (hc:∀x∈cs,ZC zs.length x) (htl:ts.length<=5) (ht:∀x∈ts,VT x4 x)
  (hvl:1<=vs.length/\vs.length<=3) (hv:∀x∈vs,0<=x.gP/\x.gP<=x.dL/\x.dL<=30) (hv0:(vs.getD 0 aG).gP=0)
  (hrl:1<=rs.length/\rs.length<=3) (hro:rs.length%2=1) (hr:∀x∈rs,0<=x/\x<(zs.length:Int)):
  ∀(m:Nat) (T:eP) (os:List Int) (i b:Int),TB T b->b+i<=100000->0<=i->(os.length:Int)+i<=9->1<=(os.length:Int)+i->(∀x∈os,0<=x/\x<(zs.length:Int))->i.toNat<m→
   Ok (TF m T {gH:=x4,iO:=zs,aJ:=cs,aH:=ts,fD:=vs,dh:=rs,jX:=os,ou:=x5.1,iC:=x6.1,oW:=x7.1} i) VC
 |0,_,_,_,_,_,_,_,_,_,_,hm=>absurd hm (kF _)
 |m+1,T,os,i,b,hT,hb,hi,ho1,ho2,ho,hm=>by
  rw[TF];dsimp only[List.length_cons,List.length_nil];have hzl:=hp.zl;have hT0:=hT.lo;have hT1:=hT.hi;refine Ok.cond (λh=> ?_) (λh=> ?_)
  .have h:=iZ h;refine Ok.bind (wI hT) (λr hr'=>Ok.bq (dT (by show _<=140737488355328;omega)) ?_);rw[bLZ];exact atf hp hcl hc htl ht hvl hv hv0 hrl hro hr m _ _ _ (b+1) hr'.2.2 ah ah ay ay (Po ho ⟨hr'.1,hr'.2.1⟩) ah
  .have h:=wO h;have hr1:=hp.reg;have hbl:=hp.bl;have hle:=hp.le;have hba:=hp.ba
   exact Ok.some ⟨hr1,⟨hzl.1,by show zs.length<=8;omega⟩,hp.z,⟨hcl.1,by show cs.length<=16;omega⟩,hc,by show ts.length<=32;omega,ht,⟨hvl.1,by show vs.length<=30;omega⟩,hv,hv0,⟨hrl.1,by show rs.length<=3;omega⟩,hr,
    ⟨by show 1<=os.length;omega,by show os.length<=9;omega⟩,ho,⟨by show 1<=x5.1;omega,by show x5.1<=16;omega⟩,⟨by show 1<=x6.1;omega,by show x6.1<=1000;omega⟩,⟨by show 0<=x7.1;omega,by show x7.1<=10000;omega⟩,hro⟩
theorem ate{x4:Int}{x5 x6 x7:Int×eP}{zs:List jC}{cs:List jy}{ts:List iq}{vs:List ji}(hp:Pre x4 x5 x6 x7 zs)
  (hcl:1<=cs.length/\cs.length<=7) (hc:∀x∈cs,ZC zs.length x) (htl:ts.length<=5) (ht:∀x∈ts,VT x4 x)
  (hvl:1<=vs.length/\vs.length<=3) (hv:∀x∈vs,0<=x.gP/\x.gP<=x.dL/\x.dL<=30) (hv0:(vs.getD 0 aG).gP=0):
  ∀(m:Nat) (T:eP) (rs:List Int) (i b:Int),TB T b->b+i<=50000->0<=i->(rs.length:Int)+i<=3->1<=(rs.length:Int)+i->((rs.length:Int)+i)%2=1->(∀x∈rs,0<=x/\x<(zs.length:Int))->i.toNat<m→
   Ok (TG m T {gH:=x4,iO:=zs,aJ:=cs,aH:=ts,fD:=vs,dh:=rs,jX:=[],ou:=x5.1,iC:=x6.1,oW:=x7.1} i) VC
 |0,_,_,_,_,_,_,_,_,_,_,_,hm=>absurd hm (kF _)
 |m+1,T,rs,i,b,hT,hb,hi,ho1,ho2,ho3,ho,hm=>by
  rw[TG];dsimp only[List.length_cons,List.length_nil];have hzl:=hp.zl;refine Ok.cond (λh=> ?_) (λh=> ?_)
  .have h:=iZ h;refine Ok.bind (wI hT) (λr hr'=>Ok.bq (dT (by show _<=140737488355328;omega)) ?_);rw[bLZ];exact ate hp hcl hc htl ht hvl hv hv0 m _ _ _ (b+1) hr'.2.2 ah ah ay ay (by first|(simp;omega)|(simp only[pY,zi,xR];omega)) (Po ho ⟨hr'.1,hr'.2.1⟩) ah
  .have h:=wO h;refine Ok.bind (Lf hT) (λr hr'=> ?_);exact atf hp hcl hc htl ht hvl hv hv0 ⟨ah,ah⟩ ah ho fuel _ _ _ (b+1) hr'.2.2 ah ah ay ay aj aB
theorem atd{x4:Int}{x5 x6 x7:Int×eP}{zs:List jC}{cs:List jy}{ts:List iq}(hp:Pre x4 x5 x6 x7 zs)
  (hcl:1<=cs.length/\cs.length<=7) (hc:∀x∈cs,ZC zs.length x) (htl:ts.length<=5) (ht:∀x∈ts,VT x4 x):
  ∀(m:Nat) (T:eP) (vs:List ji) (i b:Int),TB T b->b+2*i<=40000->0<=i->1<=vs.length->(vs.length:Int)+i<=3->(∀x∈vs,0<=x.gP/\x.gP<=x.dL/\x.dL<=30)->(vs.getD 0 aG).gP=0->i.toNat<m→
   Ok (TH m T {gH:=x4,iO:=zs,aJ:=cs,aH:=ts,fD:=vs,dh:=[],jX:=[],ou:=x5.1,iC:=x6.1,oW:=x7.1} i) VC
 |0,_,_,_,_,_,_,_,_,_,_,_,hm=>absurd hm (kF _)
 |m+1,T,vs,i,b,hT,hb,hi,hv1,hv2,hv,hv0,hm=>by
  rw[TH];dsimp only[List.length_cons,List.length_nil];refine Ok.cond (λh=> ?_) (λh=> ?_)
  .have h:=iZ h;refine Ok.bind (wI hT) (λr hr=>Ok.bind (wI hr.2.2) (λq hq=>Ok.bq (dT (by show _<=140737488355328;omega)) ?_));rw[bLZ,bLZ];refine atd hp hcl hc htl ht m _ _ _ (b+1+1) hq.2.2 ah ah aj ay (Po hv ⟨hr.1,by show r.1<=r.1+q.1;omega,by show r.1+q.1<=30;omega⟩) ?_ ah;rw[fC,pX ah,<-fC];exact hv0
  .have h:=wO h;refine Ok.bind (wI hT) (λr hr=> ?_);rw[bL (x:=2*r.1) ah ah,bLZ];exact ate hp hcl hc htl ht ⟨hv1,ah⟩ hv hv0 fuel _ _ _ (b+1) hr.2.2 ah ah ay ay (by simp only[xR];omega) aj aB
theorem arF(h:1<=n/\n<=3):(0:Int)<=IntKind.u64.wrap n/\aQ (iV .i64 1 (IntKind.u64.wrap n)-1)=2^n.toNat-1:=by
 have:n=1\/n=2\/n=3:=ah
 rcases this with rfl|rfl|rfl<;>decide
theorem asz(h:1<=n/\n<=3):(2:Int)<=2^n.toNat/\(2:Int)^n.toNat<=8:=by
 have:n=1\/n=2\/n=3:=ah
 rcases this with rfl|rfl|rfl<;>decide
theorem atc{x4:Int}{x5 x6 x7:Int×eP}{zs:List jC}{cs:List jy}(hp:Pre x4 x5 x6 x7 zs)
  (hcl:1<=cs.length/\cs.length<=7) (hc:∀x∈cs,ZC zs.length x):
  ∀(m:Nat) (T:eP) (ts:List iq) (i b:Int),TB T b->b+10*i<=30000->0<=i->(ts.length:Int)+i<=5->(∀x∈ts,VT x4 x)->i.toNat<m→
   Ok (KD m T {gH:=x4,iO:=zs,aJ:=cs,aH:=ts,fD:=[],dh:=[],jX:=[],ou:=x5.1,iC:=x6.1,oW:=x7.1} i) VC
 |0,_,_,_,_,_,_,_,_,_,hm=>absurd hm (kF _)
 |m+1,T,ts,i,b,hT,hb,hi,ht1,ht,hm=>by
  rw[KD];dsimp only[List.length_cons,List.length_nil];have nX:=hp.reg;obtain⟨s1,s2⟩:=arF nX;have hpw:=asz nX;refine Ok.cond (λh=> ?_) (λh=> ?_)
  .have h:=iZ h;refine Ok.bind (Lf hT) (λr1 q1=> ?_);rw[bL (x:=r1.1+1) ah ah];refine Ok.bind (wI q1.2.2) (λr2 q2=> ?_);refine Ok.bind (wI q2.2.2) (λr3 q3=> ?_);refine Ok.bind (Lf q3.2.2) (λr4 q4=>Ok.bq (dT s1) ?_);refine Ok.bind (wI q4.2.2) (λr5 q5=> ?_);refine Ok.bind (ab0 q5.2.2) (λr6 q6=> ?_);refine Ok.bind (ab0 q6) (λr7 q7=> ?_);have fin:∀(al:Int) (T':eP) (b':Int),1<=al->al<2^x4.toNat->TB T' b'->b'<=b+8->Ok (TD (KD m) {gH:=x4,iO:=zs,aJ:=cs,aH:=ts,fD:=[],dh:=[],jX:=[],ou:=x5.1,iC:=x6.1,oW:=x7.1} i T' {dZ:=r1.1,jA:=r2.1,iT:=r3.1,Xg:=r4.1,BS:=al,Wh:=r5.1,asW:=r6.1}) VC:=(by intro al T' b' h1 h2 h3 h4;unfold TD;dsimp only[List.length_cons,List.length_nil];refine Ok.bq (dT (by show _<=140737488355328;omega)) ?_;rw[bLZ];exact atc hp hcl hc m _ _ _ b' h3 ah ah ay (Po ht ⟨⟨q1.1,by show r1.1<=65536;omega⟩,⟨q2.1,by show r2.1<=r1.1;omega⟩,⟨q3.1,by show r3.1<=9;omega⟩,⟨q4.1,by show r4.1<=1000;omega⟩,⟨h1,h2⟩,⟨q5.1,by show r5.1<=32;omega⟩⟩) ah);refine Ok.cond (λ_=>Ok.bq (dT s1) ?_) (λ_=> ?_)
   .rw[s2];refine Ok.bind (Lf q7) (λr8 q8=> ?_);exact fin _ _ _ q8.1 ah q8.2.2 ah
   .rw[s2];exact fin _ _ _ ah ah q7 ah
  .have h:=wO h;refine Ok.bind (wI hT) (λr hr=>Ok.bind (wI hr.2.2) (λq hq=> ?_))
   exact atd hp hcl hc ah ht fuel _ _ _ (b+1+1) hq.2.2 ah ah aj ay
    (by intro x hx;rw[qw.1 hx];exact⟨jc 0,hr.1,by show r.1<=30;omega⟩) rfl aB
theorem atb{x4:Int}{x5 x6 x7:Int×eP}{zs:List jC}(hp:Pre x4 x5 x6 x7 zs):
  ∀(m:Nat) (T:eP) (cs:List jy) (i b:Int),TB T b->b+2*(7-i)<=20000->0<=i->i<=7->(cs.length:Int)=i->(∀x∈cs,ZC zs.length x)->(7-i).toNat<m→
   Ok (TI m T {gH:=x4,iO:=zs,aJ:=cs,aH:=[],fD:=[],dh:=[],jX:=[],ou:=x5.1,iC:=x6.1,oW:=x7.1} i) VC
 |0,_,_,_,_,_,_,_,_,_,_,hm=>absurd hm (kF _)
 |m+1,T,cs,i,b,hT,hb,hi,hi7,hcl,hc,hm=>by
  rw[TI];dsimp only[List.length_cons,List.length_nil];have hzl:=hp.zl;have step:Ok (bif(!(decide (i<(zs.length:Int))))then qM T 2 else some (aG,T)) (λr=>TB r.2 (b+1)):=
   Ok.cond (λ_=>ab0 hT) (λ_=>Ok.some (hT.up ah))
  refine Ok.bind step (λr1 q1=> ?_);refine Ok.cond (λh=> ?_) (λh=> ?_)
  .have hlt:i<7:=(by simp only[p8,dD,oo]at h;omega);have hz:(zs.length:Int)≠0:=ah;refine Ok.bq (dT hz) (Ok.bind (Lf q1) (λr2 q2=>Ok.bq (dT (by show _<=140737488355328;omega)) ?_));rw[bL (x:=r2.1*10) ah ah,bL (x:=i+1) ah ah]
   exact atb hp m _ _ _ (b+1+1) q2.2.2 ah ah ah ay
    (Po hc ⟨ab5 _ ah,Qe _ ah,by show 1<=r2.1*10;omega,by show r2.1*10<=4194304;omega⟩) ah
  .have hge:(zs.length:Int)<=i:=(by simp only[ng,xV]at h;omega);refine Ok.bind (wI q1) (λr2 q2=> ?_);exact atc hp ⟨ah,ah⟩ hc fuel _ _ _ (b+1+1) q2.2.2 ah ah ay aj aB
theorem ata{x4:Int}{x5 x6 x7:Int×eP}(nX:1<=x4/\x4<=3)(h5:1<=x5.1/\x5.1<=3)(h6:2<=x6.1/\x6.1<=12)(h7:0<=x7.1/\x7.1<=8):
  ∀(m:Nat) (T:eP) (zs:List jC) (i b:Int),TB T b->b+(6-i)<=10000->0<=i->i<=6->(zs.length:Int)=i->(∀x∈zs,0<=x.Region/\x.Region<x4)->(6-i).toNat<m→
   Ok (TJ m T {gH:=x4,iO:=zs,aJ:=[],aH:=[],fD:=[],dh:=[],jX:=[],ou:=x5.1,iC:=x6.1,oW:=x7.1} i) VC
 |0,_,_,_,_,_,_,_,_,_,_,hm=>absurd hm (kF _)
 |m+1,T,zs,i,b,hT,hb,hi,hi6,hzl,hz,hm=>by
  rw[TJ];dsimp only[List.length_cons,List.length_nil];have step:Ok (bif(!(decide (i<x4)))then qM T 3 else some (aG,T)) (λr=>TB r.2 (b+1)):=
   Ok.cond (λ_=>ab0 hT) (λ_=>Ok.some (hT.up ah))
  refine Ok.bind step (λr1 q1=> ?_);refine Ok.cond (λh=> ?_) (λh=> ?_)
  .have hlt:i<6:=(by simp only[p8,dD,oo]at h;omega);have h4:x4≠0:=ah;refine Ok.bq (dT h4) (Ok.bq (dT (by show _<=140737488355328;omega)) ?_);rw[bL (x:=i+1) ah ah];exact ata nX h5 h6 h7 m _ _ _ (b+1) q1 ah ah ah ay (Po hz ⟨ab5 _ ah,Qe _ ah⟩) ah
  .have hge:x4<=i:=(by simp only[ng,xV]at h;omega);exact atb ⟨nX,h5,h6,h7,⟨ah,ah⟩,hz⟩ fuel _ _ _ (b+1) q1 ah ah ah aj aj aB
def JK(l:List Int):Prop:=(∀x∈l,G8 x)/\l.length<=200
theorem aIT{l:List Int}(h:JK l):Ok (KR l) VC:=by
 unfold KR Vj;(try simp only[gF,bF])
 have hT:TB {L:=l,At:=0} 0:=⟨h.1,h.2,jc 0,jc 0⟩;refine Ok.zo rfl ?_;refine Ok.bind (wI hT) (λr3 q3=> ?_);rw[bLZ];refine Ok.bind (aHT ⟨ah,ah⟩ ah ah ah) (λr4 q4=> ?_);refine Ok.bind (Lf q3.2.2) (λr5 q5=> ?_);refine Ok.bind (Lf q5.2.2) (λr6 q6=> ?_);refine Ok.bind (wI q6.2.2) (λr7 q7=> ?_);exact ata q4 ⟨q5.1,q5.2.1⟩ ⟨q6.1,q6.2.1⟩ ⟨q7.1,ah⟩ fuel _ _ _ _ q7.2.2 ah ah ah aj aj aB
end
theorem idx_eq{α:Type} [Inhabited α]{xs:List α}{i:Int}(h:0<=i/\i<(xs.length:Int)):idx xs i=some (xs.getD i.toNat aG):=by unfold idx;rw[dU h];rfl
theorem jk{α:Type} [Inhabited α]{xs:List α}{i:Nat}(h:i<xs.length:=by omega):xs.getD i aG∈xs:=by simp[fC,h]
theorem Jh{x:Int}(h1:0<=x)(h2:x<18446744073709551616):IntKind.u64.wrap x=x:=by simp only[IntKind.wrap,IntKind.signed,IntKind.bits,nC,nD,mJ,show(2:Int)^64=18446744073709551616 from rfl];omega
def eF(c:aN)(i:Int):Int:=
 if 0<=i/\i<(c.aJ.length:Int)then(c.iO.getD (c.aJ.getD i.toNat aG).tN.toNat aG).Region else -1
def hasB(set i:Int):Bool:=decide (0<=i/\i<62)&&decide (set / 2^i.toNat%2=1)
def oH(c:aN)(t cell:Int):Bool:=decide (0<=t/\t<(c.aH.length:Int))&&hasB (c.aH.getD t.toNat aG).BS (eF c cell)
def qx(c:aN)(a b:Int):Bool:=decide (0<=eF c a)&&decide (0<=eF c b)&&(eF c a !=eF c b)
def kE(c:aN)(a b:Int):Bool:=decide (0<=a)&&decide (0<=b)&& !(qx c a b)
section
variable {c:aN}
theorem aan(h:VC c){i:Int}(hi:0<=i/\i<(c.aJ.length:Int)):0<=(c.aJ.getD i.toNat aG).tN/\(c.aJ.getD i.toNat aG).tN<(c.iO.length:Int):=
 let⟨a,b,_⟩:=h.oK _ (jk (by omega:i.toNat<c.aJ.length));⟨a,b⟩
theorem agM(h:VC c)(i:Int): -1<=eF c i/\eF c i<c.gH:=by
 have hr:=h.reg;unfold eF;split
 .rename_i hi;have hz:=aan h hi;have:=h.z _ (jk (by omega:((c.aJ.getD i.toNat aG).tN).toNat<c.iO.length));omega
 .omega
theorem Zm(h:VC c){i:Int}(hi:0<=i/\i<(c.aJ.length:Int)):0<=eF c i:=by unfold eF;rw[bU hi];have hz:=aan h hi;exact(h.z _ (jk (by omega:((c.aJ.getD i.toNat aG).tN).toNat<c.iO.length))).1
theorem agL(h:VC c)(i:Int):KE c i=some (eF c i):=by
 unfold KE agK eF;(try simp only[gF,bF])
 by_cases hi:0<=i/\i<(c.aJ.length:Int)
 .have hz:=aan h hi;have e1:(decide (i<0)||decide ((c.aJ.length:Int)<=i))=false:=ay
  rw[e1,bU hi];simp only[aZ,idx_eq hi,bD];rw[fF ah];simp only[aZ,idx_eq hz,bD]
 .have e1:(decide (i<0)||decide ((c.aJ.length:Int)<=i))=true:=ay
  rw[e1,cZ hi];rfl
theorem Ay(h:VC c){i:Int}:wD c i=some (eF c i):=by
 have hcl:=h.cl;have hzl:=h.zl;unfold wD ag0 NY mX eF;(try simp only[gF,bF])
 rw[bLZ,bLZ];by_cases hi:0<=i/\i<(c.aJ.length:Int)
 .have hz:=aan h hi;have e1:(decide (0<=i)&&decide (i<=(c.aJ.length:Int)-1))=true:=ay
  rw[bU hi];simp only[bD,e1,gN,aZ,idx_eq hi];have e2:(decide (0<=(c.aJ.getD i.toNat aG).tN)&&decide ((c.aJ.getD i.toNat aG).tN<=(c.iO.length:Int)-1))=true:=by simp only[dD,oo];omega
  simp only[e2,gN,aZ,idx_eq hz,bD]
 .have e1:(decide (0<=i)&&decide (i<=(c.aJ.length:Int)-1))=false:=ay
  rw[cZ hi];simp only[bD,e1,jG,aY];rfl
theorem fdiv_pow{s:Int}(_:0<=s)(n:Nat):s.fdiv (2^n)=s / 2^n:=asU _ (ab3 (Wd ak))
theorem La{s i:Int}(hs:0<=s):DW s i=some (hasB s i):=by
 unfold DW hasB;(try simp only[gF,bF])
 by_cases hi:0<=i/\i<62
 .have e:(decide (0<=i)&&decide (i<62))=true:=ay
  rw[e,Jh hi.1 ah,dU hi.1,dU hi];simp only[gN,Qd,bq,aY,kN,iF,IntKind.bits];rw[Ef ah,fdiv_pow hs,asV (ajR hs (ab3 (Wd ak)))];have hm:=Int.emod_two_eq (s / 2^i.toNat);rcases hm with hm|hm<;>rw[hm]<;>rfl
 .have e:(decide (0<=i)&&decide (i<62))=false:=ay
  rw[e,fF hi];rfl
theorem and_one{s:Int}(h0:0<=s)(h1:s<9223372036854775808:=by omega):jd .i64 s 1=s%2:=by
 unfold jd;have e1:(BitVec.ofInt IntKind.i64.bits s&&&BitVec.ofInt IntKind.i64.bits 1).toNat=s.toNat%2:=by
  show(BitVec.ofInt 64 s&&&BitVec.ofInt 64 1).toNat=_;rw[BitVec.toNat_and,ajP,ajP];have:(s%((2:Nat)^64:Nat)).toNat=s.toNat:=by have:s%((2:Nat)^64:Nat)=s:=Int.emod_eq_of_lt h0 ay;rw[this]
  rw[this];have h2:((1:Int)%((2:Nat)^64:Nat)).toNat=1:=rfl;rw[h2,Nat.and_one_is_mod]
 rw[e1];have:IntKind.i64.wrap ((s.toNat%2:Nat):Int)=((s.toNat%2:Nat):Int):=bLZ;rw[this];omega
end
section
variable {c:aN}
theorem anY(h:VC c){t:Int}(ht:0<=t/\t<(c.aH.length:Int)):0<=(c.aH.getD t.toNat aG).BS/\(c.aH.getD t.toNat aG).BS<8:=by have hv:=h.t _ (jk (by omega:t.toNat<c.aH.length));have:=hv.allowed;have:=asz h.reg;omega
theorem U6(h:VC c)(t cell:Int):F9 c t cell=some (oH c t cell):=by
 unfold F9 oH;(try simp only[gF,bF])
 by_cases ht:0<=t/\t<(c.aH.length:Int)
 .have e:(decide (0<=t)&&decide (t<(c.aH.length:Int)))=true:=ay
  have ha:=anY h ht;rw[e,dU ht];simp only[Lv ht,aY,agL h,La ha.1,kN,bD]
 .have e:(decide (0<=t)&&decide (t<(c.aH.length:Int)))=false:=ay
  rw[e,fF ht];rfl
theorem aot(h:VC c)(a b:Int):UG c a b=some (qx c a b):=by
 unfold UG qx;(try simp only[gF,bF])
 simp only[agL h,bD]
theorem ahH(h:VC c)(a b:Int):IG c a b=some (kE c a b):=by
 unfold IG kE;(try simp only[gF,bF])
 cases (decide (0<=a)&&decide (0<=b))with|true=>simp only[aY,aot h,bD]|false=>rfl
theorem agO(h:VC c)(a b:Int):OQ c a b=some (qx c a b):=by
 unfold OQ qx;(try simp only[gF,bF])
 simp only[Ay h,bD]
theorem ahG(h:VC c){s:aO}(hs:0<=s.d9)(i:Int):KN c s i=some (hasB s.d9 (eF c i)):=by
 unfold KN;(try simp only[gF,bF])
 simp only[agL h,bD,La hs]
end
def pI(l:List Int)(i n:Int):List Int:=if 0<=i/\i<(l.length:Int)then l.set i.toNat (l.getD i.toNat 0+n)else l
def book1(l:List Int)(t:bI)(d:iq):List Int:=
 if t.dN then
  let l:=if t.eX then l else pI (pI l t.bC d.dZ) t.dK d.dZ
  pI (pI l t.aT d.jA) t.Next d.jA
 else l
def qB(c:aN)(ts:List bI):Nat->List Int->List Int
 |0,l=>l
 |k+1,l=>book1 (qB c ts k l) (ts.getD k aG) (c.aH.getD k aG)
def nA(c:aN)(s:aO):List Int:=qB c s.aH s.aH.length (List.replicate c.aJ.length 0)
theorem qm(l:List Int)(i n:Int):(pI l i n).length=l.length:=by unfold pI;split<;>simp
theorem aIR(l:List Int)(t:bI)(d:iq):(book1 l t d).length=l.length:=by
 unfold book1;split
 .split<;>simp[qm]
 .rfl
theorem apf(c:aN)(ts:List bI)(k:Nat)(l:List Int):(qB c ts k l).length=l.length:=by induction k with|zero=>rfl|succ k ih=>rw[qB,aIR,ih]
theorem KU(c:aN)(s:aO):(nA c s).length=c.aJ.length:=by unfold nA;rw[apf];simp
def Bd(l:List Int)(b:Int):Prop:=∀x∈l,0<=x/\x<=b
theorem yI{l:List Int}{b i n:Int}(h:Bd l b)(hn:0<=n/\n<=65536):Bd (pI l i n) (b+65536):=by
 unfold pI;split
 .rename_i hi;intro x hx;rcases Gm hx with h1|h1
  .have:=h x h1;omega
  .have hm:=h _ (jk (by omega:i.toNat<l.length));have e:l.getD i.toNat 0=l.getD i.toNat aG:=rfl;rw[e]at h1;omega
 .intro x hx;have:=h x hx;omega
theorem aJG{l:List Int}{b:Int}{t:bI}{d:iq}(h:Bd l b)(hd:0<=d.dZ/\d.dZ<=65536/\0<=d.jA/\d.jA<=65536):Bd (book1 l t d) (b+262144):=by
 unfold book1;split
 .split
  .intro x hx;have:=yI (yI h ⟨hd.2.2.1,hd.2.2.2⟩) ⟨hd.2.2.1,hd.2.2.2⟩ x hx;omega
  .intro x hx;have:=yI (yI (yI (yI h ⟨hd.1,hd.2.1⟩) ⟨hd.1,hd.2.1⟩) ⟨hd.2.2.1,hd.2.2.2⟩) ⟨hd.2.2.1,hd.2.2.2⟩ x hx;omega
 .intro x hx;have:=h x hx;omega
theorem AB{c:aN}(h:VC c){k:Nat}(hk:k<c.aH.length):0<=(c.aH.getD k aG).dZ/\(c.aH.getD k aG).dZ<=65536/\0<=(c.aH.getD k aG).jA/\(c.aH.getD k aG).jA<=65536:=by have hv:=h.t _ (jk hk);have h1:=hv.load;have h2:=hv.shadow;omega
theorem ahQ{c:aN}(h:VC c){ts:List bI}{l:List Int}(hl:Bd l 0):∀k,k<=c.aH.length->Bd (qB c ts k l) (262144*k)
 |0,_=>by simpa[qB]using hl
 |k+1,hk=>by have:=aJG (t:=ts.getD k aG) (ahQ h (ts:=ts) hl k ah) (AB h (by omega:k<c.aH.length));intro x hx;have:=this x hx;push_cast;omega
theorem apg{c:aN}(h:VC c){s:aO}(hl:s.aH.length=c.aH.length):Bd (nA c s) 8388608:=by have htl:=h.tl;have:=ahQ h (ts:=s.aH) (l:=List.replicate c.aJ.length 0) (by intro x hx;rw[Ll hx];omega) s.aH.length ah;intro x hx;have:=this x hx;omega
theorem zZ{l:List Int}{b i n:Int}(h:Bd l b)(hb:b<=1000000000)(hn:0<=n/\n<=65536:=by omega):Lb l i n=some (pI l i n)/\I7 l i n=some (pI l i n):=by
 unfold Lb I7 pI;(try simp only[gF,bF])
 by_cases hi:0<=i/\i<(l.length:Int)
 .have e:(decide (0<=i)&&decide (i<(l.length:Int)))=true:=ay
  have hm:=h _ (jk (by omega:i.toNat<l.length));rw[e,bU hi];have e0:l.getD i.toNat 0=l.getD i.toNat aG:=rfl;simp only[aY,idx_eq hi,bD];rw[bLZ,e0];exact⟨rfl,rfl⟩
 .have e:(decide (0<=i)&&decide (i<(l.length:Int)))=false:=ay
  rw[e,cZ hi];exact⟨rfl,rfl⟩
section
variable {c:aN} {s:aO}
theorem aoE(h:VC c)(hl:s.aH.length=c.aH.length){l0:List Int}(h0:Bd l0 0){k:Nat}(hk:k<s.aH.length):Bd (qB c s.aH k l0) 8388608:=by have htl:=h.tl;intro x hx;have:=ahQ h (ts:=s.aH) h0 k ah x hx;omega
theorem anW(h:VC c)(hl:s.aH.length=c.aH.length){l0:List Int}(h0:Bd l0 0):
  ∀(m k:Nat),s.aH.length-k<m->k<=s.aH.length->IB c s m (qB c s.aH k l0) (k:Int)=some (qB c s.aH s.aH.length l0)
 |0,_,hm,_=>absurd hm (kF _)
 |m +1,k,hm,hk=>by
  have htl:=h.tl;rw[IB];(try simp only[gF,bF])
  by_cases hlt:k<s.aH.length
  .rw[dU (show(k:Int)<(s.aH.length:Int)by omega)];have i1:0<=(k:Int)/\(k:Int)<(s.aH.length:Int):=ah;have i2:0<=(k:Int)/\(k:Int)<(c.aH.length:Int):=ah;simp only[aY,idx_eq i1,idx_eq i2,bD,gW];have hb:=aoE h hl h0 hlt;have hd:=AB h (by omega:k<c.aH.length);have next:IB c s m (qB c s.aH (k+1) l0) (aQ ((k:Int)+1))=some (qB c s.aH s.aH.length l0):=by rw[bLZ];have:=anW h hl h0 m (k+1) ah ah;simpa using this
   simp only[qB]at next
   generalize hT:s.aH.getD k aG=t at next⊢
   generalize hD:c.aH.getD k aG=d at next hd⊢
   generalize hL:qB c s.aH k l0=l at next hb⊢
   unfold book1 at next
   unfold YR YQ;(try simp only[gF,bF])
   rcases hp:t.dN with _|_;simp only[hp,jG,aY,nD,mJ]at next⊢;exact next
   simp only[hp,gN,aZ,l7]at next⊢
   cases hs:t.eX with
   |true=>
    simp only[hs,gN,aZ,l7]at next⊢
    have a1:=(zZ (i:=t.aT) hb ah ⟨hd.2.2.1,hd.2.2.2⟩).1;have b1:=yI (i:=t.aT) hb ⟨hd.2.2.1,hd.2.2.2⟩;have a2:=(zZ (i:=t.Next) b1 ah ⟨hd.2.2.1,hd.2.2.2⟩).1;simp only[a1,a2,bD,qm,VL,bq,aY];exact next
   |false=>
    simp only[hs,jG,aY,nD,mJ]at next⊢
    have a1:=(zZ (i:=t.bC) hb ah ⟨hd.1,hd.2.1⟩).1;have b1:=yI (i:=t.bC) hb ⟨hd.1,hd.2.1⟩;have a2:=(zZ (i:=t.dK) b1 ah ⟨hd.1,hd.2.1⟩).1;have b2:=yI (i:=t.dK) b1 ⟨hd.1,hd.2.1⟩;have a3:=(zZ (i:=t.aT) b2 ah ⟨hd.2.2.1,hd.2.2.2⟩).1;have b3:=yI (i:=t.aT) b2 ⟨hd.2.2.1,hd.2.2.2⟩;have a4:=(zZ (i:=t.Next) b3 ah ⟨hd.2.2.1,hd.2.2.2⟩).1;simp only[a1,a2,a3,a4,bD,qm,VL,bq,aY];exact next
  .rw[fF (show¬(k:Int)<(s.aH.length:Int)by omega)];have:k=s.aH.length:=ah;subst this;rfl
theorem an3(h:VC c)(hl:s.aH.length=c.aH.length){l0:List Int}(h0:Bd l0 0):
  ∀(m k:Nat),s.aH.length-k<m->k<=s.aH.length->IE c s (s.aH.length:Int) m (qB c s.aH k l0) (k:Int)=some (qB c s.aH s.aH.length l0)
 |0,_,hm,_=>absurd hm (kF _)
 |m +1,k,hm,hk=>by
  have htl:=h.tl;rw[IE];(try simp only[gF,bF])
  by_cases hlt:k<s.aH.length
  .rw[dU (show(k:Int)<(s.aH.length:Int)by omega)];have i1:0<=(k:Int)/\(k:Int)<(s.aH.length:Int):=ah;have i2:0<=(k:Int)/\(k:Int)<(c.aH.length:Int):=ah;simp only[aY,idx_eq i1,idx_eq i2,bD,gW];have hb:=aoE h hl h0 hlt;have hd:=AB h (by omega:k<c.aH.length);have next:IE c s (s.aH.length:Int) m (qB c s.aH (k+1) l0) (aQ ((k:Int)+1))=some (qB c s.aH s.aH.length l0):=by rw[bLZ];have:=an3 h hl h0 m (k+1) ah ah;simpa using this
   simp only[qB]at next
   generalize hT:s.aH.getD k aG=t at next⊢
   generalize hD:c.aH.getD k aG=d at next hd⊢
   generalize hL:qB c s.aH k l0=l at next hb⊢
   unfold book1 at next
   unfold Y0 YZ Uy;(try simp only[gF,bF])
   rcases hp:t.dN with _|_;simp only[hp,jG,aY,nD,mJ]at next⊢;exact next
   simp only[hp,gN,aZ,l7,bD,kN]at next⊢
   cases hs:t.eX with
   |true=>
    simp only[hs,gN,aZ,l7]at next⊢
    have a1:=(zZ (i:=t.aT) hb ah ⟨hd.2.2.1,hd.2.2.2⟩).2;have b1:=yI (i:=t.aT) hb ⟨hd.2.2.1,hd.2.2.2⟩;have a2:=(zZ (i:=t.Next) b1 ah ⟨hd.2.2.1,hd.2.2.2⟩).2;simp only[a1,a2,bD,qm,VL,bq,aY];exact next
   |false=>
    simp only[hs,jG,aY,nD,mJ]at next⊢
    have a1:=(zZ (i:=t.bC) hb ah ⟨hd.1,hd.2.1⟩).2;have b1:=yI (i:=t.bC) hb ⟨hd.1,hd.2.1⟩;have a2:=(zZ (i:=t.dK) b1 ah ⟨hd.1,hd.2.1⟩).2;have b2:=yI (i:=t.dK) b1 ⟨hd.1,hd.2.1⟩;have a3:=(zZ (i:=t.aT) b2 ah ⟨hd.2.2.1,hd.2.2.2⟩).2;have b3:=yI (i:=t.aT) b2 ⟨hd.2.2.1,hd.2.2.2⟩;have a4:=(zZ (i:=t.Next) b3 ah ⟨hd.2.2.1,hd.2.2.2⟩).2;simp only[a1,a2,a3,a4,bD,qm,VL,bq,aY];exact next
  .rw[fF (show¬(k:Int)<(s.aH.length:Int)by omega)];have:k=s.aH.length:=ah;subst this;rfl
theorem abh(n:Nat):Bd (List.replicate n 0) 0:=by intro x hx;rw[Ll hx];omega
theorem aGq(h:VC c)(hl:s.aH.length=c.aH.length):ZA c s=some (nA c s):=by
 have hcl:=h.cl;have htl:=h.tl;unfold ZA nA;(try simp only[gF,bF])
 rw[dU ah];have:=anW h hl (abh c.aJ.length) fuel 0 aB ah;simpa[bq,qB]using this
theorem Uz(h:VC c)(hl:s.aH.length=c.aH.length):IX c s=some (nA c s):=by
 have hcl:=h.cl;have htl:=h.tl;unfold IX nA KX;(try simp only[gF,bF])
 rw[dU ah];have:=an3 h hl (abh c.aJ.length) fuel 0 aB ah;simpa[bq,qB,je,hl]using this
end
def sP(c:aN)(b:List Int):Nat->List Int
 |0=> []
 |k+1=>if(c.aJ.getD k aG).lT<b.getD k 0 then sP c b k++ [(k:Int)]else sP c b k
def qb(c:aN)(s:aO):List Int:=sP c (nA c s) c.aJ.length
theorem ahC(c:aN)(b:List Int):∀k,(sP c b k).length<=k
 |0=>gI 0
 |k+1=>by
  have:=ahC c b k;rw[sP];split
  .simp;omega
  .omega
section
variable {c:aN} {b:List Int}
theorem aof(h:VC c)(hl:b.length=c.aJ.length):∀(m k:Nat),c.aJ.length - k<m->k<=c.aJ.length->KI c b m (sP c b k) (k:Int)=some (sP c b c.aJ.length)
 |0,_,hm,_=>absurd hm (kF _)
 |m+1,k,hm,hk=>by
  have hcl:=h.cl;have hol:=ahC c b k;rw[KI];(try simp only[gF,bF])
  by_cases hlt:k<c.aJ.length
  .rw[dU (show(k:Int)<(b.length:Int)by omega)];have i1:0<=(k:Int)/\(k:Int)<(b.length:Int):=ah;have i2:0<=(k:Int)/\(k:Int)<(c.aJ.length:Int):=ah;simp only[aY,idx_eq i1,idx_eq i2,bD,gW];have next:KI c b m (sP c b (k+1)) (aQ ((k:Int)+1))=some (sP c b c.aJ.length):=by rw[bLZ];have:=aof h hl m (k+1) ah ah;simpa using this
   simp only[sP]at next
   unfold Zg;(try simp only[gF,bF])
   have e0:b.getD k 0=b.getD k aG:=rfl;rw[e0]at next
   by_cases hc:(c.aJ.getD k aG).lT<b.getD k aG
   .rw[bU hc]at next
    rw[dU hc,dU (show((sP c b k).length+ [(k:Int)].length)*8<=140737488355328 by simp;omega)];exact next
   .rw[cZ hc]at next
    rw[fF hc];exact next
  .rw[fF (show¬(k:Int)<(b.length:Int)by omega)];have:k=c.aJ.length:=ah;subst this;rfl
theorem aIe(h:VC c){s:aO}(hl:s.aH.length=c.aH.length):aae c s=some (qb c s):=by
 have hcl:=h.cl;unfold aae qb;(try simp only[gF,bF])
 rw[aGq h hl];have:=aof h (KU c s) fuel 0 aB ah;simpa[sP]using this
end
end Go.CP
