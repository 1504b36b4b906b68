/- Models of the program's functions, printed by tx.py. -/
import Derived.Test.YtblcklaeejienaaGreatP24a55d099
set_option linter.defProp false
set_option linter.unusedSectionVars false
set_option linter.unusedSimpArgs false
set_option linter.unusedVariables false
namespace Go.CP
open Go
variable [Fuel]
abbrev Jv(p1:Int):Int:=je .u64 (IntKind.u64.wrap ((iJ .u64 (IntKind.u64.wrap ((je .u64 (iJ .u64 (IntKind.u64.wrap ((je .u64 (iJ .u64 p1 1) 6148914691236517205)+(je .u64 p1 6148914691236517205))) 2) 3689348814741910323)+(je .u64 (IntKind.u64.wrap ((je .u64 (iJ .u64 p1 1) 6148914691236517205)+(je .u64 p1 6148914691236517205))) 3689348814741910323))) 4)+(IntKind.u64.wrap ((je .u64 (iJ .u64 (IntKind.u64.wrap ((je .u64 (iJ .u64 p1 1) 6148914691236517205)+(je .u64 p1 6148914691236517205))) 2) 3689348814741910323)+(je .u64 (IntKind.u64.wrap ((je .u64 (iJ .u64 p1 1) 6148914691236517205)+(je .u64 p1 6148914691236517205))) 3689348814741910323))))) 1085102592571150095
abbrev Ju:ByteArray:=ByteArray.mk #[0,1,1,2,1,2,2,3,1,2,2,3,2,3,3,4,1,2,2,3,2,3,3,4,2,3,3,4,3,4,4,5,1,2,2,3,2,3,3,4,2,3,3,4,3,4,4,5,2,3,3,4,3,4,4,5,3,4,4,5,4,5,5,6,1,2,2,3,2,3,3,4,2,3,3,4,3,4,4,5,2,3,3,4,3,4,4,5,3,4,4,5,4,5,5,6,2,3,3,4,3,4,4,5,3,4,4,5,4,5,5,6,3,4,4,5,4,5,5,6,4,5,5,6,5,6,6,7,1,2,2,3,2,3,3,4,2,3,3,4,3,4,4,5,2,3,3,4,3,4,4,5,3,4,4,5,4,5,5,6,2,3,3,4,3,4,4,5,3,4,4,5,4,5,5,6,3,4,4,5,4,5,5,6,4,5,5,6,5,6,6,7,2,3,3,4,3,4,4,5,3,4,4,5,4,5,5,6,3,4,4,5,4,5,5,6,4,5,5,6,5,6,6,7,3,4,4,5,4,5,5,6,4,5,5,6,5,6,6,7,4,5,5,6,5,6,6,7,5,6,6,7,6,7,7,8]
def ara:Option aM:=some (⟨2,[⟨0⟩,⟨1⟩],[⟨0,9⟩,⟨1,9⟩],[⟨5,2,0,0,3,0,false⟩],[⟨0,0⟩],[0],[0],1,20,0⟩:aM)
def mZ(p1 p2 p3:Int):Option Bool:=some (decide (p2<=p1)&&decide (p1<=p3))
def Zp(p1:aM):Option Bool:=(mZ p1.gK 1 4).bind λx1=>(bif x1 then mZ (p1.iM.length:Int) 1 8 else some aG).bind λx2=>(bif x1&&x2 then mZ (p1.aK.length:Int) 1 16 else some aG).bind λx3=>(bif(x1&&x2)&&x3 then mZ (p1.fG.length:Int) 1 30 else some aG).bind λx4=>(bif((x1&&x2)&&x3)&&x4 then mZ (p1.cZ.length:Int) 1 5 else some aG).bind λx5=>(bif(((x1&&x2)&&x3)&&x4)&&x5 then mZ (p1.jW.length:Int) 1 9 else some aG).bind λx6=>some ((((((x1&&x2)&&x3)&&x4)&&x5)&&x6)&&decide ((p1.aH.length:Int)<=32))
def TH(x1:Int)(x2:List Int)(x3:Int):Nat->Int->Option Bool|0,_=>none|bf+1,x4=>bif decide (x4<x3) then bC x2 x4 λx5=>(mZ x5 0 x1).bind λx6=>bif !x6 then some false else(TH x1 x2 x3 bf) (aQ (x4+1)) else some true
def TI(p1:aM)(x1:Int)(x7:List Int)(x8:Int):Nat->Int->Option Bool|0,_=>none|wB+1,x9=>bif decide (x9<x8) then bC x7 x9 λx10=>(mZ x10 0 x1).bind λbU=>bif !bU then some false else(TI p1 x1 x7 x8 wB) (aQ (x9+1)) else TH x1 p1.jW (p1.jW.length:Int) fuel 0
def TJ(p1:aM)(x1:Int)(bV:List jy)(dG:Int):Nat->Int->Option Bool|0,_=>none|Hq+1,dD=>bif decide (dD<dG) then bC bV dD λfu=>(mZ fu.uJ 0 x1).bind λgZ=>bif !gZ then some false else(TJ p1 x1 bV dG Hq) (aQ (dD+1)) else TI p1 x1 p1.cZ (p1.cZ.length:Int) fuel 0
def TK(p1:aM)(iE:List jA)(x18:Int):Nat->Int->Option Bool|0,_=>none|JL+1,lH=>bif decide (lH<x18) then bC iE lH λx20=>(mZ x20.Region 0 (aQ (p1.gK-1))).bind λx21=>bif !x21 then some false else(TK p1 iE x18 JL) (aQ (lH+1)) else TJ p1 (aQ ((p1.iM.length:Int)-1)) p1.aK (p1.aK.length:Int) fuel 0
def ZL(p1:aM):Option Bool:=TK p1 p1.iM (p1.iM.length:Int) fuel 0
def TL(p1:aM)(x1:List jg)(x2:Int):Nat->Int->Option Bool|0,_=>none|bf+1,x3=>bif decide (x3<x2) then bC x1 x3 λx4=>bif((decide (x4.gP<0)||decide (x4.dP<x4.gP))||decide (30<x4.dP))||x3==0&&x4.gP !=0 then some false else(TL p1 x1 x2 bf) (aQ (x3+1)) else(mZ p1.oz 1 16).bind λx5=>(bif x5 then mZ p1.iQ 1 1000 else some aG).bind λx6=>(bif x5&&x6 then mZ p1.o7 0 10000 else some aG).bind λx7=>some ((x5&&x6)&&x7)
def TM(p1:aM)(x8:List jy)(x9:Int):Nat->Int->Option Bool|0,_=>none|wB+1,x10=>bif decide (x10<x9) then bC x8 x10 λbU=>(mZ bU.mg 1 4194304).bind λbV=>bif !bV then some false else(TM p1 x8 x9 wB) (aQ (x10+1)) else TL p1 p1.fG (p1.fG.length:Int) fuel 0
def ZM(p1:aM):Option Bool:=TM p1 p1.aK (p1.aK.length:Int) fuel 0
def Z7(p1:aM):Option Int:=(Zp p1).bind λx1=>bif !x1 then some 2 else(bif !(Int.tmod (p1.cZ.length:Int) 2==0) then ZL p1 else some aG).bind λx2=>(bif !(Int.tmod (p1.cZ.length:Int) 2==0||!x2) then ZM p1 else some aG).bind λx3=>bif(Int.tmod (p1.cZ.length:Int) 2==0||!x2)||!x3 then some 1 else some 0
def BZ(p1 p2 p3:Int):Option Bool:=some (decide (p2<=p1)&&decide (p1<=p3))
def YC(p1:iG)(p2:Int):Option Bool:=(BZ p1.eD 1 65536).bind λx1=>(bif x1 then BZ p1.kK 0 p1.eD else some aG).bind λx2=>(bif x1&&x2 then BZ p1.gM 0 9 else some aG).bind λx3=>(bif(x1&&x2)&&x3 then BZ p1.WT (-1) 1000 else some aG).bind λx4=>bq (!(((x1&&x2)&&x3)&&x4)||decide ((0:Int)<=IntKind.u64.wrap p2)) ((bif((x1&&x2)&&x3)&&x4 then BZ p1.Ce 1 (aQ ((iL .i64 1 (IntKind.u64.wrap p2))-1))else some aG).bind λx5=>(bif(((x1&&x2)&&x3)&&x4)&&x5 then BZ p1.VQ 0 32 else some aG).bind λx6=>some (((((x1&&x2)&&x3)&&x4)&&x5)&&x6))
def N8(p1:aM)(x1:List iG)(x2:Int):Nat->Int->Option Int|0,_=>none|bf+1,x3=>bif decide (x3<x2) then bC x1 x3 λx4=>(YC x4 p1.gK).bind λx5=>bif !x5 then some 1 else(N8 p1 x1 x2 bf) (aQ (x3+1)) else some 0
def Ui(p1:aM):Option Int:=(Z7 p1).bind λx6=>bif x6 !=0 then some x6 else N8 p1 p1.aH (p1.aH.length:Int) fuel 0
def apF:Option bQ:=some (⟨([]:List Int),0⟩:bQ)
def anR:Option fT:=apF.bind λx1=>some (⟨x1,0,(-1),([]:List cO)⟩:fT)
def Uu(p1 p2:Int):Option (bn×Int):=bq (!(!(decide (p2<1)||decide (5<p2)))||decide (2≠(0:Int))) (bif(((decide (p2<1)||decide (5<p2))||Int.tmod p2 2==0)||decide (p1<0))||decide (p2<=p1) then none else anR.bind λx1=>some ((⟨x1,p1,p2,1,0,0,⟨0,0,0,0,0⟩,⟨0,0,0,0,0⟩⟩:bn),0))
def agS(p1:Int):Option (bR×Int):=bif decide (0<p1)||0==0 then(Uu 0 p1).bind λx1=>bif x1.2 !=0 then none else bif decide (1<p1)||1==0 then none else some ((⟨[x1.1],([]:List bJ),([]:List aP)⟩:bR),0) else none
def adT(p1:(List jA)):Option (List jA):=bq (decide ((([]:List jA).length+p1.length)*8<=room)) (some (([]:List jA)++p1))
def adS(p1:(List jy)):Option (List jy):=bq (decide ((([]:List jy).length+p1.length)*16<=room)) (some (([]:List jy)++p1))
def adK(p1:(List iG)):Option (List iG):=bq (decide ((([]:List iG).length+p1.length)*56<=room)) (some (([]:List iG)++p1))
def adH(p1:(List jg)):Option (List jg):=bq (decide ((([]:List jg).length+p1.length)*16<=room)) (some (([]:List jg)++p1))
def Yg(p1:(List Int)):Option (List Int):=bq (decide ((([]:List Int).length+p1.length)*8<=room)) (some (([]:List Int)++p1))
def Ub(p1:aM):Option aM:=(adT p1.iM).bind λx1=>(adS p1.aK).bind λx2=>(adK p1.aH).bind λx3=>(adH p1.fG).bind λx4=>(Yg p1.cZ).bind λx5=>(Yg p1.jW).bind λx6=>some (⟨p1.gK,x1,x2,x3,x4,x5,x6,p1.oz,p1.iQ,p1.o7⟩:aM)
def IW(x1:Int):Nat->aN->Int->Option aN|0,_,_=>none|bf+1,x2,x3=>bif decide (x3<x1) then bC x2.aK x3 λx4=>bG (x2.aK.set (Int.toNat x3) {x4 with ig:=1}) λx5=>(IW x1 bf) {x2 with aK:=x5} (aQ (x3+1)) else some x2
def IX(x6:Int):Nat->aN->Int->Option aN|0,_,_=>none|wB+1,x7,x8=>bif decide (x8<x6) then bC x7.aH x8 λx9=>bG (x7.aH.set (Int.toNat x8) (⟨false,false,(-1),(-1),(-1),(-1),0,⟨(-1),0,0,0,0⟩⟩:bM)) λx10=>(IX x6 wB) {x7 with aH:=x10} (aQ (x8+1)) else IW (x7.aK.length:Int) fuel x7 0
def OQ(p1:aM):Option aN:=bq (decide ((0:Int)<=(p1.aH.length:Int)/\((p1.aH.length:Int):Int)<=(p1.aH.length:Int)/\((p1.aH.length:Int):Int)<=9223372036854775807/\((p1.aH.length:Int):Int)*88<=140737488355328)) (bq (decide ((0:Int)<=(p1.aK.length:Int)/\((p1.aK.length:Int):Int)<=(p1.aK.length:Int)/\((p1.aK.length:Int):Int)<=9223372036854775807/\((p1.aK.length:Int):Int)*32<=140737488355328)) (IX (((List.replicate (Int.toNat (p1.aH.length:Int)) (aG:bM)).length:Nat):Int) fuel (⟨0,0,List.replicate (Int.toNat (p1.aH.length:Int)) (aG:bM),List.replicate (Int.toNat (p1.aK.length:Int)) (aG:gG),1,0,0,0⟩:aN) 0))
def K9(p1:aM):Option (bO×Int):=(Ui p1).bind λx1=>bif x1 !=0 then none else(agS (p1.cZ.length:Int)).bind λx2=>bif x2.2 !=0 then none else(Ub p1).bind λx3=>bq (decide ((0:Int)<=(x3.cZ.length:Int))) ((OQ x3).bind λx4=>some ((⟨x3,iI x2.1,aQ ((iL .i64 1 (x3.cZ.length:Int))-1),x4⟩:bO),0))
def apu:Option pJ:=some (⟨([]:List (Value×Value))⟩:pJ)
def apk:Option iw:=some (⟨([]:List iV),([]:List jr),0⟩:iw)
def an1:Option jq:=some (⟨⟨⟨0,⟨0,0,0,ByteArray.empty⟩⟩,⟨0,⟨0,0,0,ByteArray.empty⟩⟩,⟨0,⟨0,0,0,ByteArray.empty⟩⟩,⟨0,⟨0,0,0,ByteArray.empty⟩⟩,⟨0,⟨0,0,0,ByteArray.empty⟩⟩,⟨0,⟨0,0,0,ByteArray.empty⟩⟩,⟨0,⟨0,0,0,ByteArray.empty⟩⟩,⟨0,⟨0,0,0,ByteArray.empty⟩⟩⟩⟩:jq)
def aoO:Option AO:=apu.bind λx1=>apk.bind λx2=>an1.bind λx3=>some (⟨x1,x2,x3⟩:AO)
def apO(p1:Int):Option iH:=some (⟨p1,0,([]:List iC)⟩:iH)
def ahr(p1 p2:Int):Option lQ:=aoO.bind λx1=>(apO p1).bind λx2=>some (⟨p1,p2,([]:List iD),x1,x2⟩:lQ)
def afZ(p1:lQ):Option (Unit×lQ):=some ((),p1)
def Kz(p1:lQ):Option Unit:=some ()
theorem aCn(p1:lQ):afZ p1=(Kz p1).bind λx=>some (x,p1):=by
  simp only[afZ,Kz,fQ,gq,gD,gB,gF,fU,bF,gu]
def JY(p1:(List bM)):Option (List bM):=bq (decide ((([]:List bM).length+p1.length)*88<=room)) (some (([]:List bM)++p1))
def JZ(p1:(List gG)):Option (List gG):=bq (decide ((([]:List gG).length+p1.length)*32<=room)) (some (([]:List gG)++p1))
def aft(p1:bO):Option (aN×bO):=(JY p1.state.aH).bind λx1=>(JZ p1.state.aK).bind λx2=>some ({p1.state with aH:=x1,aK:=x2},iU p1)
def rW(p1:bO):Option aN:=(JY p1.state.aH).bind λx1=>(JZ p1.state.aK).bind λx2=>some {p1.state with aH:=x1,aK:=x2}
theorem aAV(p1:bO):aft p1=(rW p1).bind λx=>some (x,iU p1):=by
  simp only[aft,rW,fQ,gq,gD,gB,gF,fU,bF,gu]
def apv(p1:aM):Option wP:=(K9 p1).bind λx1=>bif false||x1.2 !=0 then none else bif decide (0<(p1.aH.length:Int)) then bif decide (0<(p1.aK.length:Int)) then(ahr 0 0).bind λx2=>(bif !false then Kz x2 else some aG).bind λx3=>bif false&&true then none else bif decide (1<(p1.aK.length:Int)) then(ahr 1 0).bind λx4=>(bif !false then Kz x4 else some aG).bind λx5=>bif false&&true then none else bif decide (2<(p1.aK.length:Int)) then none else bif decide (1<(p1.aH.length:Int)) then none else(rW (iU x1.1)).bind λx6=>bif(x6.aH.length:Int) !=(p1.aH.length:Int)||(x6.aK.length:Int) !=(p1.aK.length:Int) then none else some (⟨p1,iU x1.1,[[x2,x4]],([]:List iK),([]:List wI),0⟩:wP) else none else none else none
def az8(p1:Int):Option Int:=bq (decide (0<=(iJ .u32 p1 24)/\(iJ .u32 p1 24)<((Ju.size:Nat):Int))) (bq (decide (0<=(je .u32 (iJ .u32 p1 16) 255)/\(je .u32 (iJ .u32 p1 16) 255)<((Ju.size:Nat):Int))) (bq (decide (0<=(je .u32 (iJ .u32 p1 8) 255)/\(je .u32 (iJ .u32 p1 8) 255)<((Ju.size:Nat):Int))) (bq (decide (0<=(je .u32 p1 255)/\(je .u32 p1 255)<((Ju.size:Nat):Int))) (some (IntKind.i64.wrap (IntKind.u8.wrap ((IntKind.u8.wrap ((IntKind.u8.wrap ((Vw Ju (iJ .u32 p1 24))+(Vw Ju (je .u32 (iJ .u32 p1 16) 255))))+(Vw Ju (je .u32 (iJ .u32 p1 8) 255))))+(Vw Ju (je .u32 p1 255)))))))))
def amD(p1:Int):Option Int:=some (je .i64 (IntKind.i64.wrap (IntKind.u64.wrap ((IntKind.u64.wrap ((IntKind.u64.wrap ((Jv p1)+(iJ .u64 (Jv p1) 8)))+(iJ .u64 (IntKind.u64.wrap ((Jv p1)+(iJ .u64 (Jv p1) 8))) 16)))+(iJ .u64 (IntKind.u64.wrap ((IntKind.u64.wrap ((Jv p1)+(iJ .u64 (Jv p1) 8)))+(iJ .u64 (IntKind.u64.wrap ((Jv p1)+(iJ .u64 (Jv p1) 8))) 16))) 32)))) 127)
def Sn(p1:Int):Option Int:=(amD p1).bind λx1=>some x1
def afs(p1:bO):Option (Bool×bO):=(Sn (IntKind.u64.wrap p1.up)).bind λx1=>some (decide ((p1.dY.cZ.length:Int)<aQ (2*x1)),iU p1)
def zk(p1:bO):Option Bool:=(Sn (IntKind.u64.wrap p1.up)).bind λx1=>some (decide ((p1.dY.cZ.length:Int)<aQ (2*x1)))
theorem aAU(p1:bO):afs p1=(zk p1).bind λx=>some (x,iU p1):=by
  simp only[afs,zk,fQ,gq,gD,gB,gF,fU,bF,gu]
def KT(p1:Int):Option nD:=some (⟨0,aQ (p1-1)⟩:nD)
def xJ(x1:oo):Option (oo×Bool):=some (x1,true)
def S9(p1:Int)(x2:nD)(x3:oo)(x4:Bool):Option (oo×Bool):=bif x4 then xJ x3 else bif p1==16 then xJ {x3 with n:=x2}else some ((⟨⟨0,0⟩,⟨0,0⟩,⟨0,0⟩,⟨0,0⟩,⟨0,0⟩,⟨0,0⟩⟩:oo),false)
def Ta(p1:Int)(p2:qI)(x5 x6 x7 x2:nD)(x3:oo)(x8:Bool):Option (oo×Bool):=bif x8 then xJ {x3 with cell:=x5,n:=x6}else bif p1==12 then xJ {x3 with n:=x6}else bif p1==13 then(KT p2.regions).bind λx9=>xJ {x3 with other:=x9,n:=x7} else bif p1==14 then S9 p1 x2 x3 (p1==14)else S9 p1 x2 x3 (p1==15)
def Tc(p1:Int)(p2:qI)(x10 x5 x6 x7 x2:nD)(x3:oo)(bU:Bool):Option (oo×Bool):=bif bU then xJ {x3 with vH:=x10,cell:=x5}else bif p1==7 then xJ {x3 with vH:=x10}else bif p1==8 then xJ {x3 with vH:=x10,n:=x7}else bif p1==9 then xJ {x3 with cell:=x5,n:=(⟨1,3⟩:nD)}else bif p1==10 then Ta p1 p2 x5 x6 x7 x2 x3 (p1==10)else Ta p1 p2 x5 x6 x7 x2 x3 (p1==11)
def Zh(p1:Int)(p2:qI):Option (oo×Bool):=(KT p2.wM).bind λx10=>(KT p2.cells).bind λx5=>(KT p2.zW).bind λx6=>bif p1==1 then xJ (⟨x10,x5,⟨(-1),aQ (p2.cells-1)⟩,⟨0,0⟩,⟨0,0⟩,⟨0,0⟩⟩:oo)else bif p1==2 then xJ (⟨x10,x5,⟨(-1),(-1)⟩,⟨1,1048576⟩,⟨0,1073741824⟩,x6⟩:oo)else bif p1==3 then xJ (⟨x10,⟨(-1),(-1)⟩,⟨(-1),(-1)⟩,⟨1,1048576⟩,⟨0,0⟩,⟨0,0⟩⟩:oo)else bif p1==4 then xJ (⟨x10,⟨(-1),aQ (p2.cells-1)⟩,⟨(-1),(-1)⟩,⟨0,0⟩,⟨0,0⟩,⟨0,0⟩⟩:oo)else bif p1==5 then Tc p1 p2 x10 x5 x6 (⟨0,1⟩:nD) (⟨0,1073741824⟩:nD) (⟨⟨(-1),(-1)⟩,⟨(-1),(-1)⟩,⟨(-1),(-1)⟩,⟨0,0⟩,⟨0,0⟩,⟨0,0⟩⟩:oo) (p1==5)else Tc p1 p2 x10 x5 x6 (⟨0,1⟩:nD) (⟨0,1073741824⟩:nD) (⟨⟨(-1),(-1)⟩,⟨(-1),(-1)⟩,⟨(-1),(-1)⟩,⟨0,0⟩,⟨0,0⟩,⟨0,0⟩⟩:oo) (p1==6)
def DJ(p1:nD)(p2:Int):Option Bool:=some (decide (p1.low<=p2)&&decide (p2<=p1.Jy))
def OL(p1:aP)(p2:qI):Option Bool:=(Zh p1.aL p2).bind λx1=>bif(!x1.2||p1.aL==1&&p1.dh==p1.aJ)then some false else(bif decide (0<=p1.aZ)&&decide (p1.aZ<=1073741824) then DJ x1.1.vH p1.aI else some aG).bind λx2=>(bif(decide (0<=p1.aZ)&&decide (p1.aZ<=1073741824))&&x2 then DJ x1.1.cell p1.aJ else some aG).bind λx3=>(bif((decide (0<=p1.aZ)&&decide (p1.aZ<=1073741824))&&x2)&&x3 then DJ x1.1.other p1.dh else some aG).bind λx4=>(bif(((decide (0<=p1.aZ)&&decide (p1.aZ<=1073741824))&&x2)&&x3)&&x4 then DJ x1.1.ajz p1.bP else some aG).bind λx5=>(bif((((decide (0<=p1.aZ)&&decide (p1.aZ<=1073741824))&&x2)&&x3)&&x4)&&x5 then DJ x1.1.ab4 p1.From else some aG).bind λx6=>(bif(((((decide (0<=p1.aZ)&&decide (p1.aZ<=1073741824))&&x2)&&x3)&&x4)&&x5)&&x6 then DJ x1.1.ab4 p1.bY else some aG).bind λx7=>(bif((((((decide (0<=p1.aZ)&&decide (p1.aZ<=1073741824))&&x2)&&x3)&&x4)&&x5)&&x6)&&x7 then DJ x1.1.n p1.N else some aG).bind λx8=>some ((((((((decide (0<=p1.aZ)&&decide (p1.aZ<=1073741824))&&x2)&&x3)&&x4)&&x5)&&x6)&&x7)&&x8)
def rY(p1:aP):Option Bool:=(OL p1 (⟨32,16,4,30⟩:qI)).bind λx1=>some x1
def Ul(p1:aM)(p2:aP):Option Bool:=(rY p2).bind λx1=>(bif x1 then OL p2 (⟨(p1.aH.length:Int),(p1.aK.length:Int),p1.gK,(p1.fG.length:Int)⟩:qI)else some aG).bind λx2=>some (x1&&x2)
def F8(p1:aN)(p2:Int):Option Int:=bif decide (p2<0)||decide ((p1.aK.length:Int)<=p2) then some 0 else bC p1.aK p2 λx1=>some x1.ig
def agC(p1:aM)(p2:Int):Option Int:=(mZ p2 0 (aQ ((p1.aK.length:Int)-1))).bind λx1=>bif !x1 then some (-1) else bC p1.aK p2 λx2=>some x2.uJ
def NN(p1:aM)(p2:Int):Option Int:=(mZ p2 0 (aQ ((p1.iM.length:Int)-1))).bind λx1=>bif !x1 then some (-1) else bC p1.iM p2 λx2=>some x2.Region
def AJ(p1:aM)(p2:Int):Option Int:=(agC p1 p2).bind λx1=>(NN p1 x1).bind λx2=>some x2
def DV(p1 p2:Int):Option Bool:=bq (!(decide (0<=p2)&&decide (p2<64))||decide ((0:Int)<=p2)) (some ((decide (0<=p2)&&decide (p2<64))&&je .i64 (iJ .i64 p1 p2) 1==1))
def KQ(p1:aM)(p2:aN)(p3:Int):Option Bool:=(AJ p1 p3).bind λx1=>(DV p2.eH x1).bind λx2=>some x2
def K5(p1:aM)(p2 p3:Int):Option Bool:=(AJ p1 p3).bind λx1=>(BZ p2 0 (aQ ((p1.aH.length:Int)-1))).bind λx2=>nR (x2&&decide (0<=x1)) p1.aH p2 λx3=>bq (!(x2&&decide (0<=x1))||decide ((0:Int)<=IntKind.u64.wrap x1)) (some ((x2&&decide (0<=x1))&&je .i64 (iJ .i64 x3.Ce (IntKind.u64.wrap x1)) 1==1))
def Uh(p1:aM)(p2 p3:Int):Option Bool:=(AJ p1 p2).bind λx1=>(AJ p1 p3).bind λx2=>some ((decide (0<=x1)&&decide (0<=x2))&&x1 !=x2)
def K4(p1:aM)(p2 p3:Int):Option Bool:=(bif p3 !=(-1) then Uh p1 p2 p3 else some aG).bind λx1=>some (p3 !=(-1)&&!x1)
def YW(x1:Bool):Option Int:=bif x1 then some 11 else some 0
def YX(p1:aM)(p3:aP)(x2 x3:Bool):Option Int:=bif x3 then some 12 else(K5 p1 p3.aI p3.aJ).bind λx4=>bif !x4 then some 11 else(bif x2 then K5 p1 p3.aI p3.dh else some aG).bind λx5=>bif x2&&!x5 then YW (x2&&!x5)else(K4 p1 p3.aJ p3.dh).bind λx6=>YW x6
def YZ(p1:aM)(p2:aN)(p3:aP)(x2 x7:Bool):Option Int:=bif x7 then some 6 else(KQ p1 p2 p3.aJ).bind λx8=>bif x8 then YX p1 p3 x2 x8 else(bif x2 then KQ p1 p2 p3.dh else some aG).bind λx9=>YX p1 p3 x2 (x2&&x9)
def Uw(p1:aM)(p2:aN)(p3:aP):Option Int:=bC p2.aH p3.aI λx10=>bif x10.dZ then some 4 else(F8 p2 p3.aJ).bind λbU=>bif bU !=1 then YZ p1 p2 p3 (p3.dh !=(-1)) (bU !=1)else(bif p3.dh !=(-1) then F8 p2 p3.dh else some aG).bind λbV=>YZ p1 p2 p3 (p3.dh !=(-1)) (p3.dh !=(-1)&&bV !=1)
def SS(x1:Bool):Option Int:=bif x1 then some 11 else some 0
def SY(p1:aM)(p2:aN)(p3:aP)(x2:bM)(x3:Bool):Option Int:=bif x3 then some 5 else(F8 p2 p3.aJ).bind λx4=>bif x4 !=1 then some 6 else(KQ p1 p2 p3.aJ).bind λx5=>bif x5 then some 12 else(K5 p1 p3.aI p3.aJ).bind λx6=>bif !x6 then SS (!x6)else(Uh p1 p3.aJ x2.bL).bind λx7=>bif !x7 then SS (!x7)else(K4 p1 p3.aJ x2.dN).bind λx8=>SS x8
def TY(p1:aM)(p2:aN)(p3:aP):Option Int:=bC p2.aH p3.aI λx2=>bif !x2.dZ then some 4 else bif p3.aJ==(-1) then some 0 else bif p3.aJ==x2.bL then SY p1 p2 p3 x2 (p3.aJ==x2.bL)else bif p3.aJ==x2.bB then SY p1 p2 p3 x2 (p3.aJ==x2.bB)else SY p1 p2 p3 x2 (p3.aJ==x2.dN)
def Uy(p1:aN)(p2:aP):Option Int:=bC p1.aH p2.aI λx1=>bif !x1.dZ then some 4 else bif p2.aJ !=x1.Next then some 5 else(F8 p1 p2.aJ).bind λx2=>bif x2==3 then some 6 else some 0
def SL(x1:Bool):Option Int:=bif x1 then some 11 else some 0
def SN(p1:aM)(p2:aN)(p3:aP)(x2:bM)(x3:Bool):Option Int:=bif x3 then some 5 else(F8 p2 p3.aJ).bind λx4=>bif x4 !=1 then some 6 else(KQ p1 p2 p3.aJ).bind λx5=>bif x5 then some 12 else(K5 p1 p3.aI p3.aJ).bind λx6=>bif !x6 then SL (!x6)else(K4 p1 p3.aJ x2.bB).bind λx7=>bif x7 then SL x7 else(K4 p1 p3.aJ x2.Next).bind λx8=>SL x8
def SQ(p1:aM)(p2:aN)(p3:aP)(x2:bM)(x9:Bool):Option Int:=bif x9 then some 4 else bif p3.aJ==x2.bL then SN p1 p2 p3 x2 (p3.aJ==x2.bL)else bif p3.aJ==x2.bB then SN p1 p2 p3 x2 (p3.aJ==x2.bB)else SN p1 p2 p3 x2 (p3.aJ==x2.Next)
def TW(p1:aM)(p2:aN)(p3:aP):Option Int:=bC p2.aH p3.aI λx2=>bif !x2.dZ then SQ p1 p2 p3 x2 (!x2.dZ)else bif x2.fC then SQ p1 p2 p3 x2 x2.fC else SQ p1 p2 p3 x2 (x2.dN !=(-1))
def TV(p1:aN)(p2:aP):Option Int:=bC p1.aH p2.aI λx1=>bif(!x1.dZ||x1.dN==(-1))then some 4 else some 0
def Zd(p2:aP)(x1:bM)(x2:Bool):Option Int:=bif x2 then some 4 else bif decide (p2.aZ<x1.dV.bY) then some 9 else some 0
def UG(p1:aN)(p2:aP):Option Int:=bC p1.aH p2.aI λx1=>bif p2.N==0 then bif !x1.fC then some 4 else(F8 p1 x1.bL).bind λx3=>bif x3==3 then some 6 else some 0 else bif !x1.dZ then Zd p2 x1 (!x1.dZ)else Zd p2 x1 x1.fC
def YT(x1:Bool):Option Int:=bif x1 then some 9 else some 0
def Od(p3:aP)(x2:bM)(x3 x4:Bool):Option Int:=bif x4 then some 9 else bif decide (p3.From<x2.dV.bY) then YT (decide (p3.From<x2.dV.bY))else YT (!x3&&decide (p3.aZ<x2.dV.bY))
def YU(p1:aM)(p3:aP)(x2:bM)(x3 x5:Bool):Option Int:=bif x5 then some 8 else bif decide (p3.From<p3.aZ) then Od p3 x2 x3 (decide (p3.From<p3.aZ))else bif decide (aQ (p3.aZ+p1.iQ)<p3.From) then Od p3 x2 x3 (decide (aQ (p3.aZ+p1.iQ)<p3.From))else bif decide (p3.bY<=p3.From) then Od p3 x2 x3 (decide (p3.bY<=p3.From))else Od p3 x2 x3 (decide (p1.iQ<aQ (p3.bY-p3.From)))
def YV(p1:aM)(p3:aP)(x2:bM)(x6:gG)(x3 x7:Bool):Option Int:=bif x7 then some 6 else bif p3.bP !=aQ (x2.bP+1)&&!(x3&&p3.bP==x2.bP) then some 7 else bif p3.N !=x6.fZ then YU p1 p3 x2 x3 (p3.N !=x6.fZ)else YU p1 p3 x2 x3 (x6.fZ !=x6.iY)
def TD(p1:aM)(p3:aP)(x2:bM)(x6:gG)(x3 x8:Bool):Option Int:=bif x8 then some 4 else bif(!x3&&p3.aJ !=x2.bB)&&p3.aJ !=x2.dN then some 5 else bif x6.ig==3 then YV p1 p3 x2 x6 x3 (x6.ig==3)else YV p1 p3 x2 x6 x3 (x6.ig==2&&!x3)
def KW(p1:aM)(p2:aN)(p3:aP):Option Int:=bC p2.aH p3.aI λx2=>bC p2.aK p3.aJ λx6=>bif !x2.dZ then TD p1 p3 x2 x6 (p3.aJ==x2.bL) (!x2.dZ)else TD p1 p3 x2 x6 (p3.aJ==x2.bL) (x2.fC&&p3.aJ !=x2.bB)
def UW(p1:aN)(p2:aP):Option Int:=bC p1.aH p2.aI λx1=>bif !x1.dZ then some 4 else bif p2.bP !=x1.bP then some 7 else some 0
def UE(p1:aN)(p2:aP):Option Int:=bC p1.aK p2.aJ λx1=>bif x1.ig==p2.N then some 4 else some 0
def N7(p1:aM)(p2:Int):Option jg:=bif decide (p2<0)||decide ((p1.fG.length:Int)<=p2) then some (⟨0,0⟩:jg) else bC p1.fG p2 λx1=>some x1
def Yv(aeM:(List Int)->Int->Option (List Int))(x1:Int)(x2:List Int):Option (List Int):=aeM x2 (aQ (x1+1))
def FN(p1:aN)(x3:List gG)(x4:Int):Nat->(List Int)->Int->Option (List Int)|0,_,_=>none|bf+1,x5,x1=>bif decide (x1<x4) then bC x3 x1 λx6=>(DV p1.jP x6.fZ).bind λx7=>(bif !(!x7) then DV p1.jP x6.iY else some aG).bind λx8=>bif !x7||!x8 then bq (decide ((x5.length+ [x1].length)*8<=room)) (Yv (FN p1 x3 x4 bf) x1 (x5++ [x1])) else Yv (FN p1 x3 x4 bf) x1 x5 else some x5
def YS(p1:aN):Option (List Int):=FN p1 p1.aK (p1.aK.length:Int) fuel ([]:List Int) 0
def Ze(afN:Int->Int->Option Int)(x1 x2:Int):Option Int:=afN x2 (aQ (x1+1))
def DL(p1:aM)(p3:aP)(x3:List Int)(x4:Int):Nat->Int->Int->Option Int|0,_,_=>none|bf+1,x5,x1=>bif decide (x1<x4) then bC x3 x1 λx6=>bif x6 !=p3.aJ then Ze (DL p1 p3 x3 x4 bf) x1 (aQ (x5+1))else Ze (DL p1 p3 x3 x4 bf) x1 x5 else bif decide (p1.oz<=x5) then some 14 else some 0
def Zf(p1:aM)(p2:aN)(p3:aP)(x7:Bool):Option Int:=bif x7 then some 0 else bif p2.eH !=0 then some 12 else(YS p2).bind λx3=>DL p1 p3 x3 (x3.length:Int) fuel 0 0
def Zg(p1:aM)(p2:aN)(p3:aP)(x8:gG)(x9:Bool):Option Int:=bif x9 then some 13 else bif x8.fZ==p3.N then Zf p1 p2 p3 (x8.fZ==p3.N)else(DV p2.jP p3.N).bind λx10=>Zf p1 p2 p3 x10
def UH(p1:aM)(p2:aN)(p3:aP):Option Int:=bC p2.aK p3.aJ λx8=>(N7 p1 p3.N).bind λbU=>bif x8.iY==p3.N then some 4 else bif decide (p2.gP<bU.gP) then Zg p1 p2 p3 x8 (decide (p2.gP<bU.gP))else Zg p1 p2 p3 x8 (decide (bU.dP<p2.dP))
def F5(p2:aP)(x1:List bM)(x2:Int):Nat->Int->Option Int|0,_=>none|bf+1,x3=>bif decide (x3<x2) then bC x1 x3 λx4=>bif x4.dV.aJ==p2.aJ&&decide (p2.aZ<x4.dV.bY) then some 9 else(F5 p2 x1 x2 bf) (aQ (x3+1)) else some 0
def Zc(p1:aN)(p2:aP)(x5:Bool):Option Int:=bif x5 then some 4 else(DV p1.jP p2.N).bind λx6=>bif(!x6&&p1.eH !=0)then some 12 else F5 p2 p1.aH (p1.aH.length:Int) fuel 0
def UF(p1:aN)(p2:aP):Option Int:=bC p1.aK p2.aJ λx7=>bif x7.iY !=p2.N then Zc p1 p2 (x7.iY !=p2.N)else Zc p1 p2 (x7.fZ==x7.iY)
def FY(p1:aM)(p3:aP)(x1:List gG)(x2:Int):Nat->Int->Option Int|0,_=>none|bf+1,x3=>bif decide (x3<x2) then bC x1 x3 λx4=>bif((x4.ig !=3&&x4.fZ==p3.N)&&x4.iY==p3.N)&&decide (p1.o7<=aQ (p3.aZ-x4.qd)) then some 0 else(FY p1 p3 x1 x2 bf) (aQ (x3+1)) else some 15
def Ux(p1:aM)(p2:aN)(p3:aP):Option Int:=(DV p2.jP p3.N).bind λx5=>bif x5 then some 4 else FY p1 p3 p2.aK (p2.aK.length:Int) fuel 0
def KG(p1:aN)(p2:aP):Option Int:=(DV p1.eH p2.dh).bind λx1=>bif x1==(p2.N==1) then some 4 else some 0
def FU(p1:aM)(p2:aN)(x1:List gG)(x2:Int):Nat->Int->Option Int|0,_=>none|bf+1,x3=>bif decide (x3<x2) then bC x1 x3 λx4=>(N7 p1 x4.fZ).bind λx5=>(bif !(decide (x5.dP<=p2.dP)) then N7 p1 x4.iY else some aG).bind λx6=>bif decide (x5.dP<=p2.dP)||decide (x6.dP<=p2.dP) then some 13 else(FU p1 p2 x1 x2 bf) (aQ (x3+1)) else some 0
def Ug(p1:aM)(p2:aN):Option Int:=bif decide (p2.gP<p2.dP) then some 4 else bif decide (30<=p2.dP) then some 2 else FU p1 p2 p2.aK (p2.aK.length:Int) fuel 0
def TA(p1:aN):Option Int:=bif p1.dP==p1.gP then some 4 else some 0
def DF(p1:aM)(p2:aN)(p3:aP)(x1:Bool):Option Int:=bif x1 then some 1 else bif decide (4096<=p2.eP) then some 2 else bif decide (p3.aZ<p2.aZ) then some 3 else bif p3.aL==1 then(Uw p1 p2 p3).bind λx2=>some x2 else bif p3.aL==4 then(TY p1 p2 p3).bind λx3=>some x3 else bif p3.aL==5 then(Uy p2 p3).bind λx4=>some x4 else bif p3.aL==6 then(TW p1 p2 p3).bind λx5=>some x5 else bif p3.aL==7 then(TV p2 p3).bind λx6=>some x6 else bif p3.aL==8 then(UG p2 p3).bind λx7=>some x7 else bif p3.aL==2 then(KW p1 p2 p3).bind λx8=>some x8 else bif p3.aL==3 then(UW p2 p3).bind λx9=>some x9 else bif p3.aL==9 then(UE p2 p3).bind λx10=>some x10 else bif p3.aL==10 then(UH p1 p2 p3).bind λbU=>some bU else bif p3.aL==11 then(UF p2 p3).bind λbV=>some bV else bif p3.aL==12 then(Ux p1 p2 p3).bind λdG=>some dG else bif p3.aL==13 then(KG p2 p3).bind λdD=>some dD else bif p3.aL==14 then(Ug p1 p2).bind λfu=>some fu else bif p3.aL==15 then(TA p2).bind λgZ=>some gZ else some 0
def AB(p1:aM)(p2:aN)(p3:aP):Option Int:=(Ul p1 p3).bind λiE=>bif !iE then DF p1 p2 p3 (!iE)else bif(p2.aH.length:Int) !=(p1.aH.length:Int) then DF p1 p2 p3 ((p2.aH.length:Int) !=(p1.aH.length:Int))else DF p1 p2 p3 ((p2.aK.length:Int) !=(p1.aK.length:Int))
def OB(p1:List gG)(p2:Nat)(p3:aP):Option (List gG):=bif p3.aL==9 then bG (p1.getD p2 aG) λx1=>bG (p1.set p2 {x1 with ig:=p3.N}) λx2=>bG (x2.getD p2 aG) λx3=>bG (x2.set p2 {x3 with qd:=p3.aZ}) λx4=>some x4 else bif p3.aL==10 then bG (p1.getD p2 aG) λx5=>bG (p1.set p2 {x5 with iY:=p3.N}) λx6=>some x6 else bif p3.aL==11 then bG (p1.getD p2 aG) λx7=>bG (p1.set p2 {x7 with fZ:=p3.N}) λx8=>bG (x8.getD p2 aG) λx9=>bG (x8.set p2 {x9 with qd:=p3.aZ}) λx10=>some x10 else some p1
def af8(p1:List bM)(p2:Nat)(p3:aP):Option (List bM):=bG (p1.getD p2 aG) λx1=>bG (p1.set p2 {x1 with dV:=(⟨p3.aJ,p3.bP,p3.N,p3.From,p3.bY⟩:iC)}) λx2=>bG (x2.getD p2 aG) λx3=>bG (x2.set p2 {x3 with bP:=p3.bP}) λx4=>bG (x4.getD p2 aG) λx5=>bif p3.aJ==x5.bL then some x4 else bif p3.aJ==x5.bB then bG (x4.set p2 {x5 with bL:=p3.aJ}) λx6=>bG (x6.getD p2 aG) λx7=>bG (x6.set p2 {x7 with bB:=(-1)}) λx8=>bG (x8.getD p2 aG) λx9=>bG (x8.set p2 {x9 with Next:=(-1)}) λx10=>bG (x10.getD p2 aG) λbU=>bG (x10.set p2 {bU with dN:=(-1)}) λbV=>bG (bV.getD p2 aG) λdG=>bG (bV.set p2 {dG with fC:=false}) λdD=>some dD else bif p3.aJ==x5.dN then bG (x4.set p2 {x5 with bL:=p3.aJ}) λfu=>bG (fu.getD p2 aG) λgZ=>bG (fu.set p2 {gZ with dN:=(-1)}) λiE=>some iE else some x4
def Az(p1:List bM)(p2:Nat)(p3:aP):Option (List bM):=bif p3.aL==1 then bG (p1.getD p2 aG) λx1=>bG (p1.set p2 {x1 with dZ:=true}) λx2=>bG (x2.getD p2 aG) λx3=>bG (x2.set p2 {x3 with bL:=p3.aJ}) λx4=>bG (x4.getD p2 aG) λx5=>bG (x4.set p2 {x5 with bB:=p3.dh}) λx6=>some x6 else bif p3.aL==4 then bG (p1.getD p2 aG) λx7=>bG (p1.set p2 {x7 with Next:=p3.aJ}) λx8=>some x8 else bif p3.aL==5 then bG (p1.getD p2 aG) λx9=>bG (p1.set p2 {x9 with bB:=p3.aJ}) λx10=>bG (x10.getD p2 aG) λbU=>bG (x10.set p2 {bU with Next:=(-1)}) λbV=>some bV else bif p3.aL==6 then bG (p1.getD p2 aG) λdG=>bG (p1.set p2 {dG with dN:=p3.aJ}) λdD=>some dD else bif p3.aL==7 then bG (p1.getD p2 aG) λfu=>bG (p1.set p2 {fu with dN:=(-1)}) λgZ=>some gZ else bif p3.aL==8 then bG (p1.getD p2 aG) λiE=>bG (p1.set p2 {iE with fC:=p3.N==1}) λx18=>bG (x18.getD p2 aG) λlH=>bif lH.fC then bG (x18.set p2 {lH with dN:=(-1)}) λx20=>some x20 else some x18 else bif p3.aL==3 then bG (p1.getD p2 aG) λx21=>bG (p1.set p2 {x21 with dV:={x21.dV with bY:=ji x21.dV.bY (aQ (p3.aZ+1))}}) λpF=>bG (pF.getD p2 aG) λx23=>bG (pF.set p2 {x23 with dV:={x23.dV with From:=ji x23.dV.From x23.dV.bY}}) λx24=>some x24 else bif p3.aL==2 then(af8 p1 p2 p3).bind λx25=>some x25 else some p1
def Ay(x1:aN):Option aN:=some x1
def KD(p2:aP)(x2:aN)(x3:Int)(x4:Bool):Option aN:=bif x4 then bC x2.aK p2.aJ λx5=>(OB x2.aK (Int.toNat p2.aJ) p2).bind λx6=>Ay {x2 with aK:=x6} else bif x3==12 then bq (decide ((0:Int)<=p2.N)) (Ay {x2 with jP:=ug .i64 x2.jP (iL .i64 1 p2.N)}) else bif x3==13 then bif p2.N==1 then bq (decide ((0:Int)<=p2.dh)) (Ay {x2 with eH:=ug .i64 x2.eH (iL .i64 1 p2.dh)}) else bq (decide ((0:Int)<=p2.dh)) (Ay {x2 with eH:=Lh .i64 x2.eH (iL .i64 1 p2.dh)}) else bif x3==14 then Ay {x2 with dP:=aQ (x2.dP+1)}else bif x3==15 then Ay {x2 with gP:=x2.dP}else bif x3==16 then Ay x2 else bC x2.aH p2.aI λx7=>(Az x2.aH (Int.toNat p2.aI) p2).bind λx8=>Ay {x2 with aH:=x8}
def xK(p1:aN)(p2:aP):Option aN:=(JY p1.aH).bind λx9=>(JZ p1.aK).bind λx10=>bif p2.aL==9 then KD p2 {p1 with aZ:=p2.aZ,eP:=aQ (p1.eP+1),aH:=x9,aK:=x10} p2.aL (p2.aL==9)else bif p2.aL==10 then KD p2 {p1 with aZ:=p2.aZ,eP:=aQ (p1.eP+1),aH:=x9,aK:=x10} p2.aL (p2.aL==10)else KD p2 {p1 with aZ:=p2.aZ,eP:=aQ (p1.eP+1),aH:=x9,aK:=x10} p2.aL (p2.aL==11)
def rE(p1:aP)(x1:Int)(x2:Bool):Option Bool:=bif x2 then some true else bif x1==4 then some (p1.aJ !=(-1)) else bif x1==8 then some (p1.N==0) else some false
def qo(p1:aP):Option Bool:=bif p1.aL==1 then rE p1 p1.aL (p1.aL==1)else bif p1.aL==6 then rE p1 p1.aL (p1.aL==6)else rE p1 p1.aL (p1.aL==2)
def agO(p1:aM)(p2:aN):Option Int:=some (ji (p1.aH.length:Int) (p2.aH.length:Int))
def agt(p1:bM):Option Bool:=some (p1.dZ&&!p1.fC)
def Lb(p1:List Int)(p2 p3:Int):Option (List Int):=bif decide (0<=p2)&&decide (p2<(p1.length:Int)) then bC p1 p2 λx1=>bC p1 p2 λx2=>bG (p1.set (Int.toNat p2) (aQ (x1+p3))) λx3=>some x3 else some p1
def YO(NJ:(List Int)->Int->Option (List Int))(x1:Int)(x2:List Int):Option (List Int):=NJ x2 (aQ (x1+1))
def YP(NJ:(List Int)->Int->Option (List Int))(x1:Int)(x3:iG)(x4:bM)(x5:List Int):Option (List Int):=(Lb x5 x4.bB x3.kK).bind λx6=>(Lb x6 x4.Next x3.kK).bind λx7=>YO NJ x1 x7
def IJ(p1:aM)(p2:aN)(x8:Int):Nat->(List Int)->Int->Option (List Int)|0,_,_=>none|bf+1,x9,x1=>bif decide (x1<x8) then bC p1.aH x1 λx3=>bC p2.aH x1 λx4=>bif !x4.dZ then YO (IJ p1 p2 x8 bf) x1 x9 else(agt x4).bind λx10=>bif x10 then(Lb x9 x4.bL x3.eD).bind λbU=>(Lb bU x4.dN x3.eD).bind λbV=>YP (IJ p1 p2 x8 bf) x1 x3 x4 bV else YP (IJ p1 p2 x8 bf) x1 x3 x4 x9 else some x9
def KU(p1:aM)(p2:aN):Option (List Int):=bq (decide ((0:Int)<=(p1.aK.length:Int)/\((p1.aK.length:Int):Int)<=(p1.aK.length:Int)/\((p1.aK.length:Int):Int)<=9223372036854775807/\((p1.aK.length:Int):Int)*8<=140737488355328)) ((agO p1 p2).bind λx8=>IJ p1 p2 x8 fuel (List.replicate (Int.toNat (p1.aK.length:Int)) (aG:Int)) 0)
def Zj(afT:(List Int)->Int->Option (List Int))(x1:Int)(x2:List Int):Option (List Int):=afT x2 (aQ (x1+1))
def KO(p1:aM)(x3:List Int)(x4:Int):Nat->(List Int)->Int->Option (List Int)|0,_,_=>none|bf+1,x5,x1=>bif decide (x1<x4) then bC x3 x1 λx6=>bC p1.aK x1 λx7=>bif decide (x7.mg<x6) then bq (decide ((x5.length+ [x1].length)*8<=room)) (Zj (KO p1 x3 x4 bf) x1 (x5++ [x1])) else Zj (KO p1 x3 x4 bf) x1 x5 else some x5
def UM(p1:aM)(p2:aN):Option (List Int):=(KU p1 p2).bind λx3=>KO p1 x3 (x3.length:Int) fuel ([]:List Int) 0
def Cb(p1:aM)(p2:aN)(p3:aP):Option (aN×Int):=(AB p1 p2 p3).bind λx1=>bif x1 !=0 then some ((⟨0,0,([]:List bM),([]:List gG),0,0,0,0⟩:aN),x1) else(xK p2 p3).bind λx2=>(qo p3).bind λx3=>(bif x3 then UM p1 x2 else some aG).bind λx4=>bif x3&&decide (0<(x4.length:Int)) then some ((⟨0,0,([]:List bM),([]:List gG),0,0,0,0⟩:aN),10) else some (x2,0)
def aeO(p1:bn):Option (Int×bn):=some (p1.fO,p1)
def xG(p1:bn):Option Int:=some p1.fO
theorem ayM(p1:bn):aeO p1=(xG p1).bind λx=>some (x,p1):=by
  simp only[aeO,xG,fQ,gq,gD,gB,gF,fU,bF,gu]
def aeF(p1:fT):Option (Int×fT):=some (p1.gJ,p1)
def pG(p1:fT):Option Int:=some p1.gJ
theorem ayB(p1:fT):aeF p1=(pG p1).bind λx=>some (x,p1):=by
  simp only[aeF,pG,fQ,gq,gD,gB,gF,fU,bF,gu]
def aeP(p1:bn):Option (Int×bn):=(pG p1.aR).bind λx1=>some (x1,p1)
def jl(p1:bn):Option Int:=(pG p1.aR).bind λx1=>some x1
theorem ayN(p1:bn):aeP p1=(jl p1).bind λx=>some (x,p1):=by
  simp only[aeP,jl,fQ,gq,gD,gB,gF,fU,bF,gu]
def aek(x1 x2 x3:Int)(x4:bR):Option (Int×bR):=bif decide (aQ (x3+1)<x2) then none else some (x1,x4)
def Nq(p1:bR):Option (Int×bR):=bif decide (0<1) then(xG (p1.aT.getD 0 aG)).bind λx5=>(bif x5==3&&!(decide ((-1)<0)) then jl (p1.aT.getD 0 aG)else some aG).bind λx6=>bq (!(x5==3&&!(decide ((-1)<0)))||decide ((0:Int)<=(-1)/\((-1):Int)<((1:Nat):Int))) ((bif x5==3&&!(decide ((-1)<0)) then jl (p1.aT.getD 0 aG)else some aG).bind λx7=>bif x5==3&&(decide ((-1)<0)||decide (x7<x6)) then aek 0 1 0 (iI p1)else aek (-1) 1 0 (iI p1)) else none
def afI(p1:bO)(p2:Int):Option (Bool×bO):=bq (!(decide (0<=p2)&&decide (p2<(p1.dY.cZ.length:Int)))||decide ((0:Int)<=p2)) (some ((decide (0<=p2)&&decide (p2<(p1.dY.cZ.length:Int)))&&je .i64 (iJ .i64 p1.up p2) 1==1,iU p1))
def pI(p1:bO)(p2:Int):Option Bool:=bq (!(decide (0<=p2)&&decide (p2<(p1.dY.cZ.length:Int)))||decide ((0:Int)<=p2)) (some ((decide (0<=p2)&&decide (p2<(p1.dY.cZ.length:Int)))&&je .i64 (iJ .i64 p1.up p2) 1==1))
theorem aBA(p1:bO)(p2:Int):afI p1 p2=(pI p1 p2).bind λx=>some (x,iU p1):=by
  simp only[afI,pI,fQ,gq,gD,gB,gF,fU,bF,gu]
def afx(p1:bR)(p2:Int):Option (Bool×bR):=some (decide (0<=p2)&&decide (p2<1),iI p1)
def FJ(p1:bR)(p2:Int):Option Bool:=some (decide (0<=p2)&&decide (p2<1))
theorem aA3(p1:bR)(p2:Int):afx p1 p2=(FJ p1 p2).bind λx=>some (x,iI p1):=by
  simp only[afx,FJ,fQ,gq,gD,gB,gF,fU,bF,gu]
def Dp(p2:lN)(x1:Bool)(x2:bR):Option (Bool×bR):=bif x1 then some (decide (0<=p2.N)&&decide (p2.N<(x2.bg.length:Int)),x2) else some (false,x2)
def J7(p2:lN)(x3:Int)(x4:Bool)(x5:bR):Option (Bool×bR):=bif x4 then(FJ x5 p2.nZ).bind λx6=>some (x6,x5) else bif x3==4 then Dp p2 (x3==4) x5 else bif x3==5 then Dp p2 (x3==5) x5 else Dp p2 (x3==6) x5
def ael(p1:bR)(p2:lN):Option (Bool×bR):=bif p2.aL==1 then J7 p2 p2.aL (p2.aL==1) (iI p1)else bif p2.aL==2 then J7 p2 p2.aL (p2.aL==2) (iI p1)else bif p2.aL==3 then J7 p2 p2.aL (p2.aL==3) (iI p1)else J7 p2 p2.aL (p2.aL==7) (iI p1)
def H7(p2:lN)(x1:Bool)(x2:bR):Option Bool:=bif x1 then some (decide (0<=p2.N)&&decide (p2.N<(x2.bg.length:Int))) else some false
theorem XE(p2:lN)(x1:Bool)(x2:bR):Dp p2 x1 x2=(H7 p2 x1 x2).bind (λx=>some (x,x2)):=by
  simp only[Dp,H7,fQ,gq,gD,gB,gF,fU,bF,gu]
def MP(p2:lN)(x3:Int)(x4:Bool)(x5:bR):Option Bool:=bif x4 then(FJ x5 p2.nZ).bind λx6=>some x6 else bif x3==4 then H7 p2 (x3==4) x5 else bif x3==5 then H7 p2 (x3==5) x5 else H7 p2 (x3==6) x5
theorem awI(p2:lN)(x3:Int)(x4:Bool)(x5:bR):J7 p2 x3 x4 x5=(MP p2 x3 x4 x5).bind (λx=>some (x,x5)):=by
  simp only[J7,MP,fQ,gq,gD,gB,gF,fU,bF,gu,XE]
def J8(p1:bR)(p2:lN):Option Bool:=bif p2.aL==1 then MP p2 p2.aL (p2.aL==1) (iI p1)else bif p2.aL==2 then MP p2 p2.aL (p2.aL==2) (iI p1)else bif p2.aL==3 then MP p2 p2.aL (p2.aL==3) (iI p1)else MP p2 p2.aL (p2.aL==7) (iI p1)
theorem axg(p1:bR)(p2:lN):ael p1 p2=(J8 p1 p2).bind λx=>some (x,iI p1):=by
  simp only[ael,J8,fQ,gq,gD,gB,gF,fU,bF,gu,XE,awI]
def RN(p1:fT)(p2 p3:Int):Option (Int×fT):=bif((decide (p2<0)||decide (1073741824<p2))||decide (p3<(-1)))||decide (5<=p3) then some (1,p1) else bif decide (p2<p1.gJ)||(p2==p1.gJ&&p1.iR !=(-1))&&p1.iR !=p3 then some (20,p1) else some (0,{p1 with gJ:=p2,iR:=p3})
def ZN(p1:List Int)(p2:Int):Option (List Int):=bq (decide ((0:Int)<=0/\(0:Int)<=(aQ ((p1.length:Int)+p2))/\((aQ ((p1.length:Int)+p2)):Int)<=9223372036854775807/\((aQ ((p1.length:Int)+p2)):Int)*1<=140737488355328)) (bq (decide (((List.replicate (Int.toNat 0) (aG:Int)).length+p1.length)*1<=room)) (some ((List.replicate (Int.toNat 0) (aG:Int))++p1)))
def aam(p1:Int):Option Int:=bif decide (p1<0) then some (wm .u64 18446744073709551615 (iL .u64 (IntKind.u64.wrap p1) 1)) else some (iL .u64 (IntKind.u64.wrap p1) 1)
def OG:Nat->(List Int)->Int->Option (List Int)|0,_,_=>none|bf+1,x1,x2=>bif decide (128<=x2) then bq (decide ((x1.length+ [ug .u8 (IntKind.u8.wrap x2) 128].length)*1<=room)) ((OG bf) (x1++ [ug .u8 (IntKind.u8.wrap x2) 128]) (iJ .u64 x2 7)) else bq (decide ((x1.length+ [IntKind.u8.wrap x2].length)*1<=room)) (some (x1++ [IntKind.u8.wrap x2]))
def ahV(p1:List Int)(p2:Int):Option (List Int):=(aam p2).bind λx3=>OG fuel p1 x3
def qK(p1:List Int)(p2:Int):Option (List Int):=(ZN p1 10).bind λx1=>(ahV x1 p2).bind λx2=>some x2
def NY(p1:List Int)(x1:Int):Nat->(List Int)->Int->Option (List Int)|0,_,_=>none|bf+1,x2,x3=>bif decide (x3<x1) then bC p1 x3 λx4=>(qK x2 x4).bind λx5=>(NY p1 x1 bf) x5 (aQ (x3+1)) else some x2
def Ow(p1:(List Int)):Option (List Int):=NY p1 (p1.length:Int) fuel ([]:List Int) 0
def OJ(p1 p2:Int):Option Int:=some (wm .u64 (IntKind.u64.wrap ((wm .u64 p1 (IntKind.u64.wrap p2))*1099511628211)) (iJ .u64 (IntKind.u64.wrap ((wm .u64 p1 (IntKind.u64.wrap p2))*1099511628211)) 29))
def NT(p2 x1:List Int)(x2:Int):Nat->Int->Int->Option Int|0,_,_=>none|bf+1,x3,x4=>bif decide (x4<x2) then bC x1 x4 λx5=>(OJ x3 (IntKind.i64.wrap x5)).bind λx6=>(NT p2 x1 x2 bf) x6 (aQ (x4+1)) else(OJ x3 (p2.length:Int)).bind λx7=>some x7
def agi(p1:Int)(p2:List Int):Option Int:=NT p2 p2 (p2.length:Int) fuel p1 0
def UD(p1:Int)(p2:List Int):Option Int:=(OJ 14695981039346656037 p1).bind λx1=>(agi x1 p2).bind λx2=>some x2
def IU(p3:(List Int)):Nat->(List Int)->Int->Int->Option (List Int)|0,_,_,_=>none|bf+1,x1,x2,x3=>bif decide (x3<8) then bq (decide ((x1.length+ [IntKind.u8.wrap x2].length)*1<=room)) ((IU p3 bf) (x1++ [IntKind.u8.wrap x2]) (iJ .u64 x2 8) (aQ (x3+1))) else bq (decide ((x1.length+p3.length)*1<=room)) (some (x1++p3))
def aad(p1:List Int)(p2:Int)(p3:List Int):Option (List Int):=bif decide (65536<(p3.length:Int)) then bq (decide ((0+p1.length)*1<=room)) (some p1) else(qK p1 (p3.length:Int)).bind λx4=>(UD p2 p3).bind λx5=>IU p3 fuel x4 x5 0
def afE(p1:bQ)(p2:List Int):Option bQ:=bq (decide ((p1.data.length+p2.length)*1<=room)) (some {p1 with data:=(p1.data++p2)})
def Nc(p1:fT)(p2:List Int):Option fT:=(aad ([]:List Int) 8 p2).bind λx1=>(afE p1.bX x1).bind λx2=>some {p1 with bX:=x2}
def aeh(p1:fT)(p2 p3:Int):Option (Int×fT):=(RN p1 p2 p3).bind λx1=>bif x1.1 !=0 then some (x1.1,x1.2) else(Ow [1,p2,p3]).bind λx2=>(Nc x1.2 x2).bind λx3=>some (0,x3)
def af2(p1:bQ):Option bQ:=some {p1 with qL:=(p1.data.length:Int)}
def Nn(p1:fT):Option fT:=(af2 p1.bX).bind λx1=>some {p1 with bX:=x1}
def MZ(p1:bn)(p2 p3:Int):Option bn:=(aeh p1.aR p2 p3).bind λx1=>(Nn x1.2).bind λx2=>some {p1 with aR:=x2}
def aeX(p1:fT):Option (Int×fT):=some ((p1.bT.length:Int),p1)
def xH(p1:fT):Option Int:=some (p1.bT.length:Int)
theorem azj(p1:fT):aeX p1=(xH p1).bind λx=>some (x,p1):=by
  simp only[aeX,xH,fQ,gq,gD,gB,gF,fU,bF,gu]
def afa(p1:bn):Option (Int×bn):=(xH p1.aR).bind λx1=>some (x1,p1)
def nC(p1:bn):Option Int:=(xH p1.aR).bind λx1=>some x1
theorem azx(p1:bn):afa p1=(nC p1).bind λx=>some (x,p1):=by
  simp only[afa,nC,fQ,gq,gD,gB,gF,fU,bF,gu]
def Ih(ad1:Int->bn->Option bn)(x1:Int)(x2:bn):Option bn:=ad1 (aQ (x1+1)) x2
def Fv(x3:Int):Nat->Int->bn->Option bn|0,_,_=>none|bf+1,x1,x4=>bif decide (x1<x3) then bif x1==4 then(nC x4).bind λx5=>Ih (Fv x3 bf) x1 (⟨x4.aR,x4.id,x4.n,x4.fO,x4.fK,x4.nK,⟨x4.next.e0,x4.next.e1,x4.next.e2,x4.next.e3,x5⟩,⟨x4.gH.e0,x4.gH.e1,x4.gH.e2,x4.gH.e3,0⟩⟩:bn) else bif x1==3 then(nC x4).bind λx6=>Ih (Fv x3 bf) x1 (⟨x4.aR,x4.id,x4.n,x4.fO,x4.fK,x4.nK,⟨x4.next.e0,x4.next.e1,x4.next.e2,x6,x4.next.e4⟩,⟨x4.gH.e0,x4.gH.e1,x4.gH.e2,0,x4.gH.e4⟩⟩:bn) else bif x1==2 then(nC x4).bind λx7=>Ih (Fv x3 bf) x1 (⟨x4.aR,x4.id,x4.n,x4.fO,x4.fK,x4.nK,⟨x4.next.e0,x4.next.e1,x7,x4.next.e3,x4.next.e4⟩,⟨x4.gH.e0,x4.gH.e1,0,x4.gH.e3,x4.gH.e4⟩⟩:bn) else bif x1==1 then(nC x4).bind λx8=>Ih (Fv x3 bf) x1 (⟨x4.aR,x4.id,x4.n,x4.fO,x4.fK,x4.nK,⟨x4.next.e0,x8,x4.next.e2,x4.next.e3,x4.next.e4⟩,⟨x4.gH.e0,0,x4.gH.e2,x4.gH.e3,x4.gH.e4⟩⟩:bn) else bif x1==0 then(nC x4).bind λx9=>Ih (Fv x3 bf) x1 (⟨x4.aR,x4.id,x4.n,x4.fO,x4.fK,x4.nK,⟨x9,x4.next.e1,x4.next.e2,x4.next.e3,x4.next.e4⟩,⟨0,x4.gH.e1,x4.gH.e2,x4.gH.e3,x4.gH.e4⟩⟩:bn) else none else some x4
def Nt(p1:bn):Option bn:=Fv p1.n fuel 0 {p1 with fO:=3}
def aeo(p1:bn)(p2 p3:Int):Option (bJ×bn):=(jl p1).bind λx1=>some ((⟨p2,p1.id,p3,x1,0,0,0,false,([]:List cO)⟩:bJ),p1)
def yK(p1:bn)(p2 p3:Int):Option bJ:=(jl p1).bind λx1=>some (⟨p2,p1.id,p3,x1,0,0,0,false,([]:List cO)⟩:bJ)
theorem axj(p1:bn)(p2 p3:Int):aeo p1 p2 p3=(yK p1 p2 p3).bind λx=>some (x,p1):=by
  simp only[aeo,yK,fQ,gq,gD,gB,gF,fU,bF,gu]
def afg(p1:fT)(p2:Int):Option (cO×Bool×fT):=bif decide (p2<0)||decide ((p1.bT.length:Int)<=p2) then some ((⟨0,⟨0,0,0,0,0,0,0,0,0⟩⟩:cO),false,p1) else bC p1.bT p2 λx1=>some (x1,true,p1)
def FI(p1:fT)(p2:Int):Option (cO×Bool):=bif decide (p2<0)||decide ((p1.bT.length:Int)<=p2) then some ((⟨0,⟨0,0,0,0,0,0,0,0,0⟩⟩:cO),false) else bC p1.bT p2 λx1=>some (x1,true)
theorem az7(p1:fT)(p2:Int):afg p1 p2=(FI p1 p2).bind λx=>some (x.1,x.2,p1):=by
  simp only[afg,FI,fQ,gq,gD,gB,gF,fU,bF,gu]
def aes(p1:fT)(p2:Int):Option (Int×fT):=(FI p1 p2).bind λx1=>some (x1.1.iA,p1)
def zf(p1:fT)(p2:Int):Option Int:=(FI p1 p2).bind λx1=>some x1.1.iA
theorem axz(p1:fT)(p2:Int):aes p1 p2=(zf p1 p2).bind λx=>some (x,p1):=by
  simp only[aes,zf,fQ,gq,gD,gB,gF,fU,bF,gu]
def aed(p1:bn):Option (Int×bn):=(nC p1).bind λx1=>(zf p1.aR (aQ (x1-1))).bind λx2=>some (x2,p1)
def Ic(p1:bn):Option Int:=(nC p1).bind λx1=>(zf p1.aR (aQ (x1-1))).bind λx2=>some x2
theorem aw0(p1:bn):aed p1=(Ic p1).bind λx=>some (x,p1):=by
  simp only[aed,Ic,fQ,gq,gD,gB,gF,fU,bF,gu]
def ad2(p1:Int)(p2:bn):Option (bJ×bn):=(yK p2 1 p1).bind λx1=>(nC p2).bind λx2=>(Ic p2).bind λx3=>some ({x1 with gQ:=x2,lZ:=x3},p2)
def J6(p1:Int)(p2:bn):Option bJ:=(yK p2 1 p1).bind λx1=>(nC p2).bind λx2=>(Ic p2).bind λx3=>some {x1 with gQ:=x2,lZ:=x3}
theorem awK(p1:Int)(p2:bn):ad2 p1 p2=(J6 p1 p2).bind λx=>some (x,p2):=by
  simp only[ad2,J6,fQ,gq,gD,gB,gF,fU,bF,gu]
def Rm(adQ:(List bJ)->Int->Option (List bJ×bn))(x1:Int)(x2:List bJ):Option (List bJ×bn):=adQ x2 (aQ (x1+1))
def MR(x3:Int)(x4:bn):Nat->(List bJ)->Int->Option (List bJ×bn)|0,_,_=>none|bf+1,x5,x1=>bif decide (x1<x3) then bif x1 !=x4.id then(J6 x1 x4).bind λx6=>bq (decide ((x5.length+ [x6].length)*88<=room)) (Rm (MR x3 x4 bf) x1 (x5++ [x6])) else Rm (MR x3 x4 bf) x1 x5 else some (x5,x4)
def aee(p1:bn):Option (List bJ×bn):=MR p1.n p1 fuel ([]:List bJ) 0
def Rk(XA:(List bJ)->Int->Option (List bJ))(x1:Int)(x2:List bJ):Option (List bJ):=XA x2 (aQ (x1+1))
theorem alY(G:(List bJ)->Option (List bJ×bn))(XA:(List bJ)->Int->Option (List bJ))(x1:Int)(x2:List bJ):Rm (λy1 y2=>(XA y1 y2).bind G) x1 x2=(Rk XA x1 x2).bind G:=by
  simp only[Rm,Rk,fQ,gq,gD,gB,gF,fU,bF,gu]
def MO(x3:Int)(x4:bn):Nat->(List bJ)->Int->Option (List bJ)|0,_,_=>none|bf+1,x5,x1=>bif decide (x1<x3) then bif x1 !=x4.id then(J6 x1 x4).bind λx6=>bq (decide ((x5.length+ [x6].length)*88<=room)) (Rk (MO x3 x4 bf) x1 (x5++ [x6])) else Rk (MO x3 x4 bf) x1 x5 else some x5
theorem alZ(x3:Int)(x4:bn):∀n:Nat,MR x3 x4 n=λx5 x1=>(MO x3 x4 n x5 x1).bind (λx=>some (x,x4))
  |0=>rfl
  |n+1=>by
    funext x5 x1
    simp only[MR,MO,alZ x3 x4 n,fQ,gq,gD,gB,gF,fU,bF,gu,alY]
def MS(p1:bn):Option (List bJ):=MO p1.n p1 fuel ([]:List bJ) 0
theorem aw2(p1:bn):aee p1=(MS p1).bind λx=>some (x,p1):=by
  simp only[aee,MS,fQ,gq,gD,gB,gF,fU,bF,gu,alY,alZ]
def zh(p1:bn):Option (List bJ×bn):=(jl p1).bind λx1=>bif decide (1073741824<=x1) then some (([]:List bJ),p1) else(jl p1).bind λx2=>(MZ p1 (aQ (x2+1)) p1.id).bind λx3=>bq (decide ((0:Int)<=IntKind.u64.wrap x3.id)) (bif x3.n==1 then(Nt {x3 with fO:=2,nK:=iL .i64 1 (IntKind.u64.wrap x3.id)}).bind λx4=>some (([]:List bJ),x4) else(MS {x3 with fO:=2,nK:=iL .i64 1 (IntKind.u64.wrap x3.id)}).bind λx5=>some (x5,{x3 with fO:=2,nK:=iL .i64 1 (IntKind.u64.wrap x3.id)}))
def HV(p1:List bJ)(p2 p3:Int):Option (List bJ):=bq (decide (0<=p2/\p2<=p3/\p3<=(p1.length:Int)/\(p1.length:Int)<=(p1.length:Int))) (bif p2==p3 then some p1 else bq (decide (0<=p2/\p2<=(p1.length:Int))) (bq (decide (0<=p3/\p3<=(p1.length:Int)/\(p1.length:Int)<=(p1.length:Int))) (bq (decide ((0+Int.toNat p3)+(Int.toNat (p1.length:Int)-Int.toNat p3)<=p1.length)) (bq (decide ((Int.toNat p2)+(Int.toNat (p1.length:Int)-Int.toNat p3)<=p1.length)) (bq (decide (0<=((((Int.toNat p2)+(Int.toNat (p1.length:Int)-Int.toNat p3)):Nat):Int)/\((((Int.toNat p2)+(Int.toNat (p1.length:Int)-Int.toNat p3)):Nat):Int)<=(p1.length:Int)/\(p1.length:Int)<=(((jM (Int.toNat p2) ((p1.drop (0+Int.toNat p3)).take (Int.toNat (p1.length:Int)-Int.toNat p3)).length p1 ((p1.drop (0+Int.toNat p3)).take (Int.toNat (p1.length:Int)-Int.toNat p3))).length:Nat):Int))) (bq (decide ((0+Int.toNat ((((Int.toNat p2)+(Int.toNat (p1.length:Int)-Int.toNat p3)):Nat):Int))+(Int.toNat (p1.length:Int)-Int.toNat ((((Int.toNat p2)+(Int.toNat (p1.length:Int)-Int.toNat p3)):Nat):Int))<=(jM (Int.toNat p2) ((p1.drop (0+Int.toNat p3)).take (Int.toNat (p1.length:Int)-Int.toNat p3)).length p1 ((p1.drop (0+Int.toNat p3)).take (Int.toNat (p1.length:Int)-Int.toNat p3))).length)) (bq (decide (((Int.toNat p2)+(Int.toNat (p1.length:Int)-Int.toNat p3))<=(jM (0+Int.toNat ((((Int.toNat p2)+(Int.toNat (p1.length:Int)-Int.toNat p3)):Nat):Int)) (Int.toNat (p1.length:Int)-Int.toNat ((((Int.toNat p2)+(Int.toNat (p1.length:Int)-Int.toNat p3)):Nat):Int)) (jM (Int.toNat p2) ((p1.drop (0+Int.toNat p3)).take (Int.toNat (p1.length:Int)-Int.toNat p3)).length p1 ((p1.drop (0+Int.toNat p3)).take (Int.toNat (p1.length:Int)-Int.toNat p3))) (List.replicate (Int.toNat (p1.length:Int)-Int.toNat ((((Int.toNat p2)+(Int.toNat (p1.length:Int)-Int.toNat p3)):Nat):Int)) (aG:bJ))).length)) (some ((jM (0+Int.toNat ((((Int.toNat p2)+(Int.toNat (p1.length:Int)-Int.toNat p3)):Nat):Int)) (Int.toNat (p1.length:Int)-Int.toNat ((((Int.toNat p2)+(Int.toNat (p1.length:Int)-Int.toNat p3)):Nat):Int)) (jM (Int.toNat p2) ((p1.drop (0+Int.toNat p3)).take (Int.toNat (p1.length:Int)-Int.toNat p3)).length p1 ((p1.drop (0+Int.toNat p3)).take (Int.toNat (p1.length:Int)-Int.toNat p3))) (List.replicate (Int.toNat (p1.length:Int)-Int.toNat ((((Int.toNat p2)+(Int.toNat (p1.length:Int)-Int.toNat p3)):Nat):Int)) (aG:bJ))).take ((Int.toNat p2)+(Int.toNat (p1.length:Int)-Int.toNat p3)))))))))))
def aeE(Ke:Int->bR->Option bR)(x1:Int)(x2:bJ)(x3:bR):Option bR:=bq (decide ((x3.bg.length+ [x2].length)*88<=room)) (Ke (aQ (x1+1)) (⟨[x3.aT.getD 0 aG],(x3.bg++ [x2]),x3.lY⟩:bR))
def R9(p2:List bJ)(x4:Int):Nat->Int->bR->Option bR|0,_,_=>none|bf+1,x1,x5=>bif decide (x1<x4) then bC p2 x1 λx2=>bif decide (256<=(x5.bg.length:Int)) then(HV x5.bg 0 1).bind λx6=>aeE (R9 p2 x4 bf) x1 x2 (⟨[x5.aT.getD 0 aG],x6,x5.lY⟩:bR) else aeE (R9 p2 x4 bf) x1 x2 x5 else some x5
def BS(p1:bR)(p2:List bJ):Option bR:=R9 p2 (p2.length:Int) fuel 0 (iI p1)
def Sm(p1:fT)(p2:Int)(p3:aP):Option (Int×fT):=(bif !(decide (p2<1)||decide (1073741824<p2)) then rY p3 else some aG).bind λx1=>bif(decide (p2<1)||decide (1073741824<p2))||!x1 then some (1,p1) else(bif !(decide (p1.gJ<p2)) then zf p1 (aQ ((p1.bT.length:Int)-1))else some aG).bind λx2=>bif decide (p1.gJ<p2)||decide (p2<x2) then some (20,p1) else bif decide (4096<=(p1.bT.length:Int)) then some (2,p1) else bq (decide ((p1.bT.length+ [(⟨p2,p3⟩:cO)].length)*80<=room)) (some (0,{p1 with bT:=(p1.bT++ [(⟨p2,p3⟩:cO)])}))
def Zu(p1:aP):Option (List Int):=bif decide (0<9) then(qK ([]:List Int) p1.aL).bind λx1=>bif decide (1<9) then(qK x1 p1.aZ).bind λx2=>bif decide (2<9) then(qK x2 p1.aI).bind λx3=>bif decide (3<9) then(qK x3 p1.aJ).bind λx4=>bif decide (4<9) then(qK x4 p1.dh).bind λx5=>bif decide (5<9) then(qK x5 p1.bP).bind λx6=>bif decide (6<9) then(qK x6 p1.From).bind λx7=>bif decide (7<9) then(qK x7 p1.bY).bind λx8=>bif decide (8<9) then(qK x8 p1.N).bind λx9=>bif decide (9<9) then none else some x9 else none else none else none else none else none else none else none else none else none
def R3(p1:fT)(p2:Int)(p3:aP):Option (Int×fT):=(Sm p1 p2 p3).bind λx1=>bif x1.1 !=0 then some (x1.1,x1.2) else(Ow [2,p2]).bind λx2=>(Zu p3).bind λx3=>bq (decide ((x2.length+x3.length)*1<=room)) ((Nc x1.2 (x2++x3)).bind λx4=>some (0,x4))
def Rp(BJ:Int->Option bn)(x1:Int):Option bn:=BJ (aQ (x1-1))
def Rq(J4:Int->Int->Option bn)(x2 x3:Int):Option bn:=J4 x3 (aQ (x2+1))
def Ia(J4:Int->Int->Option bn)(x4 x2:Int)(x5:Bool):Option bn:=bif x5 then Rq J4 x2 (aQ (x4+1))else Rq J4 x2 x4
def BL(BJ:Int->Option bn)(x1 x6:Int)(x7:bn):Nat->Int->Int->Option bn|0,_,_=>none|bf+1,x4,x2=>bif decide (x2<x6) then bif x2==4 then bq (!(4 !=x7.id)||decide ((0:Int)<=4/\(4:Int)<((5:Nat):Int))) (Ia (BL BJ x1 x6 x7 bf) x4 x2 (4 !=x7.id&&decide (x1<=x7.gH.e4))) else bif x2==3 then bq (!(3 !=x7.id)||decide ((0:Int)<=3/\(3:Int)<((5:Nat):Int))) (Ia (BL BJ x1 x6 x7 bf) x4 x2 (3 !=x7.id&&decide (x1<=x7.gH.e3))) else bif x2==2 then bq (!(2 !=x7.id)||decide ((0:Int)<=2/\(2:Int)<((5:Nat):Int))) (Ia (BL BJ x1 x6 x7 bf) x4 x2 (2 !=x7.id&&decide (x1<=x7.gH.e2))) else bif x2==1 then bq (!(1 !=x7.id)||decide ((0:Int)<=1/\(1:Int)<((5:Nat):Int))) (Ia (BL BJ x1 x6 x7 bf) x4 x2 (1 !=x7.id&&decide (x1<=x7.gH.e1))) else bif x2==0 then bq (!(0 !=x7.id)||decide ((0:Int)<=0/\(0:Int)<((5:Nat):Int))) (Ia (BL BJ x1 x6 x7 bf) x4 x2 (0 !=x7.id&&decide (x1<=x7.gH.e0))) else none else bif decide (x7.n<aQ (2*x4)) then some (⟨x7.aR,x7.id,x7.n,x7.fO,x1,x7.nK,x7.next,x7.gH⟩:bn) else Rp BJ x1
def Ib(x8:bn):Nat->Int->Option bn|0,_=>none|wB+1,x1=>bif decide (x8.fK<x1) then(zf x8.aR (aQ (x1-1))).bind λx9=>(jl x8).bind λx10=>bif x9 !=x10 then Rp (Ib x8 wB) x1 else BL (Ib x8 wB) x1 x8.n x8 fuel 1 0 else some x8
def zR(p1:bn):Option bn:=(nC p1).bind λbU=>Ib p1 fuel bU
def afk(p1:bn)(p2:Int):Option (cO×Bool×bn):=(FI p1.aR p2).bind λx1=>some (x1.1,x1.2,p1)
def Ns(p1:bn)(p2:Int):Option (cO×Bool):=(FI p1.aR p2).bind λx1=>some (x1.1,x1.2)
theorem aAg(p1:bn)(p2:Int):afk p1 p2=(Ns p1 p2).bind λx=>some (x.1,x.2,p1):=by
  simp only[afk,Ns,fQ,gq,gD,gB,gF,fU,bF,gu]
def RV(x1:bn):Nat->Int->(List cO)->Option (List cO×bn)|0,_,_=>none|bf+1,x2,x3=>(nC x1).bind λx4=>bif decide (x2<x4) then(Ns x1 x2).bind λx5=>bq (decide ((x3.length+ [x5.1].length)*80<=room)) ((RV x1 bf) (aQ (x2+1)) (x3++ [x5.1])) else some (x3,x1)
def aeR(p1:bn)(p2:Int):Option (List cO×bn):=RV p1 fuel p2 ([]:List cO)
def MV(x1:bn):Nat->Int->(List cO)->Option (List cO)|0,_,_=>none|bf+1,x2,x3=>(nC x1).bind λx4=>bif decide (x2<x4) then(Ns x1 x2).bind λx5=>bq (decide ((x3.length+ [x5.1].length)*80<=room)) ((MV x1 bf) (aQ (x2+1)) (x3++ [x5.1])) else some x3
theorem al8(x1:bn):∀n:Nat,RV x1 n=λx2 x3=>(MV x1 n x2 x3).bind (λx=>some (x,x1))
  |0=>rfl
  |n+1=>by
    funext x2 x3
    simp only[RV,MV,al8 x1 n,fQ,gq,gD,gB,gF,fU,bF,gu]
def Fy(p1:bn)(p2:Int):Option (List cO):=MV p1 fuel p2 ([]:List cO)
theorem ayQ(p1:bn)(p2:Int):aeR p1 p2=(Fy p1 p2).bind λx=>some (x,p1):=by
  simp only[aeR,Fy,fQ,gq,gD,gB,gF,fU,bF,gu,al8]
def H8(x1:bJ)(x2:bn):Option (bJ×bn):=(zf x2.aR (aQ (x1.gQ-1))).bind λx3=>(Fy x2 x1.gQ).bind λx4=>some ({x1 with lZ:=x3,qO:=x2.fK,nk:=x4},x2)
def ad9(p1:bn)(p2:Int):Option (bJ×bn):=(yK p1 3 p2).bind λx5=>bif p2==4 then H8 {x5 with gQ:=p1.next.e4} p1 else bif p2==3 then H8 {x5 with gQ:=p1.next.e3} p1 else bif p2==2 then H8 {x5 with gQ:=p1.next.e2} p1 else bif p2==1 then H8 {x5 with gQ:=p1.next.e1} p1 else bif p2==0 then H8 {x5 with gQ:=p1.next.e0} p1 else none
def H6(x1:bJ)(x2:bn):Option bJ:=(zf x2.aR (aQ (x1.gQ-1))).bind λx3=>(Fy x2 x1.gQ).bind λx4=>some {x1 with lZ:=x3,qO:=x2.fK,nk:=x4}
theorem aww(x1:bJ)(x2:bn):H8 x1 x2=(H6 x1 x2).bind (λx=>some (x,x2)):=by
  simp only[H8,H6,fQ,gq,gD,gB,gF,fU,bF,gu]
def H9(p1:bn)(p2:Int):Option bJ:=(yK p1 3 p2).bind λx5=>bif p2==4 then H6 {x5 with gQ:=p1.next.e4} p1 else bif p2==3 then H6 {x5 with gQ:=p1.next.e3} p1 else bif p2==2 then H6 {x5 with gQ:=p1.next.e2} p1 else bif p2==1 then H6 {x5 with gQ:=p1.next.e1} p1 else bif p2==0 then H6 {x5 with gQ:=p1.next.e0} p1 else none
theorem awR(p1:bn)(p2:Int):ad9 p1 p2=(H9 p1 p2).bind λx=>some (x,p1):=by
  simp only[ad9,H9,fQ,gq,gD,gB,gF,fU,bF,gu,aww]
def Rj(adM:(List bJ)->Int->Option (List bJ×bn))(x1:Int)(x2:List bJ):Option (List bJ×bn):=adM x2 (aQ (x1+1))
def MN(x3:Int)(x4:bn):Nat->(List bJ)->Int->Option (List bJ×bn)|0,_,_=>none|bf+1,x5,x1=>bif decide (x1<x3) then bif x1 !=x4.id then(H9 x4 x1).bind λx6=>bq (decide ((x5.length+ [x6].length)*88<=room)) (Rj (MN x3 x4 bf) x1 (x5++ [x6])) else Rj (MN x3 x4 bf) x1 x5 else some (x5,x4)
def adY(p1:bn):Option (List bJ×bn):=MN p1.n p1 fuel ([]:List bJ) 0
def MJ(Xz:(List bJ)->Int->Option (List bJ))(x1:Int)(x2:List bJ):Option (List bJ):=Xz x2 (aQ (x1+1))
theorem alU(G:(List bJ)->Option (List bJ×bn))(Xz:(List bJ)->Int->Option (List bJ))(x1:Int)(x2:List bJ):Rj (λy1 y2=>(Xz y1 y2).bind G) x1 x2=(MJ Xz x1 x2).bind G:=by
  simp only[Rj,MJ,fQ,gq,gD,gB,gF,fU,bF,gu]
def HY(x3:Int)(x4:bn):Nat->(List bJ)->Int->Option (List bJ)|0,_,_=>none|bf+1,x5,x1=>bif decide (x1<x3) then bif x1 !=x4.id then(H9 x4 x1).bind λx6=>bq (decide ((x5.length+ [x6].length)*88<=room)) (MJ (HY x3 x4 bf) x1 (x5++ [x6])) else MJ (HY x3 x4 bf) x1 x5 else some x5
theorem alV(x3:Int)(x4:bn):∀n:Nat,MN x3 x4 n=λx5 x1=>(HY x3 x4 n x5 x1).bind (λx=>some (x,x4))
  |0=>rfl
  |n+1=>by
    funext x5 x1
    simp only[MN,HY,alV x3 x4 n,fQ,gq,gD,gB,gF,fU,bF,gu,alU]
def BK(p1:bn):Option (List bJ):=HY p1.n p1 fuel ([]:List bJ) 0
theorem awE(p1:bn):adY p1=(BK p1).bind λx=>some (x,p1):=by
  simp only[adY,BK,fQ,gq,gD,gB,gF,fU,bF,gu,alU,alV]
def zi(p1:bn)(p2:aP):Option (List bJ×Int×bn):=bif p1.fO !=3 then some (([]:List bJ),4,p1) else(jl p1).bind λx1=>(R3 p1.aR x1 p2).bind λx2=>bif x2.1 !=0 then some (([]:List bJ),x2.1,{p1 with aR:=x2.2}) else(Nn x2.2).bind λx3=>(zR {p1 with aR:=x3}).bind λx4=>(BK x4).bind λx5=>some (x5,0,x4)
def aeN(p1:bn):Option (List bJ×bn):=bif p1.fO !=3 then some (([]:List bJ),p1) else(BK p1).bind λx1=>some (x1,p1)
def Kl(p1:bn):Option (List bJ):=bif p1.fO !=3 then some ([]:List bJ) else(BK p1).bind λx1=>some x1
theorem ayL(p1:bn):aeN p1=(Kl p1).bind λx=>some (x,p1):=by
  simp only[aeN,Kl,fQ,gq,gD,gB,gF,fU,bF,gu]
def Ye(p1:bR)(p2:Int):Option bR:=(HV p1.bg p2 (aQ (p2+1))).bind λx1=>some (⟨[p1.aT.getD 0 aG],x1,p1.lY⟩:bR)
def M7(p1:bJ)(x1:List cO)(x2:Int):Nat->Int->Int->Option Bool|0,_,_=>none|bf+1,x3,x4=>bif decide (x4<x2) then bC x1 x4 λx5=>(rY x5.kL).bind λx6=>bif(!x6||decide (x5.iA<x3))||decide (p1.iA<x5.iA) then some false else(M7 p1 x1 x2 bf) x5.iA (aQ (x4+1)) else some true
def Nu(p1:bJ):Option Bool:=bif !((p1.lZ==0)==(p1.gQ==0))||decide (4096<aQ (p1.gQ+(p1.nk.length:Int))) then some false else M7 p1 p1.nk (p1.nk.length:Int) fuel (jD 1 p1.lZ) 0
def MW(p2:bJ)(x1:Int)(x2:Bool)(x3:bn):Option (Bool×bn):=bif x2 then some (true,x3) else bif x1==3 then(Nu p2).bind λx4=>some (x4,x3) else some (false,x3)
def aey(p1:bn)(p2:bJ):Option (Bool×bn):=bif((((((((((p2.To !=p1.id||p2.From==p1.id)||decide (p2.From<0))||decide (p1.n<=p2.From))||decide (p2.iA<1))||decide (1073741824<p2.iA))||decide (p2.gQ<0))||decide (4096<p2.gQ))||decide (p2.lZ<0))||decide (p2.iA<p2.lZ))||decide (p2.qO<0))||decide (4096<p2.qO) then some (false,p1) else bif p2.aL==1 then MW p2 p2.aL (p2.aL==1) p1 else bif p2.aL==2 then MW p2 p2.aL (p2.aL==2) p1 else MW p2 p2.aL (p2.aL==4) p1
def Dn(p2:bJ)(x1:Int)(x2:Bool):Option Bool:=bif x2 then some true else bif x1==3 then(Nu p2).bind λx4=>some x4 else some false
theorem awS(p2:bJ)(x1:Int)(x2:Bool)(x3:bn):MW p2 x1 x2 x3=(Dn p2 x1 x2).bind (λx=>some (x,x3)):=by
  simp only[MW,Dn,fQ,gq,gD,gB,gF,fU,bF,gu]
def Ig(p1:bn)(p2:bJ):Option Bool:=bif((((((((((p2.To !=p1.id||p2.From==p1.id)||decide (p2.From<0))||decide (p1.n<=p2.From))||decide (p2.iA<1))||decide (1073741824<p2.iA))||decide (p2.gQ<0))||decide (4096<p2.gQ))||decide (p2.lZ<0))||decide (p2.iA<p2.lZ))||decide (p2.qO<0))||decide (4096<p2.qO) then some false else bif p2.aL==1 then Dn p2 p2.aL (p2.aL==1)else bif p2.aL==2 then Dn p2 p2.aL (p2.aL==2)else Dn p2 p2.aL (p2.aL==4)
theorem axL(p1:bn)(p2:bJ):aey p1 p2=(Ig p1 p2).bind λx=>some (x,p1):=by
  simp only[aey,Ig,fQ,gq,gD,gB,gF,fU,bF,gu,awS]
def aeG(p1:fT):Option (Int×fT):=some (p1.iR,p1)
def M9(p1:fT):Option Int:=some p1.iR
theorem ayD(p1:fT):aeG p1=(M9 p1).bind λx=>some (x,p1):=by
  simp only[aeG,M9,fQ,gq,gD,gB,gF,fU,bF,gu]
def aeQ(p1:bn):Option (Int×bn):=(M9 p1.aR).bind λx1=>some (x1,p1)
def Nb(p1:bn):Option Int:=(M9 p1.aR).bind λx1=>some x1
theorem ayP(p1:bn):aeQ p1=(Nb p1).bind λx=>some (x,p1):=by
  simp only[aeQ,Nb,fQ,gq,gD,gB,gF,fU,bF,gu]
def XF(x1:bJ)(x2:bn):Option (List bJ×bn):=some ([x1],x2)
def ad3(p1:bn)(p2:bJ):Option (List bJ×bn):=(Ic p1).bind λx3=>(Nb p1).bind λx4=>(bif !(x4==(-1)) then Nb p1 else some aG).bind λx5=>(bif(!(decide (x3<p2.lZ))&&p2.lZ==x3)then nC p1 else some aG).bind λx6=>(yK p1 2 p2.From).bind λx7=>(jl p1).bind λx8=>bif(p2.iA==x8&&(x4==(-1)||x5==p2.From))&&(decide (x3<p2.lZ)||p2.lZ==x3&&decide (x6<=p2.gQ)) then(MZ p1 p2.iA p2.From).bind λx9=>XF {x7 with OK:=true} x9 else XF x7 p1
def XC(x1:Int)(x2:bn):Nat->Int->Int->Option (List bJ×bn)|0,_,_=>none|bf+1,x3,x4=>bif decide (x4<x1) then bq (decide ((0:Int)<=IntKind.u64.wrap x4)) ((XC x1 x2 bf) (aQ (x3+(je .i64 (iJ .i64 x2.nK (IntKind.u64.wrap x4)) 1))) (aQ (x4+1))) else bif decide (aQ (2*x3)<=x2.n) then some (([]:List bJ),x2) else(Nt x2).bind λx5=>(BK x5).bind λx6=>some (x6,x5)
def XI(p1:bn)(p2:bJ):Option (List bJ×bn):=(bif !(p1.fO !=2) then jl p1 else some aG).bind λx7=>bif(p1.fO !=2||p2.iA !=x7)||!p2.OK then some (([]:List bJ),p1) else bq (decide ((0:Int)<=IntKind.u64.wrap p2.From)) (XC p1.n {p1 with nK:=ug .i64 p1.nK (iL .i64 1 (IntKind.u64.wrap p2.From))} fuel 0 0)
def aez(p1:bn)(p2 p3:Int)(p4:Bool):Option (List bJ×bn):=(yK p1 4 p2).bind λx1=>some ([{x1 with gQ:=p3,OK:=p4}],p1)
def Fu(p1:bn)(p2 p3:Int)(p4:Bool):Option (List bJ):=(yK p1 4 p2).bind λx1=>some [{x1 with gQ:=p3,OK:=p4}]
theorem axN(p1:bn)(p2 p3:Int)(p4:Bool):aez p1 p2 p3 p4=(Fu p1 p2 p3 p4).bind λx=>some (x,p1):=by
  simp only[aez,Fu,fQ,gq,gD,gB,gF,fU,bF,gu]
def Ym(p1:fT)(p2:Int):Option (Int×fT):=bif decide (p2<0)||decide ((p1.bT.length:Int)<p2) then some (1,p1) else bq (decide (0<=p2/\p2<=(p1.bT.length:Int))) (bq (decide (Int.toNat p2<=p1.bT.length)) (some (0,{p1 with bT:=p1.bT.take (Int.toNat p2)})))
def amJ(p1:fT)(p2:Int):Option (Int×fT):=(Ym p1 p2).bind λx1=>bif x1.1 !=0 then some (x1.1,x1.2) else(Ow [3,p2]).bind λx2=>(Nc x1.2 x2).bind λx3=>some (0,x3)
def Rs(p3:List cO)(x1:Int):Nat->Int->bn->Option bn|0,_,_=>none|bf+1,x2,x3=>bif decide (x2<x1) then bC p3 x2 λx4=>(R3 x3.aR x4.iA x4.kL).bind λx5=>(Rs p3 x1 bf) (aQ (x2+1)) (⟨x5.2,x3.id,x3.n,x3.fO,x3.fK,x3.nK,x3.next,x3.gH⟩:bn) else(Nn x3.aR).bind λx6=>some (⟨x6,x3.id,x3.n,x3.fO,x3.fK,x3.nK,x3.next,x3.gH⟩:bn)
def XK(p3:List cO)(x7:bn):Option bn:=Rs p3 (p3.length:Int) fuel 0 x7
def aep(p1:bn)(p2:Int)(p3:List cO):Option bn:=(nC p1).bind λx8=>bif decide (p2<x8) then(amJ p1.aR p2).bind λx9=>XK p3 {p1 with aR:=x9.2} else XK p3 p1
def Ri(p2:bJ)(x1:bn):Option (List bJ×bn):=(Fu (⟨x1.aR,x1.id,x1.n,x1.fO,jD x1.fK (ji p2.qO (aQ (p2.gQ+(p2.nk.length:Int)))),x1.nK,x1.next,x1.gH⟩:bn) p2.From (aQ (p2.gQ+(p2.nk.length:Int))) true).bind λx2=>some (x2,(⟨x1.aR,x1.id,x1.n,x1.fO,jD x1.fK (ji p2.qO (aQ (p2.gQ+(p2.nk.length:Int)))),x1.nK,x1.next,x1.gH⟩:bn))
def MK(p2:bJ)(x3:bn):Nat->Int->Option (List bJ×bn)|0,_=>none|bf+1,x4=>(bif decide (x4<(p2.nk.length:Int)) then zf x3.aR (aQ (p2.gQ+x4))else some aG).bind λx5=>nR (decide (x4<(p2.nk.length:Int))) p2.nk x4 λx6=>bif decide (x4<(p2.nk.length:Int))&&x5==x6.iA then(MK p2 x3 bf) (aQ (x4+1))else bif decide (x4<(p2.nk.length:Int)) then bif decide (aQ (p2.gQ+x4)<x3.fK) then some (([]:List bJ),x3) else bq (decide (0<=x4/\x4<=(p2.nk.length:Int)/\(p2.nk.length:Int)<=(p2.nk.length:Int))) ((aep x3 (aQ (p2.gQ+x4)) (p2.nk.drop (Int.toNat x4))).bind λx7=>Ri p2 x7) else Ri p2 x3
def adU(p1:bn)(p2:bJ):Option (List bJ×bn):=(jl p1).bind λx8=>bif decide (p2.iA<x8) then(Fu p1 p2.From 0 false).bind λx9=>some (x9,p1) else bif p1.fO==3 then some (([]:List bJ),p1) else(nC {p1 with fO:=1}).bind λx10=>(bif !(decide (x10<p2.gQ))&&decide (0<p2.gQ) then zf p1.aR (aQ (p2.gQ-1))else some aG).bind λbU=>bif decide (x10<p2.gQ)||decide (0<p2.gQ)&&bU !=p2.lZ then(nC {p1 with fO:=1}).bind λbV=>(Fu {p1 with fO:=1} p2.From (ji bV (aQ (p2.gQ-1))) false).bind λdG=>some (dG,{p1 with fO:=1}) else MK p2 {p1 with fO:=1} fuel 0
def ML(x1:bJ)(x2:bn):Option (List bJ×bn):=(H9 x2 x1.From).bind λx3=>some ([x3],x2)
def XB(x4:bn):Option (List bJ×bn):=some (([]:List bJ),x4)
def J2(x5:bn):Option (List bJ×bn):=(zR x5).bind λx6=>XB x6
def J3(x7:bJ)(x8:bn):Option (List bJ×bn):=bif x7.From==4 then J2 (⟨x8.aR,x8.id,x8.n,x8.fO,x8.fK,x8.nK,⟨x8.next.e0,x8.next.e1,x8.next.e2,x8.next.e3,x8.gH.e4⟩,x8.gH⟩:bn)else bif x7.From==3 then J2 (⟨x8.aR,x8.id,x8.n,x8.fO,x8.fK,x8.nK,⟨x8.next.e0,x8.next.e1,x8.next.e2,x8.gH.e3,x8.next.e4⟩,x8.gH⟩:bn)else bif x7.From==2 then J2 (⟨x8.aR,x8.id,x8.n,x8.fO,x8.fK,x8.nK,⟨x8.next.e0,x8.next.e1,x8.gH.e2,x8.next.e3,x8.next.e4⟩,x8.gH⟩:bn)else bif x7.From==1 then J2 (⟨x8.aR,x8.id,x8.n,x8.fO,x8.fK,x8.nK,⟨x8.next.e0,x8.gH.e1,x8.next.e2,x8.next.e3,x8.next.e4⟩,x8.gH⟩:bn)else bif x7.From==0 then J2 (⟨x8.aR,x8.id,x8.n,x8.fO,x8.fK,x8.nK,⟨x8.gH.e0,x8.next.e1,x8.next.e2,x8.next.e3,x8.next.e4⟩,x8.gH⟩:bn)else none
def adV(p1:bn)(p2:bJ):Option (List bJ×bn):=(bif !(p1.fO !=3) then jl p1 else some aG).bind λx9=>bif p1.fO !=3||p2.iA !=x9 then some (([]:List bJ),p1) else bif !p2.OK then bif p2.From==4 then ML {p2 with From:=4} {p1 with next:={p1.next with e4:=jD 0 (ji (aQ (p1.next.e4-1)) p2.gQ)}}else bif p2.From==3 then ML {p2 with From:=3} {p1 with next:={p1.next with e3:=jD 0 (ji (aQ (p1.next.e3-1)) p2.gQ)}}else bif p2.From==2 then ML {p2 with From:=2} {p1 with next:={p1.next with e2:=jD 0 (ji (aQ (p1.next.e2-1)) p2.gQ)}}else bif p2.From==1 then ML {p2 with From:=1} {p1 with next:={p1.next with e1:=jD 0 (ji (aQ (p1.next.e1-1)) p2.gQ)}}else bif p2.From==0 then ML {p2 with From:=0} {p1 with next:={p1.next with e0:=jD 0 (ji (aQ (p1.next.e0-1)) p2.gQ)}}else none else(nC p1).bind λx10=>bif decide (p2.gQ<=x10) then bif p2.From==4 then J3 {p2 with From:=4} {p1 with gH:={p1.gH with e4:=jD p1.gH.e4 p2.gQ}}else bif p2.From==3 then J3 {p2 with From:=3} {p1 with gH:={p1.gH with e3:=jD p1.gH.e3 p2.gQ}}else bif p2.From==2 then J3 {p2 with From:=2} {p1 with gH:={p1.gH with e2:=jD p1.gH.e2 p2.gQ}}else bif p2.From==1 then J3 {p2 with From:=1} {p1 with gH:={p1.gH with e1:=jD p1.gH.e1 p2.gQ}}else bif p2.From==0 then J3 {p2 with From:=0} {p1 with gH:={p1.gH with e0:=jD p1.gH.e0 p2.gQ}}else none else XB p1
def Ie(p2:bJ)(x1:bn):Option (List bJ×bn):=bif p2.aL==1 then(ad3 x1 p2).bind λx2=>some (x2.1,x2.2) else bif p2.aL==2 then(XI x1 p2).bind λx3=>some (x3.1,x3.2) else bif p2.aL==3 then(adU x1 p2).bind λx4=>some (x4.1,x4.2) else bif p2.aL==4 then(adV x1 p2).bind λx5=>some (x5.1,x5.2) else some (([]:List bJ),x1)
def nT(p1:bn)(p2:bJ):Option (List bJ×bn):=(Ig p1 p2).bind λx6=>bif !x6 then some (([]:List bJ),p1) else(jl p1).bind λx7=>bif decide (x7<p2.iA) then(MZ p1 p2.iA (-1)).bind λx8=>Ie p2 {x8 with fO:=1} else Ie p2 p1
def afS(p1:bQ)(p2:Int):Option bQ:=bq (decide (0<=(aQ (p1.qL+(jD 0 (ji p2 (aQ ((p1.data.length:Int)-p1.qL))))))/\(aQ (p1.qL+(jD 0 (ji p2 (aQ ((p1.data.length:Int)-p1.qL))))))<=(p1.data.length:Int))) (bq (decide (Int.toNat (aQ (p1.qL+(jD 0 (ji p2 (aQ ((p1.data.length:Int)-p1.qL))))))<=p1.data.length)) (some (⟨p1.data.take (Int.toNat (aQ (p1.qL+(jD 0 (ji p2 (aQ ((p1.data.length:Int)-p1.qL))))))),(((p1.data.take (Int.toNat (aQ (p1.qL+(jD 0 (ji p2 (aQ ((p1.data.length:Int)-p1.qL)))))))).length:Nat):Int)⟩:bQ)))
def afR(p1:bQ):Option (List Int×bQ):=bq (decide ((0+p1.data.length)*1<=room)) (some (p1.data,p1))
def Sz(p1:bQ):Option (List Int):=bq (decide ((0+p1.data.length)*1<=room)) (some p1.data)
theorem aB0(p1:bQ):afR p1=(Sz p1).bind λx=>some (x,p1):=by
  simp only[afR,Sz,fQ,gq,gD,gB,gF,fU,bF,gu]
def agD(p1:Int):Option Int:=bif je .u64 p1 1==1 then some (IntKind.i64.wrap (wm .u64 18446744073709551615 (iJ .u64 p1 1))) else some (IntKind.i64.wrap (iJ .u64 p1 1))
def N9(p1:(List Int)):Nat->Int->Int->Option (Int×Int×Int)|0,_,_=>none|bf+1,x1,x2=>bif decide (x2<10) then bif x2==(p1.length:Int) then some (0,0,17) else bC p1 x2 λx3=>bq (decide ((0:Int)<=IntKind.u64.wrap (aQ (7*x2)))) (bif decide (128<=x3) then(N9 p1 bf) (ug .u64 x1 (iL .u64 (IntKind.u64.wrap (je .u8 x3 127)) (IntKind.u64.wrap (aQ (7*x2))))) (aQ (x2+1))else bif decide (0<x2)&&x3==0||x2==9&&decide (1<x3) then some (0,0,18) else(agD (ug .u64 x1 (iL .u64 (IntKind.u64.wrap (je .u8 x3 127)) (IntKind.u64.wrap (aQ (7*x2)))))).bind λx4=>some (x4,aQ (x2+1),0)) else some (0,0,18)
def OC(p1:(List Int)):Option (Int×Int×Int):=N9 p1 fuel 0 0
def Oj(p1:List Int)(p2 x1 x2:Int):Nat->Int->Int->Option (List Int×Int×Int)|0,_,_=>none|bf+1,x3,x4=>bif decide (x4<8) then bC p1 (aQ (x2+x4)) λx5=>bq (decide ((0:Int)<=IntKind.u64.wrap (aQ (8*x4)))) ((Oj p1 p2 x1 x2 bf) (ug .u64 x3 (iL .u64 (IntKind.u64.wrap x5) (IntKind.u64.wrap (aQ (8*x4))))) (aQ (x4+1))) else bq (decide (0<=(aQ (x2+8))/\(aQ (x2+8))<=(aQ ((aQ (x2+8))+x1))/\(aQ ((aQ (x2+8))+x1))<=(p1.length:Int))) (bq (decide ((0+((p1.take (Int.toNat (aQ ((aQ (x2+8))+x1)))).drop (Int.toNat (aQ (x2+8)))).length)*1<=room)) ((UD p2 ((p1.take (Int.toNat (aQ ((aQ (x2+8))+x1)))).drop (Int.toNat (aQ (x2+8))))).bind λx6=>bif x3 !=x6 then some (([]:List Int),0,18) else some ((p1.take (Int.toNat (aQ ((aQ (x2+8))+x1)))).drop (Int.toNat (aQ (x2+8))),aQ ((aQ (x2+8))+x1),0)))
def ZT(p1:List Int)(p2:Int):Option (List Int×Int×Int):=(OC p1).bind λx7=>bif x7.2.2 !=0 then some (([]:List Int),0,x7.2.2) else bif decide (x7.1<0) then some (([]:List Int),0,18) else bif decide (65536<x7.1) then some (([]:List Int),0,2) else bif decide (aQ ((p1.length:Int)-x7.2.1)<aQ (8+x7.1)) then some (([]:List Int),0,17) else Oj p1 p2 x7.1 x7.2.1 fuel 0 0
def Ox(p1:(List Int)):Option (Int×List Int×Bool):=(OC p1).bind λx1=>bif x1.2.2 !=0 then some (0,([]:List Int),false) else bq (decide (0<=x1.2.1/\x1.2.1<=(p1.length:Int)/\(p1.length:Int)<=(p1.length:Int))) (some (x1.1,p1.drop (Int.toNat x1.2.1),true))
def AA(afJ:uY->Int->Int->Option (aP×Int×Int))(x1 x2:Int)(x3:uY)(x4:Int):Option (aP×Int×Int):=afJ x3 (aQ (x1+x4)) (aQ (x2+1))
def wF(p1:(List Int)):Nat->uY->Int->Int->Option (aP×Int×Int)|0,_,_,_=>none|bf+1,x5,x1,x2=>bif decide (x2<9) then bq (decide (0<=x1/\x1<=(p1.length:Int)/\(p1.length:Int)<=(p1.length:Int))) ((OC (p1.drop (Int.toNat x1))).bind λx6=>bif x6.2.2 !=0 then some ((⟨0,0,0,0,0,0,0,0,0⟩:aP),0,x6.2.2) else bif x2==8 then AA (wF p1 bf) x1 x2 {x5 with e8:=x6.1} x6.2.1 else bif x2==7 then AA (wF p1 bf) x1 x2 {x5 with e7:=x6.1} x6.2.1 else bif x2==6 then AA (wF p1 bf) x1 x2 {x5 with e6:=x6.1} x6.2.1 else bif x2==5 then AA (wF p1 bf) x1 x2 {x5 with e5:=x6.1} x6.2.1 else bif x2==4 then AA (wF p1 bf) x1 x2 {x5 with e4:=x6.1} x6.2.1 else bif x2==3 then AA (wF p1 bf) x1 x2 {x5 with e3:=x6.1} x6.2.1 else bif x2==2 then AA (wF p1 bf) x1 x2 {x5 with e2:=x6.1} x6.2.1 else bif x2==1 then AA (wF p1 bf) x1 x2 {x5 with e1:=x6.1} x6.2.1 else bif x2==0 then AA (wF p1 bf) x1 x2 {x5 with e0:=x6.1} x6.2.1 else none) else(rY (⟨x5.e0,x5.e1,x5.e2,x5.e3,x5.e4,x5.e5,x5.e6,x5.e7,x5.e8⟩:aP)).bind λx7=>bif !x7 then some ((⟨0,0,0,0,0,0,0,0,0⟩:aP),0,18) else some ((⟨x5.e0,x5.e1,x5.e2,x5.e3,x5.e4,x5.e5,x5.e6,x5.e7,x5.e8⟩:aP),x1,0)
def ZR(p1:(List Int)):Option (aP×Int×Int):=wF p1 fuel (⟨0,0,0,0,0,0,0,0,0⟩:uY) 0 0
def ad4(x1:Bool)(x2:fT):Option (Bool×fT):=some (x1,x2)
def ad5(x3:Bool)(x4:fT):Option (Bool×fT):=some (x3,x4)
def XV(p1:fT)(p2:List Int):Option (Bool×fT):=(Ox p2).bind λx5=>bif !x5.2.2 then some (false,p1) else(Ox x5.2.1).bind λx6=>bif !x6.2.2 then some (false,p1) else bif x5.1==1 then(Ox x6.2.1).bind λx7=>(bif x7.2.2&&(x7.2.1.length:Int)==0 then RN p1 x6.1 x7.1 else some (aG,p1)).bind λx8=>some ((x7.2.2&&(x7.2.1.length:Int)==0)&&x8.1==0,x8.2) else bif x5.1==2 then(ZR x6.2.1).bind λx9=>bif x9.2.2==0&&x9.2.1==(x6.2.1.length:Int) then(Sm p1 x6.1 x9.1).bind λx10=>ad4 (x10.1==0) x10.2 else ad4 false p1 else bif x5.1==3 then bif(x6.2.1.length:Int)==0 then(Ym p1 x6.1).bind λbU=>ad5 (bU.1==0) bU.2 else ad5 false p1 else some (false,p1)
def afe(p1:bQ)(p2:Int):Option (Int×bQ):=bif decide (p2<0)||decide ((p1.data.length:Int)<p2) then some (1,p1) else bq (decide (0<=p2/\p2<=(p1.data.length:Int))) (bq (decide (Int.toNat p2<=p1.data.length)) (some (0,(⟨p1.data.take (Int.toNat p2),ji p1.qL p2⟩:bQ))))
def RB(x1:Int)(x2:fT):Option fT:=(afe x2.bX x1).bind λx3=>some (⟨x3.2,x2.gJ,x2.iR,x2.bT⟩:fT)
def RD(adW:Int->fT->Option fT)(x1 x4:Int)(x5:Bool)(x6:fT):Option fT:=bif x5 then RB x1 x6 else adW (aQ (x1+x4)) x6
def J9(x7:(List Int)):Nat->Int->fT->Option fT|0,_,_=>none|bf+1,x1,x8=>bif decide (x1<(x7.length:Int)) then bq (decide (0<=x1/\x1<=(x7.length:Int)/\(x7.length:Int)<=(x7.length:Int))) ((ZT (x7.drop (Int.toNat x1)) 8).bind λx9=>bif x9.2.2 !=0 then RD (J9 x7 bf) x1 x9.2.1 true x8 else(XV x8 x9.1).bind λx10=>RD (J9 x7 bf) x1 x9.2.1 (!x10.1) x10.2) else RB x1 x8
def X7(p1:fT)(p2:Int):Option fT:=(afS p1.bX p2).bind λbU=>(Sz bU).bind λx7=>J9 x7 fuel 0 (⟨bU,0,(-1),([]:List cO)⟩:fT)
def BQ(p1:bn)(p2:Int):Option bn:=(X7 p1.aR p2).bind λx1=>some {p1 with aR:=x1,fO:=1,fK:=0}
def aex(p1:bn):Option (Int×bn):=some (p1.fK,p1)
def oM(p1:bn):Option Int:=some p1.fK
theorem axJ(p1:bn):aex p1=(oM p1).bind λx=>some (x,p1):=by
  simp only[aex,oM,fQ,gq,gD,gB,gF,fU,bF,gu]
def afb(p1:bn):Option (List cO×bn):=(Fy p1 0).bind λx1=>some (x1,p1)
def rD(p1:bn):Option (List cO):=(Fy p1 0).bind λx1=>some x1
theorem azy(p1:bn):afb p1=(rD p1).bind λx=>some (x,p1):=by
  simp only[afb,rD,fQ,gq,gD,gB,gF,fU,bF,gu]
def Ar(x1 x2:Int)(x3:bR):Option bR:=bif decide (aQ (x2+1)<x1) then none else some x3
def Nh(x4 x5:Int)(x6:List cO)(x7:Int)(x8:bR):Nat->(List aP)->Int->Option bR|0,_,_=>none|bf+1,x9,x10=>bif decide (x10<x7) then bC x6 x10 λbU=>bq (decide ((x9.length+ [bU.kL].length)*72<=room)) ((Nh x4 x5 x6 x7 x8 bf) (x9++ [bU.kL]) (aQ (x10+1))) else Ar x4 x5 (⟨[x8.aT.getD 0 aG],x8.bg,x9⟩:bR)
def Yp(p1:bR):Option bR:=bif decide (0<1) then(oM (p1.aT.getD 0 aG)).bind λbV=>bif decide (bV<=(p1.lY.length:Int)) then Ar 1 0 (iI p1)else(oM (p1.aT.getD 0 aG)).bind λdG=>bq (decide ((0:Int)<=0/\(0:Int)<=dG/\(dG:Int)<=9223372036854775807/\(dG:Int)*72<=140737488355328)) ((rD (p1.aT.getD 0 aG)).bind λdD=>(oM (p1.aT.getD 0 aG)).bind λfu=>bq (decide (0<=fu/\fu<=(dD.length:Int))) (Nh 1 0 (dD.take (Int.toNat fu)) (((dD.take (Int.toNat fu)).length:Nat):Int) (iI p1) fuel (List.replicate (Int.toNat 0) (aG:aP)) 0)) else none
def zU(x1:bR):Option (Int×bR):=(Yp x1).bind λx2=>some (0,iI x2)
def IB(p1:bR)(p2:lN):Option (Int×bR):=(J8 (iI p1) p2).bind λx3=>bif !x3 then some (1,iI p1) else bif p2.aL==1 then bif p2.nZ==0 then(zh (p1.aT.getD 0 aG)).bind λx4=>(BS {p1 with aT:=[x4.2]} x4.1).bind λx5=>zU (iI x5) else none else bif p2.aL==2 then bif p2.nZ==0 then(zi (p1.aT.getD 0 aG) p2.kL).bind λx6=>bif x6.2.1 !=0 then some (x6.2.1,{p1 with aT:=[x6.2.2]}) else(BS {p1 with aT:=[x6.2.2]} x6.1).bind λx7=>zU (iI x7) else none else bif p2.aL==3 then bif p2.nZ==0 then(Kl (p1.aT.getD 0 aG)).bind λx8=>(BS (iI p1) x8).bind λx9=>zU (iI x9) else none else bif p2.aL==4 then bC p1.bg p2.N λx10=>(Ye (iI p1) p2.N).bind λbU=>bif x10.To==0 then(nT (bU.aT.getD 0 aG) {x10 with To:=0}).bind λbV=>(BS {bU with aT:=[bV.2]} bV.1).bind λdG=>zU (iI dG) else none else bif p2.aL==5 then bC p1.bg p2.N λdD=>bif dD.To==0 then(nT (p1.aT.getD 0 aG) {dD with To:=0}).bind λfu=>(BS {p1 with aT:=[fu.2]} fu.1).bind λgZ=>zU (iI gZ) else none else bif p2.aL==6 then(Ye (iI p1) p2.N).bind λiE=>zU (iI iE) else bif p2.aL==7 then bif p2.nZ==0 then(BQ (p1.aT.getD 0 aG) p2.N).bind λx18=>zU {p1 with aT:=[x18]} else none else zU (iI p1)
def R5(p2:Int):Nat->Int->bR->Option (Int×bR)|0,_,_=>none|bf+1,x1,x2=>bif decide (0<(x2.bg.length:Int))&&decide (x1<5000) then bC x2.bg 0 λx3=>(Ye x2 0).bind λx4=>bq (decide ((0:Int)<=IntKind.u64.wrap x3.From)) (bq (!(!(je .i64 (iJ .i64 p2 (IntKind.u64.wrap x3.From)) 1==0))||decide ((0:Int)<=IntKind.u64.wrap x3.To)) (bif je .i64 (iJ .i64 p2 (IntKind.u64.wrap x3.From)) 1==0||je .i64 (iJ .i64 p2 (IntKind.u64.wrap x3.To)) 1==0 then(R5 p2 bf) x1 (iI x4)else bif x3.To==0 then(nT (x4.aT.getD 0 aG) {x3 with To:=0}).bind λx5=>(BS {x4 with aT:=[x5.2]} x5.1).bind λx6=>(Yp (iI x6)).bind λx7=>(R5 p2 bf) (aQ (x1+1)) (iI x7) else none)) else some (x1,x2)
def Ku(p1:bR)(p2:Int):Option (Int×bR):=R5 p2 fuel 0 (iI p1)
def aeH(p1:bR)(p2:Int):Option (Int×bR):=(FJ (iI p1) p2).bind λx1=>bif !x1 then some (0,iI p1) else bif p2==0 then(oM (p1.aT.getD 0 aG)).bind λx2=>some (x2,iI p1) else none
def X3(p1:bR)(p2:Int):Option Int:=(FJ (iI p1) p2).bind λx1=>bif !x1 then some 0 else bif p2==0 then(oM (p1.aT.getD 0 aG)).bind λx2=>some x2 else none
theorem ayG(p1:bR)(p2:Int):aeH p1 p2=(X3 p1 p2).bind λx=>some (x,iI p1):=by
  simp only[aeH,X3,fQ,gq,gD,gB,gF,fU,bF,gu]
def afw(p1:bR)(p2:Int):Option (List cO×bR):=(FJ (iI p1) p2).bind λx1=>bif !x1 then some (([]:List cO),iI p1) else bif p2==0 then(rD (p1.aT.getD 0 aG)).bind λx2=>some (x2,iI p1) else none
def Kv(p1:bR)(p2:Int):Option (List cO):=(FJ (iI p1) p2).bind λx1=>bif !x1 then some ([]:List cO) else bif p2==0 then(rD (p1.aT.getD 0 aG)).bind λx2=>some x2 else none
theorem aA2(p1:bR)(p2:Int):afw p1 p2=(Kv p1 p2).bind λx=>some (x,iI p1):=by
  simp only[afw,Kv,fQ,gq,gD,gB,gF,fU,bF,gu]
def Iq(Dy:Int->Int->Int->Int->Option (Int×bO))(x1 x2 x3 x4:Int):Option (Int×bO):=Dy x1 x2 x3 (aQ (x4+1))
def Ir(Dy:Int->Int->Int->Int->Option (Int×bO))(x5 x6 x7 x8:Int)(x9:List cO)(x10 bU:Int):Option (Int×bO):=bif decide (x6<x10)||x10==x6&&decide (x7<(x9.length:Int)) then Iq Dy x8 x10 (x9.length:Int) bU else Iq Dy x5 x6 x7 bU
def Kr(bV:Int)(dG:bO):Nat->Int->Int->Int->Int->Option (Int×bO)|0,_,_,_,_=>none|bf+1,x5,x6,x7,x8=>bif decide (x8<bV) then(pI dG x8).bind λdD=>bif !dD then Iq (Kr bV dG bf) x5 x6 x7 x8 else(Kv dG.bg x8).bind λx9=>bif decide (0<(x9.length:Int)) then bC x9 (aQ ((x9.length:Int)-1)) λfu=>Ir (Kr bV dG bf) x5 x6 x7 x8 x9 fu.iA x8 else Ir (Kr bV dG bf) x5 x6 x7 x8 x9 0 x8 else some (x5,dG)
def afH(p1:bO):Option (Int×bO):=Kr (p1.dY.cZ.length:Int) (iU p1) fuel (-1) (-1) (-1) 0
def Fz(Dq:Int->Int->Int->Int->Option Int)(x1 x2 x3 x4:Int):Option Int:=Dq x1 x2 x3 (aQ (x4+1))
theorem R4(G:Int->Option (Int×bO))(Dq:Int->Int->Int->Int->Option Int)(x1 x2 x3 x4:Int):Iq (λy1 y2 y3 y4=>(Dq y1 y2 y3 y4).bind G) x1 x2 x3 x4=(Fz Dq x1 x2 x3 x4).bind G:=by
  simp only[Iq,Fz,fQ,gq,gD,gB,gF,fU,bF,gu]
def Dz(Dq:Int->Int->Int->Int->Option Int)(x5 x6 x7 x8:Int)(x9:List cO)(x10 bU:Int):Option Int:=bif decide (x6<x10)||x10==x6&&decide (x7<(x9.length:Int)) then Fz Dq x8 x10 (x9.length:Int) bU else Fz Dq x5 x6 x7 bU
theorem XZ(G:Int->Option (Int×bO))(Dq:Int->Int->Int->Int->Option Int)(x5 x6 x7 x8:Int)(x9:List cO)(x10 bU:Int):Ir (λy1 y2 y3 y4=>(Dq y1 y2 y3 y4).bind G) x5 x6 x7 x8 x9 x10 bU=(Dz Dq x5 x6 x7 x8 x9 x10 bU).bind G:=by
  simp only[Ir,Dz,fQ,gq,gD,gB,gF,fU,bF,gu,R4]
def BP(bV:Int)(dG:bO):Nat->Int->Int->Int->Int->Option Int|0,_,_,_,_=>none|bf+1,x5,x6,x7,x8=>bif decide (x8<bV) then(pI dG x8).bind λdD=>bif !dD then Fz (BP bV dG bf) x5 x6 x7 x8 else(Kv dG.bg x8).bind λx9=>bif decide (0<(x9.length:Int)) then bC x9 (aQ ((x9.length:Int)-1)) λfu=>Dz (BP bV dG bf) x5 x6 x7 x8 x9 fu.iA x8 else Dz (BP bV dG bf) x5 x6 x7 x8 x9 0 x8 else some x5
theorem amA(bV:Int)(dG:bO):∀n:Nat,Kr bV dG n=λx5 x6 x7 x8=>(BP bV dG n x5 x6 x7 x8).bind (λx=>some (x,dG))
  |0=>rfl
  |n+1=>by
    funext x5 x6 x7 x8
    simp only[Kr,BP,amA bV dG n,fQ,gq,gD,gB,gF,fU,bF,gu,XZ,R4]
def NC(p1:bO):Option Int:=BP (p1.dY.cZ.length:Int) (iU p1) fuel (-1) (-1) (-1) 0
theorem aBz(p1:bO):afH p1=(NC p1).bind λx=>some (x,iU p1):=by
  simp only[afH,NC,fQ,gq,gD,gB,gF,fU,bF,gu,XZ,R4,amA]
def Ko(Kc:Int->bO->Option (Bool×bO))(x1 x2:Int)(x3:Bool)(x4:bO):Option (Bool×bO):=bif x3 then(Ku x4.bg x4.up).bind λx5=>(X3 (iI x5.2) x2).bind λx6=>some (decide (x4.state.eP<x6),(⟨x4.dY,iI x5.2,x4.up,x4.state⟩:bO)) else(NC x4).bind λx7=>(IB x4.bg (⟨1,x7,0,⟨0,0,0,0,0,0,0,0,0⟩⟩:lN)).bind λx8=>(Ku (iI x8.2) x4.up).bind λx9=>Kc (aQ (x1+1)) (⟨x4.dY,iI x9.2,x4.up,x4.state⟩:bO)
def FB(p2:aP):Nat->Int->bO->Option (Bool×bO)|0,_,_=>none|bf+1,x1,x10=>bif decide (x1<4) then(Nq x10.bg).bind λbU=>(pI (⟨x10.dY,iI bU.2,x10.up,x10.state⟩:bO) bU.1).bind λbV=>bif bV then(IB (iI bU.2) (⟨2,bU.1,0,p2⟩:lN)).bind λdG=>Ko (FB p2 bf) x1 bU.1 (dG.1==0) (⟨x10.dY,iI dG.2,x10.up,x10.state⟩:bO) else Ko (FB p2 bf) x1 bU.1 false (⟨x10.dY,iI bU.2,x10.up,x10.state⟩:bO) else some (false,x10)
def Sv(p1:bO)(p2:aP):Option (Bool×bO):=FB p2 fuel 0 (iU p1)
def Ip(p1:bO)(p2:aP):Option (Int×Int×bO):=(zk (iU p1)).bind λx1=>bif !x1 then some (0,16,iU p1) else(Cb p1.dY p1.state p2).bind λx2=>bif x2.2 !=0 then some (0,x2.2,iU p1) else(Sv (iU p1) p2).bind λx3=>bif !x3.1 then some (0,16,iU x3.2) else some (x3.2.state.eP,0,{x3.2 with bg:=iI x3.2.bg,state:=x2.1})
def afn(x1:wP):Option (Bool×wP):=some (true,x1)
def YJ(p1:wP)(p2:aP):Option (Bool×wP):=(Ip (iU p1.p) p2).bind λx2=>bif x2.2.1 !=0 then some (false,{p1 with p:=iU x2.2.2,copies:=[[(p1.copies.getD 0 aG).getD 0 aG,(p1.copies.getD 0 aG).getD 1 aG]]}) else bif p2.aL==2 then bq (decide ((p1.Gp.length+ [(⟨p2.aI,x2.1,{p2 with sW:=p2.N}⟩:iK)].length)*56<=room)) (afn {p1 with p:=iU x2.2.2,copies:=[[(p1.copies.getD 0 aG).getD 0 aG,(p1.copies.getD 0 aG).getD 1 aG]],Gp:=(p1.Gp++ [(⟨p2.aI,x2.1,{p2 with sW:=p2.N}⟩:iK)])}) else afn {p1 with p:=iU x2.2.2,copies:=[[(p1.copies.getD 0 aG).getD 0 aG,(p1.copies.getD 0 aG).getD 1 aG]]}
def Gh(p1 p2:Int):Option Int:=bq (decide (p2≠(0:Int))) (bq (decide (p2≠(0:Int))) (some (Int.tmod (aQ ((Int.tmod p1 p2)+p2)) p2)))
def aon(p1:iC):Option Bool:=some (((((((decide (1<=p1.bP)&&decide (p1.bP<=1048576))&&decide (0<=p1.sW))&&decide (p1.sW<30))&&decide (0<=p1.From))&&decide (p1.From<=1073741824))&&decide (p1.From<p1.bY))&&decide (p1.bY<=1073743824))
def cmp_isNaN_int(p1:Int):Option Bool:=some (p1 !=p1)
def cmp_Compare_int(p1 p2:Int):Option Int:=(cmp_isNaN_int p1).bind λx1=>(cmp_isNaN_int p2).bind λx2=>bif x1 then bif x2 then some 0 else some (-1) else bif x2 then some 1 else bif decide (p1<p2) then some (-1) else bif decide (p2<p1) then some 1 else some 0
def KI(p1:List Int)(x1 x2:Int):Nat->Int->Option Int|0,_=>none|bf+1,x3=>bif decide (x3<x2) then bC p1 x3 λx4=>bif x4 !=x1 then some x4 else(KI p1 x1 x2 bf) (aQ (x3+1)) else some x1
def KX(p1:(List Int)):Option Int:=KI p1 0 (p1.length:Int) fuel 0
def agk(p1 p2:iC):Option Int:=(cmp_Compare_int p1.From p2.From).bind λx1=>(cmp_Compare_int p1.bP p2.bP).bind λx2=>(cmp_Compare_int p1.bY p2.bY).bind λx3=>(cmp_Compare_int p1.sW p2.sW).bind λx4=>(KX [x1,x2,x3,x4]).bind λx5=>some x5
def Xp(p1:List iC)(p2:iC)(x1:Int):Nat->Int->Int->Option (Int×Bool)|0,_,_=>none|bf+1,x2,x3=>bif decide (x2<x3) then bC p1 (IntKind.i64.wrap (iJ .u64 (IntKind.u64.wrap (aQ (x2+x3))) 1)) λx4=>(agk x4 p2).bind λx5=>bif decide (x5<0) then(Xp p1 p2 x1 bf) (aQ ((IntKind.i64.wrap (iJ .u64 (IntKind.u64.wrap (aQ (x2+x3))) 1))+1)) x3 else(Xp p1 p2 x1 bf) x2 (IntKind.i64.wrap (iJ .u64 (IntKind.u64.wrap (aQ (x2+x3))) 1)) else nR (decide (x2<x1)) p1 x2 λx6=>(bif decide (x2<x1) then agk x6 p2 else some aG).bind λx7=>some (x2,decide (x2<x1)&&x7==0)
def alK(p1:List iC)(p2:iC):Option (Int×Bool):=Xp p1 p2 (p1.length:Int) fuel 0 (p1.length:Int)
def alS(p1:List iC)(p2:Int)(p3:List iC):Option (List iC):=bq (decide (0<=p2/\p2<=(p1.length:Int)/\(p1.length:Int)<=(p1.length:Int))) (bif(p3.length:Int)==0 then some p1 else bif p2==(p1.length:Int) then bq (decide ((p1.length+p3.length)*40<=room)) (some (p1++p3)) else none)
def afr(x1:iH):Option (Int×iH):=some (0,x1)
def af3(p1:iH)(p2:iC):Option (Int×iH):=(aon p2).bind λx2=>bif !x2 then some (1,p1) else bif p2.aJ !=p1.cell then some (5,p1) else bif decide (p2.bP<=p1.closed) then some (7,p1) else(alK p1.mq p2).bind λx3=>bif !x3.2 then(alS p1.mq x3.1 [p2]).bind λx4=>afr {p1 with mq:=x4} else afr p1
def anj(p1:wP)(p2:Int):Option wP:=bif(p1.Gp.length:Int)==0 then some {p1 with p:=iU p1.p,copies:=[[(p1.copies.getD 0 aG).getD 0 aG,(p1.copies.getD 0 aG).getD 1 aG]]} else(Gh p2 (p1.Gp.length:Int)).bind λx1=>bC p1.Gp x1 λx2=>bif x2.aI==0 then bif x2.dV.aJ==1 then(Kz ((p1.copies.getD 0 aG).getD 1 aG)).bind λx3=>(af3 (((p1.copies.getD 0 aG).getD 1 aG).qj) {x2.dV with aJ:=1}).bind λx4=>some {p1 with p:=iU p1.p,copies:=[[(p1.copies.getD 0 aG).getD 0 aG,{((p1.copies.getD 0 aG).getD 1 aG)with qj:=x4.2}]]} else bif x2.dV.aJ==0 then(Kz ((p1.copies.getD 0 aG).getD 0 aG)).bind λx5=>(af3 (((p1.copies.getD 0 aG).getD 0 aG).qj) {x2.dV with aJ:=0}).bind λx6=>some {p1 with p:=iU p1.p,copies:=[[{((p1.copies.getD 0 aG).getD 0 aG)with qj:=x6.2},(p1.copies.getD 0 aG).getD 1 aG]]} else none else none
def ZQ(p1:ByteArray):Option Bool:=some (decide (1<=((p1.size:Nat):Int))&&decide (((p1.size:Nat):Int)<=16))
def agf(p1:ByteArray):Option Bool:=some (decide (((p1.size:Nat):Int)<=64))
def aoh(p1:lM):Option Bool:=bif((decide (p1.aI<0)||decide (32<=p1.aI))||decide (p1.uH<1))||decide (8<p1.uH) then some false else bif p1.Op==1 then(bif p1.lS==0&&p1.jd==0 then ZQ p1.tY else some aG).bind λx1=>some (((p1.lS==0&&p1.jd==0)&&x1)&&p1.Value.toList==ByteArray.empty.toList) else bif p1.Op==2 then(bif(decide (1<=p1.lS)&&decide (p1.lS<=1048576))&&p1.jd==0 then ZQ p1.tY else some aG).bind λx2=>(bif((decide (1<=p1.lS)&&decide (p1.lS<=1048576))&&p1.jd==0)&&x2 then agf p1.Value else some aG).bind λx3=>some ((((decide (1<=p1.lS)&&decide (p1.lS<=1048576))&&p1.jd==0)&&x2)&&x3) else bif p1.Op==3 then(bif(decide (1<=p1.lS)&&decide (p1.lS<=1048576))&&p1.jd==0 then ZQ p1.tY else some aG).bind λx4=>some ((((decide (1<=p1.lS)&&decide (p1.lS<=1048576))&&p1.jd==0)&&x4)&&p1.Value.toList==ByteArray.empty.toList) else bif p1.Op==4 then(bif((decide (1<=p1.lS)&&decide (p1.lS<=1048576))&&p1.jd==0)&&p1.tY.toList==ByteArray.empty.toList then agf p1.Value else some aG).bind λx5=>some ((((decide (1<=p1.lS)&&decide (p1.lS<=1048576))&&p1.jd==0)&&p1.tY.toList==ByteArray.empty.toList)&&x5) else bif p1.Op==5 then some (((p1.lS==0&&p1.jd==0)&&p1.tY.toList==ByteArray.empty.toList)&&p1.Value.toList==ByteArray.empty.toList) else bif p1.Op==6 then some (((((decide (1<=p1.lS)&&decide (p1.lS<=1048576))&&decide (1<=p1.jd))&&decide (p1.jd<=4096))&&p1.tY.toList==ByteArray.empty.toList)&&p1.Value.toList==ByteArray.empty.toList) else some false
def Sc(aen:Int->Int->Option (Int×Bool×iH))(x1 x2:Int):Option (Int×Bool×iH):=aen x2 (aQ (x1+1))
def Nl(p1:iH)(p2 p3 x3:Int):Nat->Int->Int->Option (Int×Bool×iH)|0,_,_=>none|bf+1,x4,x1=>bif decide (x1<x3) then bC p1.mq x1 λx5=>bif(x5.sW==p2&&decide (x5.From<=p3))&&decide (p3<x5.bY) then Sc (Nl p1 p2 p3 x3 bf) x1 (jD x4 x5.bP)else Sc (Nl p1 p2 p3 x3 bf) x1 x4 else some (x4,decide (0<x4),p1)
def afq(p1:iH)(p2 p3:Int):Option (Int×Bool×iH):=Nl p1 p2 p3 (p1.mq.length:Int) fuel 0 0
def XU(XL:Int->Int->Option (Int×Bool))(x1 x2:Int):Option (Int×Bool):=XL x2 (aQ (x1+1))
theorem amk(G:(Int×Bool)->Option (Int×Bool×iH))(XL:Int->Int->Option (Int×Bool))(x1 x2:Int):Sc (λy1 y2=>(XL y1 y2).bind G) x1 x2=(XU XL x1 x2).bind G:=by
  simp only[Sc,XU,fQ,gq,gD,gB,gF,fU,bF,gu]
def RZ(p1:iH)(p2 p3 x3:Int):Nat->Int->Int->Option (Int×Bool)|0,_,_=>none|bf+1,x4,x1=>bif decide (x1<x3) then bC p1.mq x1 λx5=>bif(x5.sW==p2&&decide (x5.From<=p3))&&decide (p3<x5.bY) then XU (RZ p1 p2 p3 x3 bf) x1 (jD x4 x5.bP)else XU (RZ p1 p2 p3 x3 bf) x1 x4 else some (x4,decide (0<x4))
theorem aml(p1:iH)(p2 p3 x3:Int):∀n:Nat,Nl p1 p2 p3 x3 n=λx4 x1=>(RZ p1 p2 p3 x3 n x4 x1).bind (λx=>some (x.1,x.2,p1))
  |0=>rfl
  |n+1=>by
    funext x4 x1
    simp only[Nl,RZ,aml p1 p2 p3 x3 n,fQ,gq,gD,gB,gF,fU,bF,gu,amk]
def Yl(p1:iH)(p2 p3:Int):Option (Int×Bool):=RZ p1 p2 p3 (p1.mq.length:Int) fuel 0 0
theorem aAS(p1:iH)(p2 p3:Int):afq p1 p2 p3=(Yl p1 p2 p3).bind λx=>some (x.1,x.2,p1):=by
  simp only[afq,Yl,fQ,gq,gD,gB,gF,fU,bF,gu,amk,aml]
def afQ(p1:lQ):Option (Int×lQ):=bif(p1.sj.length:Int)==0 then some (0,p1) else bC p1.sj (aQ ((p1.sj.length:Int)-1)) λx1=>some (x1.bP,p1)
def Sy(p1:lQ):Option Int:=bif(p1.sj.length:Int)==0 then some 0 else bC p1.sj (aQ ((p1.sj.length:Int)-1)) λx1=>some x1.bP
theorem aBX(p1:lQ):afQ p1=(Sy p1).bind λx=>some (x,p1):=by
  simp only[afQ,Sy,fQ,gq,gD,gB,gF,fU,bF,gu]
def afX(p1:pJ)(p2:ByteArray):Option (ByteArray×Int×Bool×pJ):=bq (p1.values.isEmpty) (some (ByteArray.empty,0,false,p1))
def NM(p1:pJ)(p2:ByteArray):Option (ByteArray×Int×Bool):=bq (p1.values.isEmpty) (some (ByteArray.empty,0,false))
theorem aCj(p1:pJ)(p2:ByteArray):afX p1 p2=(NM p1 p2).bind λx=>some (x.1,x.2.1,x.2.2,p1):=by
  simp only[afX,NM,fQ,gq,gD,gB,gF,fU,bF,gu]
def BR(p1:jq)(p3:Int)(x1:pW):Option (kZ×Int×jq):=bif p3==aQ (x1.number+1) then some ((⟨0,0,0,ByteArray.empty⟩:kZ),34,p1) else bif p3==x1.number then some (x1.iy,0,p1) else some ((⟨0,0,0,ByteArray.empty⟩:kZ),32,p1)
def afm(p1:jq)(p2 p3:Int):Option (kZ×Int×jq):=bif((decide (p2<1)||decide (8<p2))||decide (p3<1))||decide (1048576<p3) then some ((⟨0,0,0,ByteArray.empty⟩:kZ),1,p1) else bif p2==8 then BR p1 p3 p1.iT.e7 else bif p2==7 then BR p1 p3 p1.iT.e6 else bif p2==6 then BR p1 p3 p1.iT.e5 else bif p2==5 then BR p1 p3 p1.iT.e4 else bif p2==4 then BR p1 p3 p1.iT.e3 else bif p2==3 then BR p1 p3 p1.iT.e2 else bif p2==2 then BR p1 p3 p1.iT.e1 else bif p2==1 then BR p1 p3 p1.iT.e0 else bif p2==0 then none else none
def Dv(p3:Int)(x1:pW):Option (kZ×Int):=bif p3==aQ (x1.number+1) then some ((⟨0,0,0,ByteArray.empty⟩:kZ),34) else bif p3==x1.number then some (x1.iy,0) else some ((⟨0,0,0,ByteArray.empty⟩:kZ),32)
theorem ayw(p1:jq)(p3:Int)(x1:pW):BR p1 p3 x1=(Dv p3 x1).bind (λx=>some (x.1,x.2,p1)):=by
  simp only[BR,Dv,fQ,gq,gD,gB,gF,fU,bF,gu]
def Sk(p1:jq)(p2 p3:Int):Option (kZ×Int):=bif((decide (p2<1)||decide (8<p2))||decide (p3<1))||decide (1048576<p3) then some ((⟨0,0,0,ByteArray.empty⟩:kZ),1) else bif p2==8 then Dv p3 p1.iT.e7 else bif p2==7 then Dv p3 p1.iT.e6 else bif p2==6 then Dv p3 p1.iT.e5 else bif p2==5 then Dv p3 p1.iT.e4 else bif p2==4 then Dv p3 p1.iT.e3 else bif p2==3 then Dv p3 p1.iT.e2 else bif p2==2 then Dv p3 p1.iT.e1 else bif p2==1 then Dv p3 p1.iT.e0 else bif p2==0 then none else none
theorem aAL(p1:jq)(p2 p3:Int):afm p1 p2 p3=(Sk p1 p2 p3).bind λx=>some (x.1,x.2,p1):=by
  simp only[afm,Sk,fQ,gq,gD,gB,gF,fU,bF,gu,ayw]
def af6(p1:lQ):Option (Int×lQ):=some ((p1.sj.length:Int),p1)
def NS(p1:lQ):Option Int:=some (p1.sj.length:Int)
theorem aCW(p1:lQ):af6 p1=(NS p1).bind λx=>some (x,p1):=by
  simp only[af6,NS,fQ,gq,gD,gB,gF,fU,bF,gu]
def afP(p1:pJ):Option (List ByteArray×pJ):=bq (p1.values.isEmpty) (some ([],p1))
def Sw(p1:pJ):Option (List ByteArray):=bq (p1.values.isEmpty) (some [])
theorem aBU(p1:pJ):afP p1=(Sw p1).bind λx=>some (x,p1):=by
  simp only[afP,Sw,fQ,gq,gD,gB,gF,fU,bF,gu]
def XD(p1:(List iV)):Option (List iV):=bq (decide ((([]:List iV).length+p1.length)*24<=room)) (some (([]:List iV)++p1))
def afv(p1:iw):Option (List iV×iw):=(XD p1.yj).bind λx1=>some (x1,p1)
def Kt(p1:iw):Option (List iV):=(XD p1.yj).bind λx1=>some x1
theorem aA0(p1:iw):afv p1=(Kt p1).bind λx=>some (x,p1):=by
  simp only[afv,Kt,fQ,gq,gD,gB,gF,fU,bF,gu]
def aeB(p1:iV)(p2:lM):Option (Bool×lM):=some (p1.lS==p2.jd,p2)
def RG(p1:iV)(p2:lM):Option Bool:=some (p1.lS==p2.jd)
theorem ax3(p1:iV)(p2:lM):aeB p1 p2=(RG p1 p2).bind λx=>some (x,p2):=by
  simp only[aeB,RG,fQ,gq,gD,gB,gF,fU,bF,gu]
def Rf(p1:List iV)(p2:lM)(x1:Int):Nat->Int->Option (Int×lM)|0,_=>none|bf+1,x2=>bif decide (x2<x1) then bC p1 x2 λx3=>(RG x3 p2).bind λx4=>bif x4 then some (x2,p2) else(Rf p1 p2 x1 bf) (aQ (x2+1)) else some ((-1),p2)
def adL(p1:List iV)(p2:lM):Option (Int×lM):=Rf p1 p2 (p1.length:Int) fuel 0
def Xv(p1:List iV)(p2:lM)(x1:Int):Nat->Int->Option Int|0,_=>none|bf+1,x2=>bif decide (x2<x1) then bC p1 x2 λx3=>(RG x3 p2).bind λx4=>bif x4 then some x2 else(Xv p1 p2 x1 bf) (aQ (x2+1)) else some (-1)
theorem alP(p1:List iV)(p2:lM)(x1:Int):∀n:Nat,Rf p1 p2 x1 n=λx2=>(Xv p1 p2 x1 n x2).bind (λx=>some (x,p2))
  |0=>rfl
  |n+1=>by
    funext x2
    simp only[Rf,Xv,alP p1 p2 x1 n,fQ,gq,gD,gB,gF,fU,bF,gu]
def Rh(p1:List iV)(p2:lM):Option Int:=Xv p1 p2 (p1.length:Int) fuel 0
theorem av5(p1:List iV)(p2:lM):adL p1 p2=(Rh p1 p2).bind λx=>some (x,p2):=by
  simp only[adL,Rh,fQ,gq,gD,gB,gF,fU,bF,gu,alP]
def adE(p1:List iV)(p2:lM):Option (Bool×lM):=(Rh p1 p2).bind λx1=>some (decide (0<=x1),p2)
def Ra(p1:List iV)(p2:lM):Option Bool:=(Rh p1 p2).bind λx1=>some (decide (0<=x1))
theorem avR(p1:List iV)(p2:lM):adE p1 p2=(Ra p1 p2).bind λx=>some (x,p2):=by
  simp only[adE,Ra,fQ,gq,gD,gB,gF,fU,bF,gu]
def agR(p1:jr)(p2 p3:Int):Option Bool:=some (p1.bP==p2&&decide (p3<p1.bY))
def Si(p1:iw)(p2 p3 p4 p5:Int)(x1:List jr)(x2:Int):Nat->Int->Option (Bool×iw)|0,_=>none|bf+1,x3=>bif decide (x3<x2) then bC x1 x3 λx4=>(bif x4.jd==p4&&x4.uH==p2 then agR x4 p3 p5 else some aG).bind λx5=>bif(x4.jd==p4&&x4.uH==p2)&&x5 then some (true,p1) else(Si p1 p2 p3 p4 p5 x1 x2 bf) (aQ (x3+1)) else some (false,p1)
def afu(p1:iw)(p2 p3 p4 p5:Int):Option (Bool×iw):=Si p1 p2 p3 p4 p5 p1.yS (p1.yS.length:Int) fuel 0
def X0(p2 p3 p4 p5:Int)(x1:List jr)(x2:Int):Nat->Int->Option Bool|0,_=>none|bf+1,x3=>bif decide (x3<x2) then bC x1 x3 λx4=>(bif x4.jd==p4&&x4.uH==p2 then agR x4 p3 p5 else some aG).bind λx5=>bif(x4.jd==p4&&x4.uH==p2)&&x5 then some true else(X0 p2 p3 p4 p5 x1 x2 bf) (aQ (x3+1)) else some false
theorem amm(p1:iw)(p2 p3 p4 p5:Int)(x1:List jr)(x2:Int):∀n:Nat,Si p1 p2 p3 p4 p5 x1 x2 n=λx3=>(X0 p2 p3 p4 p5 x1 x2 n x3).bind (λx=>some (x,p1))
  |0=>rfl
  |n+1=>by
    funext x3
    simp only[Si,X0,amm p1 p2 p3 p4 p5 x1 x2 n,fQ,gq,gD,gB,gF,fU,bF,gu]
def Sq(p1:iw)(p2 p3 p4 p5:Int):Option Bool:=X0 p2 p3 p4 p5 p1.yS (p1.yS.length:Int) fuel 0
theorem aAY(p1:iw)(p2 p3 p4 p5:Int):afu p1 p2 p3 p4 p5=(Sq p1 p2 p3 p4 p5).bind λx=>some (x,p1):=by
  simp only[afu,Sq,fQ,gq,gD,gB,gF,fU,bF,gu,amm]
def aeW(p1:lQ)(p2 p3:Int)(p4:lM):Option (Int×Int×lQ):=(NM p1.now.tH p4.tY).bind λx1=>bif p4.Op==2 then(bif !x1.2.2 then Sw p1.now.tH else some aG).bind λx2=>bif !x1.2.2&&decide (32<=(x2.length:Int)) then some (0,33,p1) else some (1,0,p1) else bif p4.Op==3 then bif !x1.2.2 then some (0,34,p1) else some (2,0,p1) else bif p4.Op==4 then(Kt p1.now.qz).bind λx3=>bif decide (16<=(x3.length:Int)) then some (0,33,p1) else some (3,0,p1) else(Kt p1.now.qz).bind λx4=>(Ra x4 p4).bind λx5=>bif !x5 then some (0,34,p1) else(Sq p1.now.qz p4.uH p2 p4.jd p3).bind λx6=>bif !x6 then some (0,35,p1) else some (4,0,p1)
def X6(p1:lQ)(p2 p3:Int)(p4:lM):Option (Int×Int):=(NM p1.now.tH p4.tY).bind λx1=>bif p4.Op==2 then(bif !x1.2.2 then Sw p1.now.tH else some aG).bind λx2=>bif !x1.2.2&&decide (32<=(x2.length:Int)) then some (0,33) else some (1,0) else bif p4.Op==3 then bif !x1.2.2 then some (0,34) else some (2,0) else bif p4.Op==4 then(Kt p1.now.qz).bind λx3=>bif decide (16<=(x3.length:Int)) then some (0,33) else some (3,0) else(Kt p1.now.qz).bind λx4=>(Ra x4 p4).bind λx5=>bif !x5 then some (0,34) else(Sq p1.now.qz p4.uH p2 p4.jd p3).bind λx6=>bif !x6 then some (0,35) else some (4,0)
theorem azd(p1:lQ)(p2 p3:Int)(p4:lM):aeW p1 p2 p3 p4=(X6 p1 p2 p3 p4).bind λx=>some (x.1,x.2,p1):=by
  simp only[aeW,X6,fQ,gq,gD,gB,gF,fU,bF,gu]
def agB(p1:ByteArray):Option Bool:=some (decide (1<=((p1.size:Nat):Int))&&decide (((p1.size:Nat):Int)<=16))
def aga(p1:ByteArray):Option Bool:=some (decide (((p1.size:Nat):Int)<=64))
def Uz(p1:iD):Option Bool:=bif((((((decide (p1.bP<1)||decide (1048576<p1.bP))||decide (p1.mE<1))||decide (4096<p1.mE))||decide (p1.uH<1))||decide (8<p1.uH))||decide (p1.lS<1))||decide (1048576<p1.lS) then some false else bif p1.aL==1 then(agB p1.tY).bind λx1=>(bif x1 then aga p1.Value else some aG).bind λx2=>some ((x1&&x2)&&p1.jd==0) else bif p1.aL==2 then(agB p1.tY).bind λx3=>some ((x3&&p1.Value.toList==ByteArray.empty.toList)&&p1.jd==0) else bif p1.aL==3 then(bif p1.tY.toList==ByteArray.empty.toList then aga p1.Value else some aG).bind λx4=>some ((p1.tY.toList==ByteArray.empty.toList&&x4)&&p1.jd==0) else bif p1.aL==4 then some (((p1.tY.toList==ByteArray.empty.toList&&p1.Value.toList==ByteArray.empty.toList)&&decide (1<=p1.jd))&&decide (p1.jd<p1.mE)) else some false
def alJ(p1:(List (Value×Value))):Option ((List (Value×Value))×(List (Value×Value))):=some (p1,p1)
def am6(p1:pJ):Option (pJ×pJ):=(alJ p1.values).bind λx1=>some ((⟨x1.1⟩:pJ),(⟨x1.2⟩:pJ))
def alW(p1:(List jr)):Option (List jr):=bq (decide ((([]:List jr).length+p1.length)*32<=room)) (some (([]:List jr)++p1))
def am2(p1:iw):Option (iw×iw):=(XD p1.yj).bind λx1=>(alW p1.yS).bind λx2=>some ((⟨x1,x2,p1.zV⟩:iw),p1)
def afl(p1:jq):Option (jq×jq):=some (p1,p1)
def Yf(p1:jq):Option jq:=some p1
theorem aAJ(p1:jq):afl p1=(Yf p1).bind λx=>some (x,p1):=by
  simp only[afl,Yf,fQ,gq,gD,gB,gF,fU,bF,gu]
def anc(p1:AO):Option (AO×pJ×iw×jq):=(am6 p1.tH).bind λx1=>(am2 p1.qz).bind λx2=>(Yf p1.wT).bind λx3=>some ((⟨x1.1,x2.1,x3⟩:AO),x1.2,x2.2,p1.wT)
def X5(x1:jq):Option (Int×jq):=some (0,x1)
def amL(p1:jq)(p2:iD):Option (Int×jq):=(Uz p2).bind λx2=>bif !x2 then some (1,p1) else bif p2.uH==1 then bif p2.lS !=aQ (p1.iT.e0.number+1) then some (32,p1) else bif p2.aL==3 then X5 (⟨{p1.iT with e0:=(⟨p2.lS,⟨0,p2.mE,p2.mE,ByteArray.empty⟩⟩:pW)}⟩:jq)else bif p2.aL==4 then X5 (⟨{p1.iT with e0:=(⟨p2.lS,⟨0,p2.mE,p2.jd,ByteArray.empty⟩⟩:pW)}⟩:jq)else X5 (⟨{p1.iT with e0:=(⟨p2.lS,⟨0,p2.mE,0,ByteArray.empty⟩⟩:pW)}⟩:jq) else none
def aeS(x1:(List (Value×Value))):Option (Int×pJ):=some (0,(⟨x1⟩:pJ))
def amX(p1:pJ)(p2:iD):Option (Int×pJ):=(Uz p2).bind λx2=>bif !x2 then some (1,p1) else bq (p1.values.isEmpty) (bif p2.aL==1 then bif !false&&decide (32<=(p1.values.length:Int)) then some (33,p1) else bq (p1.values.isEmpty) (aeS [(Value.string p2.tY,Value.agg #[Value.string p2.Value,Value.int .i64 p2.mE])]) else bif p2.aL==2 then bif !false then some (34,p1) else none else aeS p1.values)
def ae2(p1:iV)(p2:iD):Option (Bool×iD):=some (p1.lS==p2.jd,p2)
def R8(p1:iV)(p2:iD):Option Bool:=some (p1.lS==p2.jd)
theorem azq(p1:iV)(p2:iD):ae2 p1 p2=(R8 p1 p2).bind λx=>some (x,p2):=by
  simp only[ae2,R8,fQ,gq,gD,gB,gF,fU,bF,gu]
def Q9(p1:List iV)(p2:iD)(x1:Int):Nat->Int->Option (Int×iD)|0,_=>none|bf+1,x2=>bif decide (x2<x1) then bC p1 x2 λx3=>(R8 x3 p2).bind λx4=>bif x4 then some (x2,p2) else(Q9 p1 p2 x1 bf) (aQ (x2+1)) else some ((-1),p2)
def adF(p1:List iV)(p2:iD):Option (Int×iD):=Q9 p1 p2 (p1.length:Int) fuel 0
def Xr(p1:List iV)(p2:iD)(x1:Int):Nat->Int->Option Int|0,_=>none|bf+1,x2=>bif decide (x2<x1) then bC p1 x2 λx3=>(R8 x3 p2).bind λx4=>bif x4 then some x2 else(Xr p1 p2 x1 bf) (aQ (x2+1)) else some (-1)
theorem alL(p1:List iV)(p2:iD)(x1:Int):∀n:Nat,Q9 p1 p2 x1 n=λx2=>(Xr p1 p2 x1 n x2).bind (λx=>some (x,p2))
  |0=>rfl
  |n+1=>by
    funext x2
    simp only[Q9,Xr,alL p1 p2 x1 n,fQ,gq,gD,gB,gF,fU,bF,gu]
def Xw(p1:List iV)(p2:iD):Option Int:=Xr p1 p2 (p1.length:Int) fuel 0
theorem avT(p1:List iV)(p2:iD):adF p1 p2=(Xw p1 p2).bind λx=>some (x,p2):=by
  simp only[adF,Xw,fQ,gq,gD,gB,gF,fU,bF,gu,alL]
def alX(p1:List iV)(p2 p3:Int):Option (List iV):=bq (decide (0<=p2/\p2<=p3/\p3<=(p1.length:Int)/\(p1.length:Int)<=(p1.length:Int))) (bif p2==p3 then some p1 else bq (decide (0<=p2/\p2<=(p1.length:Int))) (bq (decide (0<=p3/\p3<=(p1.length:Int)/\(p1.length:Int)<=(p1.length:Int))) (bq (decide ((0+Int.toNat p3)+(Int.toNat (p1.length:Int)-Int.toNat p3)<=p1.length)) (bq (decide ((Int.toNat p2)+(Int.toNat (p1.length:Int)-Int.toNat p3)<=p1.length)) (bq (decide (0<=((((Int.toNat p2)+(Int.toNat (p1.length:Int)-Int.toNat p3)):Nat):Int)/\((((Int.toNat p2)+(Int.toNat (p1.length:Int)-Int.toNat p3)):Nat):Int)<=(p1.length:Int)/\(p1.length:Int)<=(((jM (Int.toNat p2) ((p1.drop (0+Int.toNat p3)).take (Int.toNat (p1.length:Int)-Int.toNat p3)).length p1 ((p1.drop (0+Int.toNat p3)).take (Int.toNat (p1.length:Int)-Int.toNat p3))).length:Nat):Int))) (bq (decide ((0+Int.toNat ((((Int.toNat p2)+(Int.toNat (p1.length:Int)-Int.toNat p3)):Nat):Int))+(Int.toNat (p1.length:Int)-Int.toNat ((((Int.toNat p2)+(Int.toNat (p1.length:Int)-Int.toNat p3)):Nat):Int))<=(jM (Int.toNat p2) ((p1.drop (0+Int.toNat p3)).take (Int.toNat (p1.length:Int)-Int.toNat p3)).length p1 ((p1.drop (0+Int.toNat p3)).take (Int.toNat (p1.length:Int)-Int.toNat p3))).length)) (bq (decide (((Int.toNat p2)+(Int.toNat (p1.length:Int)-Int.toNat p3))<=(jM (0+Int.toNat ((((Int.toNat p2)+(Int.toNat (p1.length:Int)-Int.toNat p3)):Nat):Int)) (Int.toNat (p1.length:Int)-Int.toNat ((((Int.toNat p2)+(Int.toNat (p1.length:Int)-Int.toNat p3)):Nat):Int)) (jM (Int.toNat p2) ((p1.drop (0+Int.toNat p3)).take (Int.toNat (p1.length:Int)-Int.toNat p3)).length p1 ((p1.drop (0+Int.toNat p3)).take (Int.toNat (p1.length:Int)-Int.toNat p3))) (List.replicate (Int.toNat (p1.length:Int)-Int.toNat ((((Int.toNat p2)+(Int.toNat (p1.length:Int)-Int.toNat p3)):Nat):Int)) (aG:iV))).length)) (some ((jM (0+Int.toNat ((((Int.toNat p2)+(Int.toNat (p1.length:Int)-Int.toNat p3)):Nat):Int)) (Int.toNat (p1.length:Int)-Int.toNat ((((Int.toNat p2)+(Int.toNat (p1.length:Int)-Int.toNat p3)):Nat):Int)) (jM (Int.toNat p2) ((p1.drop (0+Int.toNat p3)).take (Int.toNat (p1.length:Int)-Int.toNat p3)).length p1 ((p1.drop (0+Int.toNat p3)).take (Int.toNat (p1.length:Int)-Int.toNat p3))) (List.replicate (Int.toNat (p1.length:Int)-Int.toNat ((((Int.toNat p2)+(Int.toNat (p1.length:Int)-Int.toNat p3)):Nat):Int)) (aG:iV))).take ((Int.toNat p2)+(Int.toNat (p1.length:Int)-Int.toNat p3)))))))))))
def ae3(p1:jr)(p2:iD):Option (Bool×iD):=some (p1.jd==p2.jd,p2)
def Nf(p1:jr)(p2:iD):Option Bool:=some (p1.jd==p2.jd)
theorem azr(p1:jr)(p2:iD):ae3 p1 p2=(Nf p1 p2).bind λx=>some (x,p2):=by
  simp only[ae3,Nf,fQ,gq,gD,gB,gF,fU,bF,gu]
def Rb(p1:List jr)(p2:iD)(x1:Int):Nat->Int->Option (Int×iD)|0,_=>none|bf+1,x2=>bif decide (x2<x1) then bC p1 x2 λx3=>(Nf x3 p2).bind λx4=>bif x4 then some (x2,p2) else(Rb p1 p2 x1 bf) (aQ (x2+1)) else some ((-1),p2)
def adI(p1:List jr)(p2:iD):Option (Int×iD):=Rb p1 p2 (p1.length:Int) fuel 0
def Xt(p1:List jr)(p2:iD)(x1:Int):Nat->Int->Option Int|0,_=>none|bf+1,x2=>bif decide (x2<x1) then bC p1 x2 λx3=>(Nf x3 p2).bind λx4=>bif x4 then some x2 else(Xt p1 p2 x1 bf) (aQ (x2+1)) else some (-1)
theorem alM(p1:List jr)(p2:iD)(x1:Int):∀n:Nat,Rb p1 p2 x1 n=λx2=>(Xt p1 p2 x1 n x2).bind (λx=>some (x,p2))
  |0=>rfl
  |n+1=>by
    funext x2
    simp only[Rb,Xt,alM p1 p2 x1 n,fQ,gq,gD,gB,gF,fU,bF,gu]
def Xy(p1:List jr)(p2:iD):Option Int:=Xt p1 p2 (p1.length:Int) fuel 0
theorem av0(p1:List jr)(p2:iD):adI p1 p2=(Xy p1 p2).bind λx=>some (x,p2):=by
  simp only[adI,Xy,fQ,gq,gD,gB,gF,fU,bF,gu,alM]
def adC(adA:(List jr)->Int->Int->Option (List jr×iD))(x1:Int)(x2:List jr)(x3:Int):Option (List jr×iD):=adA x2 x3 (aQ (x1+1))
def Xu(p2:iD):Nat->(List jr)->Int->Int->Option (List jr×iD)|0,_,_,_=>none|bf+1,x4,x5,x1=>bif decide (x1<(x4.length:Int)) then bC x4 x1 λx6=>(Nf x6 p2).bind λx7=>bif !x7 then bC x4 x5 λx8=>bG (x4.set (Int.toNat x5) x6) λx9=>adC (Xu p2 bf) x1 x9 (aQ (x5+1)) else adC (Xu p2 bf) x1 x4 x5 else bq (decide (0<=x5/\x5<=(x4.length:Int)/\(x4.length:Int)<=(x4.length:Int))) (bq (decide ((0+Int.toNat x5)+(Int.toNat (x4.length:Int)-Int.toNat x5)<=x4.length)) (bq (decide (0<=x5/\x5<=(((jM (0+Int.toNat x5) (Int.toNat (x4.length:Int)-Int.toNat x5) x4 (List.replicate (Int.toNat (x4.length:Int)-Int.toNat x5) (aG:jr))).length:Nat):Int))) (bq (decide (Int.toNat x5<=(jM (0+Int.toNat x5) (Int.toNat (x4.length:Int)-Int.toNat x5) x4 (List.replicate (Int.toNat (x4.length:Int)-Int.toNat x5) (aG:jr))).length)) (some ((jM (0+Int.toNat x5) (Int.toNat (x4.length:Int)-Int.toNat x5) x4 (List.replicate (Int.toNat (x4.length:Int)-Int.toNat x5) (aG:jr))).take (Int.toNat x5),p2)))))
def alQ(p1:List jr)(p2:iD):Option (List jr×iD):=(Xy p1 p2).bind λx10=>bif x10==(-1) then some (p1,p2) else Xu p2 fuel p1 x10 (aQ (x10+1))
def Yd(x1:iw):Option (Int×iw):=some (0,x1)
def amW(p1:iw)(p2:iD):Option (Int×iw):=(Uz p2).bind λx2=>bif !x2 then some (1,p1) else bif p2.aL==3 then bif decide (p2.mE<=p1.zV) then some (36,p1) else bif decide (16<=(p1.yj.length:Int)) then some (33,p1) else bq (decide ((p1.yj.length+ [(⟨p2.mE,p2.Value⟩:iV)].length)*24<=room)) (Yd (⟨(p1.yj++ [(⟨p2.mE,p2.Value⟩:iV)]),p1.yS,p2.mE⟩:iw)) else bif p2.aL==4 then(Xw p1.yj p2).bind λx3=>bif decide (x3<0) then some (34,p1) else(alX p1.yj x3 (aQ (x3+1))).bind λx4=>(alQ p1.yS p2).bind λx5=>Yd (⟨x4,x5.1,p1.zV⟩:iw) else Yd p1
def ank(p1:AO)(p2:iD):Option (Int×pJ×iw×jq):=(amL p1.wT p2).bind λx1=>bif x1.1 !=0 then some (x1.1,p1.tH,p1.qz,x1.2) else(amX p1.tH p2).bind λx2=>bif x2.1 !=0 then some (x2.1,x2.2,p1.qz,x1.2) else(amW p1.qz p2).bind λx3=>some (x3.1,x2.2,x3.2,x1.2)
def ana(p1:lQ)(p2:iD):Option (Int×lQ):=(Uz p2).bind λx1=>bif !x1 then some (1,p1) else(NS p1).bind λx2=>(bif !(p2.mE !=aQ (x2+1)) then Sy p1 else some aG).bind λx3=>bif p2.mE !=aQ (x2+1)||decide (p2.bP<x3) then some (36,p1) else(anc p1.now).bind λx4=>(ank x4.1 p2).bind λx5=>bif x5.1 !=0 then some (x5.1,{p1 with now:=(⟨x4.2.1,x4.2.2.1,x4.2.2.2⟩:AO)}) else bq (decide ((p1.sj.length+ [p2].length)*80<=room)) (some (0,{p1 with sj:=(p1.sj++ [p2]),now:=(⟨x5.2.1,x5.2.2.1,x5.2.2.2⟩:AO)}))
def afd(p4:lM)(x1:Int)(x2:lQ):Option (kZ×lQ):=bif x1 !=0 then some ((⟨x1,0,0,ByteArray.empty⟩:kZ),x2) else(Sk x2.now.wT p4.uH p4.lS).bind λx3=>some (x3.1,x2)
def anb(p1:lQ)(p2 p3:Int)(p4:lM):Option (kZ×lQ):=(Sk p1.now.wT p4.uH p4.lS).bind λx4=>bif x4.2==0 then some (x4.1,p1) else bif x4.2 !=34 then some ((⟨x4.2,0,0,ByteArray.empty⟩:kZ),p1) else(NS p1).bind λx5=>bif decide (4096<=x5) then some ((⟨2,0,0,ByteArray.empty⟩:kZ),p1) else(X6 p1 p2 p3 p4).bind λx6=>bif x6.2==0 then(NS p1).bind λx7=>(ana p1 (⟨p2,aQ (x7+1),x6.1,p4.uH,p4.lS,p4.jd,p4.tY,p4.Value⟩:iD)).bind λx8=>afd p4 x8.1 x8.2 else afd p4 x6.2 p1
def amU(p1:lQ)(p2 p3:Int)(p4:lM):Option (kZ×lQ):=(aoh p4).bind λx1=>bif((!x1||p4.aI !=p1.vH)||decide (p3<0))||decide (1073741824<p3) then some ((⟨1,0,0,ByteArray.empty⟩:kZ),p1) else(Yl p1.qj p2 p3).bind λx2=>(bif !(!x2.2) then Sy p1 else some aG).bind λx3=>bif !x2.2||decide (x2.1<x3) then some ((⟨30,0,0,ByteArray.empty⟩:kZ),p1) else bif p4.Op==1 then(NM p1.now.tH p4.tY).bind λx4=>bif !x4.2.2 then some ((⟨34,0,0,ByteArray.empty⟩:kZ),p1) else some ((⟨0,x4.2.1,0,x4.1⟩:kZ),p1) else bif p4.Op==5 then none else(anb p1 x2.1 p3 p4).bind λx5=>some (x5.1,x5.2)
def adN(p1:(List aP)):Option (List aP):=bq (decide ((([]:List aP).length+p1.length)*72<=room)) (some (([]:List aP)++p1))
def aej(p1:bR):Option (List aP×bR):=(adN p1.lY).bind λx1=>some (x1,iI p1)
def Rw(p1:bR):Option (List aP):=(adN p1.lY).bind λx1=>some x1
theorem axe(p1:bR):aej p1=(Rw p1).bind λx=>some (x,iI p1):=by
  simp only[aej,Rw,fQ,gq,gD,gB,gF,fU,bF,gu]
def aeY(p1:bO):Option (List aP×bO):=(Rw (iI p1.bg)).bind λx1=>some (x1,iU p1)
def X9(p1:bO):Option (List aP):=(Rw (iI p1.bg)).bind λx1=>some x1
theorem azl(p1:bO):aeY p1=(X9 p1).bind λx=>some (x,iU p1):=by
  simp only[aeY,X9,fQ,gq,gD,gB,gF,fU,bF,gu]
def af7(p1:aM)(p2 x1:List aP)(x2:Int):Nat->aN->Int->Option (aN×Int×Int)|0,_,_=>none|bf+1,x3,x4=>bif decide (x4<x2) then bC x1 x4 λx5=>(Cb p1 x3 x5).bind λx6=>bif x6.2 !=0 then some (x3,x4,x6.2) else(af7 p1 p2 x1 x2 bf) x6.1 (aQ (x4+1)) else some (x3,(p2.length:Int),0)
def aoD(p1:aM)(p2:List aP):Option (aN×Int×Int):=(OQ p1).bind λx7=>af7 p1 p2 p2 (p2.length:Int) fuel x7 0
def afD(ae6:(List iK)->Int->Option (List iK))(x1:Int)(x2:List iK):Option (List iK):=ae6 x2 (aQ (x1+1))
def Yx(p2:aP)(x3:Int):Nat->(List iK)->Int->Option (List iK)|0,_,_=>none|bf+1,x4,x1=>bif decide (x1<x3) then bC x4 x1 λx5=>bif x5.aI==p2.aI then bC x4 x1 λx6=>bG (x4.set (Int.toNat x1) {x6 with dV:={x6.dV with bY:=ji x6.dV.bY (aQ (p2.aZ+1))}}) λx7=>bG (x7.getD (Int.toNat x1) aG) λx8=>bG (x7.set (Int.toNat x1) {x8 with dV:={x8.dV with From:=ji x8.dV.From x8.dV.bY}}) λx9=>afD (Yx p2 x3 bf) x1 x9 else afD (Yx p2 x3 bf) x1 x4 else some x4
def anv(p1:List iK)(p2:aP):Option (List iK):=Yx p2 (p1.length:Int) fuel p1 0
def aeU(p1:iK):Option Bool:=some (p1.dV.From==p1.dV.bY)
def adG(p1:List iK)(x1:Int):Nat->Int->Option Int|0,_=>none|bf+1,x2=>bif decide (x2<x1) then bC p1 x2 λx3=>(aeU x3).bind λx4=>bif x4 then some x2 else(adG p1 x1 bf) (aQ (x2+1)) else some (-1)
def alT(p1:(List iK)):Option Int:=adG p1 (p1.length:Int) fuel 0
def adD(adB:(List iK)->Int->Int->Option (List iK))(x1:Int)(x2:List iK)(x3:Int):Option (List iK):=adB x2 x3 (aQ (x1+1))
def Xx:Nat->(List iK)->Int->Int->Option (List iK)|0,_,_,_=>none|bf+1,x4,x5,x1=>bif decide (x1<(x4.length:Int)) then bC x4 x1 λx6=>(aeU x6).bind λx7=>bif !x7 then bC x4 x5 λx8=>bG (x4.set (Int.toNat x5) x6) λx9=>adD (Xx bf) x1 x9 (aQ (x5+1)) else adD (Xx bf) x1 x4 x5 else bq (decide (0<=x5/\x5<=(x4.length:Int)/\(x4.length:Int)<=(x4.length:Int))) (bq (decide ((0+Int.toNat x5)+(Int.toNat (x4.length:Int)-Int.toNat x5)<=x4.length)) (bq (decide (0<=x5/\x5<=(((jM (0+Int.toNat x5) (Int.toNat (x4.length:Int)-Int.toNat x5) x4 (List.replicate (Int.toNat (x4.length:Int)-Int.toNat x5) (aG:iK))).length:Nat):Int))) (bq (decide (Int.toNat x5<=(jM (0+Int.toNat x5) (Int.toNat (x4.length:Int)-Int.toNat x5) x4 (List.replicate (Int.toNat (x4.length:Int)-Int.toNat x5) (aG:iK))).length)) (some ((jM (0+Int.toNat x5) (Int.toNat (x4.length:Int)-Int.toNat x5) x4 (List.replicate (Int.toNat (x4.length:Int)-Int.toNat x5) (aG:iK))).take (Int.toNat x5))))))
def alR(p1:(List iK)):Option (List iK):=(alT p1).bind λx10=>bif x10==(-1) then some p1 else Xx fuel p1 x10 (aQ (x10+1))
def aeV(p1 p2:iK):Option Int:=(cmp_Compare_int p1.aI p2.aI).bind λx1=>(cmp_Compare_int p1.gQ p2.gQ).bind λx2=>(KX [x1,x2]).bind λx3=>some x3
def amg(p1:(List iK)):Option (List iK):=V8 (λx y=>aeV x y) p1
def Ya(aem:(List iK)->Int->Option (List iK))(x1:Int)(x2:List iK):Option (List iK):=aem x2 (aQ (x1+1))
def Sb(x3:List aP)(x4:Int):Nat->(List iK)->Int->Option (List iK)|0,_,_=>none|bf+1,x5,x1=>bif decide (x1<x4) then bC x3 x1 λx6=>bif x6.aL==2 then bq (decide ((x5.length+ [(⟨x6.aI,x1,⟨x6.aJ,x6.bP,x6.N,x6.From,x6.bY⟩⟩:iK)].length)*56<=room)) (Ya (Sb x3 x4 bf) x1 (x5++ [(⟨x6.aI,x1,⟨x6.aJ,x6.bP,x6.N,x6.From,x6.bY⟩⟩:iK)])) else bif x6.aL==3 then(anv x5 x6).bind λx7=>Ya (Sb x3 x4 bf) x1 x7 else Ya (Sb x3 x4 bf) x1 x5 else(alR x5).bind λx8=>(amg x8).bind λx9=>some x9
def amT(p1:aM)(p2:List aP):Option (List iK):=(aoD p1 p2).bind λx10=>bq (decide (0<=x10.2.1/\x10.2.1<=(p2.length:Int))) (Sb (p2.take (Int.toNat x10.2.1)) (((p2.take (Int.toNat x10.2.1)).length:Nat):Int) fuel ([]:List iK) 0)
def amM(p1:iC)(p2:Int):Option Bool:=some (decide (p1.From<=p2)&&decide (p2<p1.bY))
def aeT(p3 p4:Int)(x1:List iK)(x2:Int):Nat->Int->Option (iK×Bool)|0,_=>none|bf+1,x3=>bif decide (x3<x2) then bC x1 x3 λx4=>(bif x4.aI==p3 then amM x4.dV p4 else some aG).bind λx5=>bif x4.aI==p3&&x5 then some (x4,true) else(aeT p3 p4 x1 x2 bf) (aQ (x3+1)) else some ((⟨0,0,⟨0,0,0,0,0⟩⟩:iK),false)
def amY(p1:aM)(p2:List aP)(p3 p4:Int):Option (iK×Bool):=(amT p1 p2).bind λx1=>aeT p3 p4 x1 (x1.length:Int) fuel 0
def Uj(x1:Bool)(x2:wP):Option Bool:=bif x1 then some false else(anj x2 0).bind λx3=>(amU ((x3.copies.getD 0 aG).getD 0 aG) 0 3 (⟨0,1,1,2,0,ByteArray.mk #[97],ByteArray.mk #[98]⟩:lM)).bind λx4=>(X9 (iU x3.p)).bind λx5=>(amY x3.c x5 0 3).bind λx6=>some (((x4.1.uR==0&&x4.1.mE==1)&&x6.2)&&x6.1.dV.aJ==0)
def OU:Option Bool:=ara.bind λx7=>(apv x7).bind λx8=>bif false then bif true then Uj true {x8 with p:=iU x8.p,copies:=[[(x8.copies.getD 0 aG).getD 0 aG,(x8.copies.getD 0 aG).getD 1 aG]]}else(YJ {x8 with p:=iU x8.p,copies:=[[(x8.copies.getD 0 aG).getD 0 aG,(x8.copies.getD 0 aG).getD 1 aG]]} (⟨2,0,0,0,(-1),1,0,20,0⟩:aP)).bind λx9=>Uj (!x9.1) {x9.2 with p:=iU x9.2.p,copies:=[[(x9.2.copies.getD 0 aG).getD 0 aG,(x9.2.copies.getD 0 aG).getD 1 aG]]} else(YJ {x8 with p:=iU x8.p,copies:=[[(x8.copies.getD 0 aG).getD 0 aG,(x8.copies.getD 0 aG).getD 1 aG]]} (⟨1,0,0,0,1,0,0,0,0⟩:aP)).bind λx10=>bif !x10.1 then Uj true {x10.2 with p:=iU x10.2.p,copies:=[[(x10.2.copies.getD 0 aG).getD 0 aG,(x10.2.copies.getD 0 aG).getD 1 aG]]}else(YJ {x10.2 with p:=iU x10.2.p,copies:=[[(x10.2.copies.getD 0 aG).getD 0 aG,(x10.2.copies.getD 0 aG).getD 1 aG]]} (⟨2,0,0,0,(-1),1,0,20,0⟩:aP)).bind λbU=>Uj (!bU.1) {bU.2 with p:=iU bU.2.p,copies:=[[(bU.2.copies.getD 0 aG).getD 0 aG,(bU.2.copies.getD 0 aG).getD 1 aG]]}
def DN(p1:(List Int)):Option Bool:=some (decide ((p1.length:Int)<=200))
def U6(p1:(List Int)):Option eU:=some (⟨p1,0⟩:eU)
def lX(p1:eU)(p2:Int):Option (Int×eU):=bif(p1.L.length:Int)==0 then some (0,p1) else bq (decide ((p1.L.length:Int)≠(0:Int))) (bC p1.L (Int.tmod p1.At (p1.L.length:Int)) λx1=>bq (decide ((p1.L.length:Int)≠(0:Int))) ((Gh x1 1073741824).bind λx2=>(Gh (aQ (x2+(aQ ((aQ (Int.tdiv p1.At (p1.L.length:Int)))*7)))) p2).bind λx3=>some (x3,{p1 with At:=aQ (p1.At+1)})))
def Zk(p1 p2 p3:Int):Option Int:=(Gh p1 (aQ ((aQ (p3-p2))+1))).bind λx1=>some (aQ (p2+x1))
def zm(p1:eU)(p2 p3:Int):Option (Int×eU):=(lX p1 (aQ ((aQ (p3-p2))+1))).bind λx1=>some (aQ (p2+x1.1),x1.2)
def qH(p1:eU)(p2:Int):Option (Bool×eU):=(lX p1 p2).bind λx1=>some (x1.1==0,x1.2)
def Tk(afy:eU->aM->Int->Option aM)(x1:aM)(x2:Int)(x3:eU)(x4:iG):Option aM:=bq (decide ((x1.aH.length+ [x4].length)*56<=room)) (afy x3 {x1 with aH:=(x1.aH++ [x4]),fG:=([]:List jg),cZ:=([]:List Int),jW:=([]:List Int)} (aQ (x2-1)))
def Tn:Nat->eU->aM->Int->Option aM|0,_,_,_=>none|bf+1,x5,x6,x7=>bif decide (0<x7) then(lX x5 (x6.iM.length:Int)).bind λx8=>bq (decide ((x6.jW.length+ [x8.1].length)*8<=room)) ((Tn bf) x8.2 {x6 with jW:=(x6.jW++ [x8.1])} (aQ (x7-1))) else some x6
def Tp:Nat->eU->aM->Int->Option aM|0,_,_,_=>none|wB+1,x9,x10,bU=>bif decide (0<bU) then(lX x9 (x10.iM.length:Int)).bind λbV=>bq (decide ((x10.cZ.length+ [bV.1].length)*8<=room)) ((Tp wB) bV.2 {x10 with cZ:=(x10.cZ++ [bV.1]),jW:=([]:List Int)} (aQ (bU-1))) else(zm x9 1 4).bind λdG=>Tn fuel dG.2 {x10 with jW:=([]:List Int)} dG.1
def Tq:Nat->eU->aM->Int->Option aM|0,_,_,_=>none|Hq+1,dD,fu,gZ=>bif decide (0<gZ) then(lX dD 2).bind λiE=>(lX iE.2 3).bind λx18=>bq (decide ((fu.fG.length+ [(⟨iE.1,aQ (iE.1+x18.1)⟩:jg)].length)*16<=room)) ((Tq Hq) x18.2 {fu with fG:=(fu.fG++ [(⟨iE.1,aQ (iE.1+x18.1)⟩:jg)]),cZ:=([]:List Int),jW:=([]:List Int)} (aQ (gZ-1))) else(lX dD 2).bind λlH=>Tp fuel lH.2 {fu with cZ:=([]:List Int),jW:=([]:List Int)} (aQ ((aQ (2*lH.1))+1))
def KE:Nat->eU->aM->Int->Option aM|0,_,_,_=>none|JL+1,x20,x1,x2=>bif decide (0<x2) then(zm x20 1 12).bind λx21=>(lX x21.2 (aQ (x21.1+1))).bind λpF=>(lX pF.2 4).bind λx23=>(zm x23.2 (-1) 3).bind λx24=>bq (decide ((0:Int)<=IntKind.u64.wrap x1.gK)) ((lX x24.2 3).bind λx25=>(qH x25.2 4).bind λwE=>(qH wE.2 4).bind λx27=>bif x27.1 then bq (decide ((0:Int)<=IntKind.u64.wrap x1.gK)) ((zm x27.2 1 (aQ ((iL .i64 1 (IntKind.u64.wrap x1.gK))-1))).bind λx28=>Tk (KE JL) x1 x2 x28.2 (⟨x21.1,pF.1,x23.1,x24.1,x28.1,x25.1,wE.1⟩:iG)) else Tk (KE JL) x1 x2 x27.2 (⟨x21.1,pF.1,x23.1,x24.1,aQ ((iL .i64 1 (IntKind.u64.wrap x1.gK))-1),x25.1,wE.1⟩:iG)) else(lX x20 3).bind λx29=>(lX x29.2 3).bind λx30=>Tq fuel x30.2 {x1 with fG:=[(⟨0,x29.1⟩:jg)],cZ:=([]:List Int),jW:=([]:List Int)} x30.1
def Tt:Nat->eU->aM->Int->Option aM|0,_,_,_=>none|fu5+1,x31,x32,xD=>(bif !(decide (xD<(x32.iM.length:Int))) then qH x31 2 else some (aG,x31)).bind λx34=>bif decide (xD<(x32.iM.length:Int))||x34.1&&decide (xD<7) then bq (decide ((x32.iM.length:Int)≠(0:Int))) ((zm x34.2 1 4).bind λze=>bq (decide ((x32.aK.length+ [(⟨Int.tmod xD (x32.iM.length:Int),aQ (ze.1*10)⟩:jy)].length)*16<=room)) ((Tt fu5) ze.2 {x32 with aK:=(x32.aK++ [(⟨Int.tmod xD (x32.iM.length:Int),aQ (ze.1*10)⟩:jy)]),aH:=([]:List iG),fG:=([]:List jg),cZ:=([]:List Int),jW:=([]:List Int)} (aQ (xD+1)))) else(lX x34.2 6).bind λxE=>KE fuel xE.2 {x32 with aH:=([]:List iG),fG:=([]:List jg),cZ:=([]:List Int),jW:=([]:List Int)} xE.1
def Tv:Nat->eU->aM->Int->Option aM|0,_,_,_=>none|fu6+1,BI,x38,x39=>(bif !(decide (x39<x38.gK)) then qH BI 3 else some (aG,BI)).bind λx40=>bif decide (x39<x38.gK)||x40.1&&decide (x39<6) then bq (decide (x38.gK≠(0:Int))) (bq (decide ((x38.iM.length+ [(⟨Int.tmod x39 x38.gK⟩:jA)].length)*8<=room)) ((Tv fu6) x40.2 (⟨x38.gK,(x38.iM++ [(⟨Int.tmod x39 x38.gK⟩:jA)]),([]:List jy),([]:List iG),([]:List jg),([]:List Int),([]:List Int),x38.oz,x38.iQ,x38.o7⟩:aM) (aQ (x39+1)))) else Tt fuel x40.2 {x38 with aK:=([]:List jy),aH:=([]:List iG),fG:=([]:List jg),cZ:=([]:List Int),jW:=([]:List Int)} 0
def KV(p1:(List Int)):Option aM:=(U6 p1).bind λx41=>(lX x41 5).bind λx42=>(Zk (aQ (x42.1+1)) 1 3).bind λx43=>(zm x42.2 1 3).bind λx44=>(zm x44.2 2 12).bind λx45=>(lX x45.2 9).bind λx46=>Tv fuel x46.2 (⟨x43,([]:List jA),([]:List jy),([]:List iG),([]:List jg),([]:List Int),([]:List Int),x44.1,x45.1,x46.1⟩:aM) 0
def Ue(p1:aM):Nat->aN->Int->Option aN|0,_,_=>none|bf+1,x1,x2=>bif decide (x2<(p1.aK.length:Int)) then bq (decide ((x1.aK.length+ [(⟨1,0,0,0⟩:gG)].length)*32<=room)) ((Ue p1 bf) {x1 with aK:=(x1.aK++ [(⟨1,0,0,0⟩:gG)])} (aQ (x2+1))) else some x1
def Uf(p1:aM):Nat->aN->Int->Option aN|0,_,_=>none|wB+1,x3,x4=>bif decide (x4<(p1.aH.length:Int)) then bq (decide ((x3.aH.length+ [(⟨false,false,(-1),(-1),(-1),(-1),0,⟨(-1),0,0,0,0⟩⟩:bM)].length)*88<=room)) ((Uf p1 wB) {x3 with aH:=(x3.aH++ [(⟨false,false,(-1),(-1),(-1),(-1),0,⟨(-1),0,0,0,0⟩⟩:bM)]),aK:=([]:List gG)} (aQ (x4+1))) else Ue p1 fuel {x3 with aK:=([]:List gG)} 0
def aai(p1:aM):Option aN:=Uf p1 fuel (⟨0,0,([]:List bM),([]:List gG),1,0,0,0⟩:aN) 0
def af4(p1:eU):Option (Bool×eU):=some (decide (p1.At<(p1.L.length:Int)),p1)
def K6(p1 p2:Int):Option aP:=some (⟨p1,p2,(-1),(-1),(-1),0,0,0,0⟩:aP)
def I8(p1 p2:Int):Option Bool:=bq (!(decide (0<=p2)&&decide (p2<62))||decide ((0:Int)<=IntKind.u64.wrap p2)) (bq (!(decide (0<=p2)&&decide (p2<62))||decide (2≠(0:Int))) (some ((decide (0<=p2)&&decide (p2<62))&&Int.tmod (iJ .i64 p1 (IntKind.u64.wrap p2)) 2 !=0)))
def Aw(x1:eU)(x2:aP):Option (aP×eU):=some (x2,x1)
def NQ(p2:aM)(p3:aN)(p4:Int)(x3:aP)(x4:gG)(x5:eU)(x6 x7:Int)(x8:Bool):Option (aP×eU):=bif x8 then(lX x5 p2.iQ).bind λx9=>Aw x9.2 {x3 with aL:=11,aZ:=aQ (p4+x9.1),aJ:=x6,N:=x4.iY} else bif x7==8 then(lX x5 (aQ (p2.o7+1))).bind λx10=>Aw x10.2 {x3 with aL:=12,aZ:=aQ (p4+x10.1),N:=x4.fZ} else bif x7==9 then(lX x5 p2.gK).bind λbU=>(I8 p3.eH bU.1).bind λbV=>bif bV then Aw bU.2 {x3 with aL:=13,dh:=bU.1,N:=0}else Aw bU.2 {x3 with aL:=13,dh:=bU.1,N:=1} else bif x7==10 then bif decide (p3.gP<p3.dP) then Aw x5 {x3 with aL:=15}else Aw x5 {x3 with aL:=14} else(lX x5 100).bind λdG=>Aw dG.2 {x3 with N:=dG.1}
def NR(p2:aM)(p3:aN)(p4:Int)(x3:aP)(x4:gG)(x5:eU)(x6 x7:Int)(dD:Bool):Option (aP×eU):=bif dD then(lX x5 (p2.fG.length:Int)).bind λfu=>Aw fu.2 {x3 with aL:=10,aJ:=x6,N:=fu.1} else bif x7==5 then NQ p2 p3 p4 x3 x4 x5 x6 x7 (x7==5)else bif x7==6 then NQ p2 p3 p4 x3 x4 x5 x6 x7 (x7==6)else NQ p2 p3 p4 x3 x4 x5 x6 x7 (x7==7)
def Y4(p1:eU)(p2:aM)(p3:aN)(p4:Int):Option (aP×eU):=(K6 16 p4).bind λx3=>(lX p1 (p2.aK.length:Int)).bind λgZ=>bC p3.aK gZ.1 λx4=>(lX gZ.2 12).bind λiE=>bif iE.1==0 then(zm iE.2 1 3).bind λx18=>Aw x18.2 {x3 with aL:=9,aJ:=gZ.1,N:=x18.1} else bif iE.1==1 then Aw iE.2 {x3 with aL:=9,aJ:=gZ.1,N:=1}else bif iE.1==2 then NR p2 p3 p4 x3 x4 iE.2 gZ.1 iE.1 (iE.1==2)else bif iE.1==3 then NR p2 p3 p4 x3 x4 iE.2 gZ.1 iE.1 (iE.1==3)else NR p2 p3 p4 x3 x4 iE.2 gZ.1 iE.1 (iE.1==4)
def agm(p1:aM)(p2:Int):Option Int:=bif decide (p2<0)||decide ((p1.aK.length:Int)<=p2) then some (-1) else bC p1.aK p2 λx1=>some x1.uJ
def KF(p1:aM)(p2:Int):Option Int:=(agm p1 p2).bind λx1=>bif decide (x1<0) then some (-1) else bC p1.iM x1 λx2=>some x2.Region
def Gd(p1:aM)(p2 p3:Int):Option Bool:=nR (decide (0<=p2)&&decide (p2<(p1.aH.length:Int))) p1.aH p2 λx1=>(bif decide (0<=p2)&&decide (p2<(p1.aH.length:Int)) then KF p1 p3 else some aG).bind λx2=>(bif decide (0<=p2)&&decide (p2<(p1.aH.length:Int)) then I8 x1.Ce x2 else some aG).bind λx3=>some ((decide (0<=p2)&&decide (p2<(p1.aH.length:Int)))&&x3)
def YR(afz:(List Int)->Int->Option (List Int))(x1:Int)(x2:List Int):Option (List Int):=afz x2 (aQ (x1+1))
def Ob(p1:aM)(p2:Int):Nat->(List Int)->Int->Option (List Int)|0,_,_=>none|bf+1,x3,x1=>bif decide (x1<(p1.aK.length:Int)) then(Gd p1 p2 x1).bind λx4=>bif x4 then bq (decide ((x3.length+ [x1].length)*8<=room)) (YR (Ob p1 p2 bf) x1 (x3++ [x1])) else YR (Ob p1 p2 bf) x1 x3 else some x3
def Ut(p1:aM)(p2:Int):Option (List Int):=Ob p1 p2 fuel ([]:List Int) 0
def K7(p1:eU)(p2:List Int):Option (Int×eU):=bif(p2.length:Int)==0 then some ((-1),p1) else(lX p1 (p2.length:Int)).bind λx1=>bC p2 x1.1 λx2=>some (x2,x1.2)
def Us(p1:aM)(p2 p3:Int):Option Bool:=(KF p1 p2).bind λx1=>(KF p1 p3).bind λx2=>some ((decide (0<=x1)&&decide (0<=x2))&&x1 !=x2)
def Yu(aeL:(List Int)->Int->Option (List Int))(x1:Int)(x2:List Int):Option (List Int):=aeL x2 (aQ (x1+1))
def NK(p1:aM)(p2 p3:Int):Nat->(List Int)->Int->Option (List Int)|0,_,_=>none|bf+1,x3,x1=>bif decide (x1<(p1.aK.length:Int)) then(Gd p1 p2 x1).bind λx4=>(bif x4 then Us p1 p3 x1 else some aG).bind λx5=>bif x4&&x5 then bq (decide ((x3.length+ [x1].length)*8<=room)) (Yu (NK p1 p2 p3 bf) x1 (x3++ [x1])) else Yu (NK p1 p2 p3 bf) x1 x3 else some x3
def Tx(p1:aM)(p2 p3:Int):Option (List Int):=NK p1 p2 p3 fuel ([]:List Int) 0
def Y3(x1:eU)(x2:aP):Option (aP×eU):=some (x2,x1)
def TQ(p2:aM)(p3:aN)(x3:eU)(x4:aP):Option (aP×eU):=(zm x3 1 p2.iQ).bind λx5=>bC p3.aK x4.aJ λx6=>(qH x5.2 15).bind λx7=>bif x7.1 then(lX x7.2 30).bind λx8=>Y3 x8.2 {x4 with From:=jD 0 (aQ (x4.From-1)),bY:=aQ ((aQ (x4.From+x5.1))+x8.1),N:=x6.fZ} else Y3 x7.2 {x4 with bY:=aQ (x4.From+x5.1),N:=x6.fZ}
def TT(p2:aM)(p3:aN)(x9:bM)(x10:eU)(bU:aP):Option (aP×eU):=(qH x10 5).bind λbV=>bif bV.1 then(lX bV.2 3).bind λdG=>TQ p2 p3 dG.2 {bU with From:=aQ ((jD bU.aZ x9.dV.bY)+dG.1)} else TQ p2 p3 bV.2 {bU with From:=jD bU.aZ x9.dV.bY}
def TU(p2:aM)(p3:aN)(x9:bM)(dD:eU)(fu:aP):Option (aP×eU):=(bif fu.aJ !=x9.bL then lX dD 4 else some (aG,dD)).bind λgZ=>bif fu.aJ !=x9.bL&&decide (0<gZ.1) then TT p2 p3 x9 gZ.2 {fu with aZ:=jD fu.aZ x9.dV.bY}else TT p2 p3 x9 gZ.2 fu
def Ol(p2:aM)(p3:aN)(x9:bM)(iE:eU)(x18:aP):Option (aP×eU):=(bif !(x18.aJ !=x9.bL||x9.bP==0) then qH iE 4 else some (aG,iE)).bind λlH=>bif(x18.aJ !=x9.bL||x9.bP==0)||lH.1 then TU p2 p3 x9 lH.2 {x18 with bP:=aQ (x9.bP+1)}else TU p2 p3 x9 lH.2 {x18 with bP:=x9.bP}
def ZV(p1:eU)(p2:aM)(p3:aN)(p4:aP):Option (aP×eU):=bC p3.aH p4.aI λx9=>(bif decide (0<=x9.dN) then qH p1 2 else some (aG,p1)).bind λx20=>bif decide (0<=x9.dN)&&x20.1 then Ol p2 p3 x9 x20.2 {p4 with aJ:=x9.dN}else(bif decide (0<=x9.bB) then qH x20.2 5 else some (aG,x20.2)).bind λx21=>bif decide (0<=x9.bB)&&(x21.1||x9.fC) then Ol p2 p3 x9 x21.2 {p4 with aJ:=x9.bB}else Ol p2 p3 x9 x21.2 {p4 with aJ:=x9.bL}
def F3(x1:eU)(x2:aP):Option (aP×eU):=some (x2,x1)
def TP(p2:aM)(p3:aN)(x3:eU)(x4:Int):Option (aP×eU):=(bif !((p2.aH.length:Int)==0) then qH x3 4 else some (aG,x3)).bind λx5=>bif(p2.aH.length:Int)==0||x5.1 then(Y4 x5.2 p2 p3 x4).bind λx6=>some (x6.1,x6.2) else(lX x5.2 (p2.aH.length:Int)).bind λx7=>bC p3.aH x7.1 λx8=>bif !x8.dZ then(K6 1 x4).bind λx9=>(Ut p2 x7.1).bind λx10=>(K7 x7.2 x10).bind λbU=>(Tx p2 x7.1 (jD 0 bU.1)).bind λbV=>(K7 bU.2 bV).bind λdG=>some ({x9 with aI:=x7.1,aJ:=jD 0 bU.1,dh:=dG.1},dG.2) else(K6 2 x4).bind λdD=>(lX x7.2 12).bind λfu=>bif fu.1==0 then F3 fu.2 {dD with aL:=3,aI:=x7.1,bP:=jD 1 x8.bP}else bif fu.1==1 then(Tx p2 x7.1 x8.bL).bind λgZ=>(K7 fu.2 gZ).bind λiE=>F3 iE.2 {dD with aL:=4,aI:=x7.1,aJ:=iE.1} else bif fu.1==2 then F3 fu.2 {dD with aL:=5,aI:=x7.1,aJ:=jD 0 x8.Next}else bif fu.1==3 then(Ut p2 x7.1).bind λx18=>(K7 fu.2 x18).bind λlH=>F3 lH.2 {dD with aL:=6,aI:=x7.1,aJ:=jD 0 lH.1} else bif fu.1==4 then F3 fu.2 {dD with aL:=7,aI:=x7.1}else bif fu.1==5 then bif x8.fC then F3 fu.2 {dD with aL:=8,aI:=x7.1,N:=0}else F3 fu.2 {dD with aL:=8,aI:=x7.1,N:=1} else(ZV fu.2 p2 p3 {dD with aI:=x7.1}).bind λx20=>some (x20.1,x20.2)
def ZU(p1:eU)(p2:aM)(p3:aN):Option (aP×eU):=(lX p1 4).bind λx21=>(qH x21.2 20).bind λpF=>bif pF.1 then TP p2 p3 pF.2 (jD 0 (aQ (p3.aZ-1)))else TP p2 p3 pF.2 (aQ (p3.aZ+x21.1))
def wK(p1 p2 p3:Int):Option Bool:=some (decide (p2<=p1)&&decide (p1<=p3))
def agT(p1:Int):Option ByteArray:=bif decide (p1<1)||decide ((([ByteArray.empty,ByteArray.mk #[116,99,111],ByteArray.mk #[116,99,101,119,118],ByteArray.mk #[116,101],ByteArray.mk #[116,67],ByteArray.mk #[116,99],ByteArray.mk #[116,99],ByteArray.mk #[116],ByteArray.mk #[116,98],ByteArray.mk #[99,109],ByteArray.mk #[99,118],ByteArray.mk #[99,118],ByteArray.mk #[118],ByteArray.mk #[114,98],ByteArray.empty,ByteArray.empty,ByteArray.mk #[110]].length:Nat):Int)<=p1) then some (ByteArray.mk #[63]) else bC [ByteArray.empty,ByteArray.mk #[116,99,111],ByteArray.mk #[116,99,101,119,118],ByteArray.mk #[116,101],ByteArray.mk #[116,67],ByteArray.mk #[116,99],ByteArray.mk #[116,99],ByteArray.mk #[116],ByteArray.mk #[116,98],ByteArray.mk #[99,109],ByteArray.mk #[99,118],ByteArray.mk #[99,118],ByteArray.mk #[118],ByteArray.mk #[114,98],ByteArray.empty,ByteArray.empty,ByteArray.mk #[110]] p1 λx1=>some x1
def Zl(p2:Int)(x1:ByteArray):Nat->Int->Option Bool|0,_=>none|bf+1,x2=>bif decide (x2<((x1.size:Nat):Int)) then bq (decide (0<=x2/\x2<((x1.size:Nat):Int))) (bif Vw x1 x2==p2 then some true else(Zl p2 x1 bf) (aQ (x2+1))) else some false
def rG(p1 p2:Int):Option Bool:=(agT p1).bind λx1=>Zl p2 x1 fuel 0
def Td(x1:Bool):Option Bool:=bif x1 then some false else some true
def Te(p1:aP)(p3 p4 x2:Int)(x3:Bool):Option Bool:=bif x3 then some false else(rG x2 111).bind λx4=>(bif x4 then wK p1.dh (-1) (aQ (p3-1))else some aG).bind λx5=>bif x4&&(!x5||p1.dh==p1.aJ) then Td (x4&&(!x5||p1.dh==p1.aJ))else(rG x2 114).bind λx6=>(bif x6 then wK p1.dh 0 (aQ (p4-1))else some aG).bind λx7=>bif x6&&!x7 then Td (x6&&!x7)else(rG x2 111).bind λx8=>(bif !x8 then rG x2 114 else some aG).bind λx9=>Td ((!x8&&!x9)&&p1.dh !=(-1))
def Oy(p1:aP)(p2 p3 p4:Int):Option Bool:=(rG p1.aL 116).bind λx10=>(bif !(!(x10==(p1.aI !=(-1)))) then rG p1.aL 116 else some aG).bind λbU=>(bif !(!(x10==(p1.aI !=(-1))))&&bU then wK p1.aI 0 (aQ (p2-1))else some aG).bind λbV=>bif !(x10==(p1.aI !=(-1)))||bU&&!bV then some false else(rG p1.aL 99).bind λdG=>(bif dG then wK p1.aJ 0 (aQ (p3-1))else some aG).bind λdD=>bif dG&&!dD then Te p1 p3 p4 p1.aL (dG&&!dD)else(rG p1.aL 67).bind λfu=>(bif fu then wK p1.aJ (-1) (aQ (p3-1))else some aG).bind λgZ=>bif fu&&!gZ then Te p1 p3 p4 p1.aL (fu&&!gZ)else(rG p1.aL 99).bind λiE=>(bif !iE then rG p1.aL 67 else some aG).bind λx18=>Te p1 p3 p4 p1.aL ((!iE&&!x18)&&p1.aJ !=(-1))
def SI(p1:aP)(p2 x1:Int)(x2:Bool):Option Bool:=bif x2 then some false else(rG x1 118).bind λx3=>bif x3 then(wK p1.N 0 (aQ (p2-1))).bind λx4=>some x4 else(rG x1 98).bind λx5=>bif x5 then(wK p1.N 0 1).bind λx6=>some x6 else(rG x1 109).bind λx7=>bif x7 then(wK p1.N 1 3).bind λx8=>some x8 else(rG x1 110).bind λx9=>bif x9 then(wK p1.N 0 1073741824).bind λx10=>some x10 else some (p1.N==0)
def YA(p1:aP)(p2 x1:Int)(bU:Bool):Option Bool:=bif bU then some false else(rG x1 119).bind λbV=>(bif bV then wK p1.From 0 1073741824 else some aG).bind λdG=>(bif bV&&!(!dG) then wK p1.bY 0 1073741824 else some aG).bind λdD=>bif bV&&(!dG||!dD) then SI p1 p2 x1 (bV&&(!dG||!dD))else(rG x1 119).bind λfu=>SI p1 p2 x1 (!fu&&(p1.From !=0||p1.bY !=0))
def Oo(p1:aP)(p2:Int):Option Bool:=(rG p1.aL 101).bind λgZ=>(bif gZ then wK p1.bP 1 1048576 else some aG).bind λiE=>bif gZ&&!iE then YA p1 p2 p1.aL (gZ&&!iE)else(rG p1.aL 101).bind λx18=>YA p1 p2 p1.aL (!x18&&p1.bP !=0)
def agy(p1:aP)(p2 p3 p4 p5:Int):Option Bool:=(wK p1.aL 1 16).bind λx1=>(bif x1 then wK p1.aZ 0 1073741824 else some aG).bind λx2=>(bif x1&&x2 then Oy p1 p2 p3 p4 else some aG).bind λx3=>(bif(x1&&x2)&&x3 then Oo p1 p5 else some aG).bind λx4=>some (((x1&&x2)&&x3)&&x4)
def OE(p1:aM)(p2:aP):Option Bool:=(agy p2 (ji (p1.aH.length:Int) 32) (ji (p1.aK.length:Int) 16) (ji p1.gK 4) (ji (p1.fG.length:Int) 30)).bind λx1=>some x1
def jK(p1:Int):Option (aN×Int):=some ((⟨0,0,([]:List bM),([]:List gG),0,0,0,0⟩:aN),p1)
def Zn(p1:aN):Option aN:=bq (decide ((([]:List bM).length+p1.aH.length)*88<=room)) (bq (decide ((([]:List gG).length+p1.aK.length)*32<=room)) (some {p1 with aH:=(([]:List bM)++p1.aH),aK:=(([]:List gG)++p1.aK)}))
def KP(p1:aM)(p2:aN)(p3:Int):Option Bool:=(KF p1 p3).bind λx1=>(I8 p2.eH x1).bind λx2=>some x2
def IK(p1:aM)(p2 p3:Int):Option Bool:=(bif decide (0<=p2)&&decide (0<=p3) then Us p1 p2 p3 else some aG).bind λx1=>some ((decide (0<=p2)&&decide (0<=p3))&&!x1)
def La(p1:List Int)(p2 p3:Int):Option (List Int):=bif decide (0<=p2)&&decide (p2<(p1.length:Int)) then bC p1 p2 λx1=>bC p1 p2 λx2=>bG (p1.set (Int.toNat p2) (aQ (x1+p3))) λx3=>some x3 else some p1
def YF(ND:(List Int)->Int->Option (List Int))(x1:Int)(x2:List Int):Option (List Int):=ND x2 (aQ (x1+1))
def YG(ND:(List Int)->Int->Option (List Int))(x1:Int)(x3:bM)(x4:iG)(x5:List Int):Option (List Int):=(La x5 x3.bB x4.kK).bind λx6=>(La x6 x3.Next x4.kK).bind λx7=>YF ND x1 x7
def IG(p1:aM)(p2:aN):Nat->(List Int)->Int->Option (List Int)|0,_,_=>none|bf+1,x8,x1=>bif decide (x1<(p2.aH.length:Int)) then bC p2.aH x1 λx3=>bC p1.aH x1 λx4=>bif !x3.dZ then YF (IG p1 p2 bf) x1 x8 else bif !x3.fC then(La x8 x3.bL x4.eD).bind λx9=>(La x9 x3.dN x4.eD).bind λx10=>YG (IG p1 p2 bf) x1 x3 x4 x10 else YG (IG p1 p2 bf) x1 x3 x4 x8 else some x8
def Zm(p1:aM)(p2:aN):Option (List Int):=bq (decide ((0:Int)<=(p1.aK.length:Int)/\((p1.aK.length:Int):Int)<=(p1.aK.length:Int)/\((p1.aK.length:Int):Int)<=9223372036854775807/\((p1.aK.length:Int):Int)*8<=140737488355328)) (IG p1 p2 fuel (List.replicate (Int.toNat (p1.aK.length:Int)) (aG:Int)) 0)
def Y5(afK:(List Int)->Int->Option (List Int))(x1:Int)(x2:List Int):Option (List Int):=afK x2 (aQ (x1+1))
def KM(p1:aM)(x3:List Int):Nat->(List Int)->Int->Option (List Int)|0,_,_=>none|bf+1,x4,x1=>bif decide (x1<(x3.length:Int)) then bC x3 x1 λx5=>bC p1.aK x1 λx6=>bif decide (x6.mg<x5) then bq (decide ((x4.length+ [x1].length)*8<=room)) (Y5 (KM p1 x3 bf) x1 (x4++ [x1])) else Y5 (KM p1 x3 bf) x1 x4 else some x4
def ZX(p1:aM)(p2:aN):Option (List Int):=(Zm p1 p2).bind λx3=>KM p1 x3 fuel ([]:List Int) 0
def Gf(p1:aM)(p2:aN):Option (aN×Int):=(ZX p1 p2).bind λx1=>bif decide (0<(x1.length:Int)) then some ((⟨0,0,([]:List bM),([]:List gG),0,0,0,0⟩:aN),10) else some (p2,0)
def ZE(p1:aM)(p2:aN)(p3:aP):Option (aN×Int):=bC p2.aH p3.aI λx1=>bif x1.dZ then(jK 4).bind λx2=>some (x2.1,x2.2) else bC p2.aK p3.aJ λx3=>nR (!(x3.ig !=1)&&decide (0<=p3.dh)) p2.aK p3.dh λx4=>bif x3.ig !=1||decide (0<=p3.dh)&&x4.ig !=1 then(jK 6).bind λx5=>some (x5.1,x5.2) else(KP p1 p2 p3.aJ).bind λx6=>(bif !x6&&decide (0<=p3.dh) then KP p1 p2 p3.dh else some aG).bind λx7=>bif x6||decide (0<=p3.dh)&&x7 then(jK 12).bind λx8=>some (x8.1,x8.2) else(Gd p1 p3.aI p3.aJ).bind λx9=>(bif !(!x9)&&decide (0<=p3.dh) then Gd p1 p3.aI p3.dh else some aG).bind λx10=>(bif(!(!x9)&&decide (0<=p3.dh))&&!(!x10) then IK p1 p3.aJ p3.dh else some aG).bind λbU=>bif !x9||decide (0<=p3.dh)&&(!x10||bU) then(jK 11).bind λbV=>some (bV.1,bV.2) else bG (p2.aH.set (Int.toNat p3.aI) {x1 with dZ:=true}) λdG=>bG (dG.getD (Int.toNat p3.aI) aG) λdD=>bG (dG.set (Int.toNat p3.aI) {dD with bL:=p3.aJ}) λfu=>bG (fu.getD (Int.toNat p3.aI) aG) λgZ=>bG (fu.set (Int.toNat p3.aI) {gZ with bB:=p3.dh}) λiE=>(Gf p1 {p2 with aH:=iE}).bind λx18=>some (x18.1,x18.2)
def Y7(p1:aM)(p2:aN)(p3:aP):Option Int:=bC p2.aH p3.aI λx1=>bC p2.aK p3.aJ λx2=>bif x2.ig==3||x2.ig==2&&!(p3.aJ==x1.bL) then some 6 else bif(p3.aJ==x1.bL&&p3.bP !=x1.bP)&&p3.bP !=aQ (x1.bP+1)||(!(p3.aJ==x1.bL)&&p3.bP !=aQ (x1.bP+1)) then some 7 else bif p3.N !=x2.fZ||x2.fZ !=x2.iY then some 8 else bif(((decide (p3.From<p3.aZ)||decide (aQ (p3.aZ+p1.iQ)<p3.From))||decide (p3.bY<=p3.From))||decide (p1.iQ<aQ (p3.bY-p3.From)))||decide (p3.From<x1.dV.bY) then some 9 else bif !(p3.aJ==x1.bL)&&decide (p3.aZ<x1.dV.bY) then some 9 else some 0
def Tz(p1:aM)(x1:aN):Option (aN×Int):=(Gf p1 x1).bind λx2=>some (x2.1,x2.2)
def ZB(p1:aM)(p2:aN)(p3:aP):Option (aN×Int):=bC p2.aH p3.aI λx3=>bif(!x3.dZ||x3.fC&&p3.aJ !=x3.bB)then(jK 4).bind λx4=>some (x4.1,x4.2) else bif(p3.aJ !=x3.bL&&p3.aJ !=x3.bB)&&p3.aJ !=x3.dN then(jK 5).bind λx5=>some (x5.1,x5.2) else(Y7 p1 p2 p3).bind λx6=>bif x6 !=0 then(jK x6).bind λx7=>some (x7.1,x7.2) else bG (p2.aH.set (Int.toNat p3.aI) {x3 with dV:=(⟨p3.aJ,p3.bP,p3.N,p3.From,p3.bY⟩:iC)}) λx8=>bG (x8.getD (Int.toNat p3.aI) aG) λx9=>bG (x8.set (Int.toNat p3.aI) {x9 with bP:=p3.bP}) λx10=>bG (x10.getD (Int.toNat p3.aI) aG) λbU=>bif p3.aJ==bU.bL then Tz p1 {p2 with aH:=x10}else bif p3.aJ==bU.bB then bG (x10.set (Int.toNat p3.aI) {bU with bL:=p3.aJ}) λbV=>bG (bV.getD (Int.toNat p3.aI) aG) λdG=>bG (bV.set (Int.toNat p3.aI) {dG with bB:=(-1)}) λdD=>bG (dD.getD (Int.toNat p3.aI) aG) λfu=>bG (dD.set (Int.toNat p3.aI) {fu with Next:=(-1)}) λgZ=>bG (gZ.getD (Int.toNat p3.aI) aG) λiE=>bG (gZ.set (Int.toNat p3.aI) {iE with dN:=(-1)}) λx18=>bG (x18.getD (Int.toNat p3.aI) aG) λlH=>bG (x18.set (Int.toNat p3.aI) {lH with fC:=false}) λx20=>Tz p1 {p2 with aH:=x20} else bG (x10.set (Int.toNat p3.aI) {bU with bL:=p3.aJ}) λx21=>bG (x21.getD (Int.toNat p3.aI) aG) λpF=>bG (x21.set (Int.toNat p3.aI) {pF with dN:=(-1)}) λx23=>Tz p1 {p2 with aH:=x23}
def ahf(p1:iC)(p2:Int):Option iC:=some {p1 with From:=ji p1.From (ji p1.bY (aQ (p2+1))),bY:=ji p1.bY (aQ (p2+1))}
def aaj(p1:aN)(p2:aP):Option (aN×Int):=bC p1.aH p2.aI λx1=>bif !x1.dZ then(jK 4).bind λx2=>some (x2.1,x2.2) else bif p2.bP !=x1.bP then(jK 7).bind λx3=>some (x3.1,x3.2) else(ahf x1.dV p2.aZ).bind λx4=>bG (p1.aH.set (Int.toNat p2.aI) {x1 with dV:=x4}) λx5=>some ({p1 with aH:=x5},0)
def YB(p1:aM)(p2:aN)(p3:aP)(x1:Nat):Option (aN×Int):=bG (p2.aH.getD x1 aG) λx2=>bG (p2.aH.set x1 {x2 with Next:=p3.aJ}) λx3=>(Gf p1 {p2 with aH:=x3}).bind λx4=>some (x4.1,x4.2)
def Y9(p1:aM)(p2:aN)(p3:aP):Option (aN×Int):=bC p2.aH p3.aI λx5=>bif !x5.dZ then(jK 4).bind λx6=>some (x6.1,x6.2) else bif decide (p3.aJ<0) then YB p1 p2 p3 (Int.toNat p3.aI)else bif(p3.aJ==x5.bL||p3.aJ==x5.bB)||p3.aJ==x5.dN then(jK 5).bind λx7=>some (x7.1,x7.2) else bC p2.aK p3.aJ λx8=>bif x8.ig !=1 then(jK 6).bind λx9=>some (x9.1,x9.2) else(KP p1 p2 p3.aJ).bind λx10=>bif x10 then(jK 12).bind λbU=>some (bU.1,bU.2) else(Gd p1 p3.aI p3.aJ).bind λbV=>(bif !(!bV) then IK p1 p3.aJ x5.bL else some aG).bind λdG=>(bif !(!bV||dG) then IK p1 p3.aJ x5.dN else some aG).bind λdD=>bif(!bV||dG)||dD then(jK 11).bind λfu=>some (fu.1,fu.2) else YB p1 p2 p3 (Int.toNat p3.aI)
def ZG(p1:aN)(p2:aP):Option (aN×Int):=bC p1.aH p2.aI λx1=>bif !x1.dZ then(jK 4).bind λx2=>some (x2.1,x2.2) else bif p2.aJ !=x1.Next then(jK 5).bind λx3=>some (x3.1,x3.2) else bC p1.aK p2.aJ λx4=>bif x4.ig==3 then(jK 6).bind λx5=>some (x5.1,x5.2) else bG (p1.aH.set (Int.toNat p2.aI) {x1 with bB:=p2.aJ}) λx6=>bG (x6.getD (Int.toNat p2.aI) aG) λx7=>bG (x6.set (Int.toNat p2.aI) {x7 with Next:=(-1)}) λx8=>some ({p1 with aH:=x8},0)
def Y8(p1:aM)(p2:aN)(p3:aP):Option (aN×Int):=bC p2.aH p3.aI λx1=>bif(!x1.dZ||x1.fC)||decide (0<=x1.dN) then(jK 4).bind λx2=>some (x2.1,x2.2) else bif(p3.aJ==x1.bL||p3.aJ==x1.bB)||p3.aJ==x1.Next then(jK 5).bind λx3=>some (x3.1,x3.2) else bC p2.aK p3.aJ λx4=>bif x4.ig !=1 then(jK 6).bind λx5=>some (x5.1,x5.2) else(KP p1 p2 p3.aJ).bind λx6=>bif x6 then(jK 12).bind λx7=>some (x7.1,x7.2) else(Gd p1 p3.aI p3.aJ).bind λx8=>(bif !(!x8) then IK p1 p3.aJ x1.bB else some aG).bind λx9=>(bif !(!x8||x9) then IK p1 p3.aJ x1.Next else some aG).bind λx10=>bif(!x8||x9)||x10 then(jK 11).bind λbU=>some (bU.1,bU.2) else bG (p2.aH.set (Int.toNat p3.aI) {x1 with dN:=p3.aJ}) λbV=>(Gf p1 {p2 with aH:=bV}).bind λdG=>some (dG.1,dG.2)
def Y6(p1:aN)(p2:aP):Option (aN×Int):=bC p1.aH p2.aI λx1=>bif !x1.dZ||decide (x1.dN<0) then(jK 4).bind λx2=>some (x2.1,x2.2) else bG (p1.aH.set (Int.toNat p2.aI) {x1 with dN:=(-1)}) λx3=>some ({p1 with aH:=x3},0)
def Z4(p1:aM)(p2:aN)(p3:aP):Option (aN×Int):=bC p2.aH p3.aI λx1=>bif p3.N==1 then bif !x1.dZ||x1.fC then(jK 4).bind λx2=>some (x2.1,x2.2) else bif decide (p3.aZ<x1.dV.bY) then(jK 9).bind λx3=>some (x3.1,x3.2) else bG (p2.aH.set (Int.toNat p3.aI) {x1 with fC:=true}) λx4=>bG (x4.getD (Int.toNat p3.aI) aG) λx5=>bG (x4.set (Int.toNat p3.aI) {x5 with dN:=(-1)}) λx6=>some ({p2 with aH:=x6},0) else bif !x1.fC then(jK 4).bind λx7=>some (x7.1,x7.2) else bC p2.aK x1.bL λx8=>bif x8.ig==3 then(jK 6).bind λx9=>some (x9.1,x9.2) else bG (p2.aH.set (Int.toNat p3.aI) {x1 with fC:=false}) λx10=>(Gf p1 {p2 with aH:=x10}).bind λbU=>some (bU.1,bU.2)
def F7(p1:aN)(p2:Int):Option Bool:=(I8 p1.jP p2).bind λx1=>some x1
def ZY(p1:aN)(p2:Int):Option Bool:=bC p1.aK p2 λx1=>(F7 p1 x1.fZ).bind λx2=>nR (!(!x2)) p1.aK p2 λx3=>(bif !(!x2) then F7 p1 x3.iY else some aG).bind λx4=>some (!x2||!x4)
def Za(afL:Int->Int->Option (aN×Int))(x1 x2:Int):Option (aN×Int):=afL x2 (aQ (x1+1))
def Ot(p1:aM)(p2:aN)(p3:aP)(x3:jg)(x4:Nat):Nat->Int->Int->Option (aN×Int)|0,_,_=>none|bf+1,x5,x1=>bif decide (x1<(p2.aK.length:Int)) then(bif x1 !=p3.aJ then ZY p2 x1 else some aG).bind λx6=>bif x1 !=p3.aJ&&x6 then Za (Ot p1 p2 p3 x3 x4 bf) x1 (aQ (x5+1))else Za (Ot p1 p2 p3 x3 x4 bf) x1 x5 else bG (p2.aK.getD x4 aG) λx7=>bif x7.iY==p3.N then(jK 4).bind λx8=>some (x8.1,x8.2) else bif decide (p2.gP<x3.gP)||decide (x3.dP<p2.dP) then(jK 13).bind λx9=>some (x9.1,x9.2) else(bif p3.N !=x7.fZ then F7 p2 p3.N else some aG).bind λx10=>bif(p3.N !=x7.fZ&&!x10)&&p2.eH !=0 then(jK 12).bind λbU=>some (bU.1,bU.2) else(bif p3.N !=x7.fZ then F7 p2 p3.N else some aG).bind λbV=>bif(p3.N !=x7.fZ&&!bV)&&decide (p1.oz<=x5) then(jK 14).bind λdG=>some (dG.1,dG.2) else bG (p2.aK.set x4 {x7 with iY:=p3.N}) λdD=>some ({p2 with aK:=dD},0)
def Z5(p1:aM)(p2:aN)(p3:aP):Option (aN×Int):=bC p2.aK p3.aJ λfu=>bC p1.fG p3.N λx3=>Ot p1 p2 p3 x3 (Int.toNat p3.aJ) fuel 0 0
def Oq(p1:aN)(p2:aP)(x1:Nat):Nat->Int->Option (aN×Int)|0,_=>none|bf+1,x2=>bif decide (x2<(p1.aH.length:Int)) then bC p1.aH x2 λx3=>bif x3.dV.aJ==p2.aJ&&decide (p2.aZ<x3.dV.bY) then(jK 9).bind λx4=>some (x4.1,x4.2) else(Oq p1 p2 x1 bf) (aQ (x2+1)) else bG (p1.aK.getD x1 aG) λx5=>bG (p1.aK.set x1 {x5 with fZ:=p2.N}) λx6=>bG (x6.getD x1 aG) λx7=>bG (x6.set x1 {x7 with qd:=p2.aZ}) λx8=>some ({p1 with aK:=x8},0)
def Z0(p1:aN)(p2:aP):Option (aN×Int):=bC p1.aK p2.aJ λx9=>bif p2.N !=x9.iY||x9.fZ==x9.iY then(jK 4).bind λx10=>some (x10.1,x10.2) else(F7 p1 p2.N).bind λbU=>bif(!bU&&p1.eH !=0)then(jK 12).bind λbV=>some (bV.1,bV.2) else Oq p1 p2 (Int.toNat p2.aJ) fuel 0
def Oc(p1:aM)(p2:aN)(p3:aP):Nat->Int->Option (aN×Int)|0,_=>none|bf+1,x1=>bif decide (x1<(p2.aK.length:Int)) then bC p2.aK x1 λx2=>bif((x2.ig !=3&&x2.fZ==p3.N)&&x2.iY==p3.N)&&decide (p1.o7<=aQ (p3.aZ-x2.qd)) then bq (decide ((0:Int)<=IntKind.u64.wrap p3.N)) (some ({p2 with jP:=ug .i64 p2.jP (iL .i64 1 (IntKind.u64.wrap p3.N))},0)) else(Oc p1 p2 p3 bf) (aQ (x1+1)) else(jK 15).bind λx3=>some (x3.1,x3.2)
def ZF(p1:aM)(p2:aN)(p3:aP):Option (aN×Int):=(F7 p2 p3.N).bind λx4=>bif x4 then(jK 4).bind λx5=>some (x5.1,x5.2) else Oc p1 p2 p3 fuel 0
def NZ(p1:aM)(p2:aN):Nat->Int->Option (aN×Int)|0,_=>none|bf+1,x1=>bif decide (x1<(p2.aK.length:Int)) then bC p2.aK x1 λx2=>bC p1.fG x2.fZ λx3=>nR (!(decide (x3.dP<=p2.dP))) p1.fG x2.iY λx4=>bif decide (x3.dP<=p2.dP)||decide (x4.dP<=p2.dP) then(jK 13).bind λx5=>some (x5.1,x5.2) else(NZ p1 p2 bf) (aQ (x1+1)) else some ({p2 with dP:=aQ (p2.dP+1)},0)
def Zo(p1:aM)(p2:aN):Option (aN×Int):=bif decide (p2.gP<p2.dP) then(jK 4).bind λx6=>some (x6.1,x6.2) else bif decide (30<=p2.dP) then(jK 2).bind λx7=>some (x7.1,x7.2) else NZ p1 p2 fuel 0
def FW(x1:aN):Option (aN×Int):=some (x1,0)
def ZA(p1:aM)(p2:aN)(p3:aP):Option (aN×Int):=(OE p1 p3).bind λx2=>bif !x2 then(jK 1).bind λx3=>some (x3.1,x3.2) else bif decide (4096<=p2.eP) then(jK 2).bind λx4=>some (x4.1,x4.2) else bif decide (p3.aZ<p2.aZ) then(jK 3).bind λx5=>some (x5.1,x5.2) else(Zn p2).bind λx6=>bif p3.aL==1 then(ZE p1 {x6 with aZ:=p3.aZ,eP:=aQ (x6.eP+1)} p3).bind λx7=>some (x7.1,x7.2) else bif p3.aL==2 then(ZB p1 {x6 with aZ:=p3.aZ,eP:=aQ (x6.eP+1)} p3).bind λx8=>some (x8.1,x8.2) else bif p3.aL==3 then(aaj {x6 with aZ:=p3.aZ,eP:=aQ (x6.eP+1)} p3).bind λx9=>some (x9.1,x9.2) else bif p3.aL==4 then(Y9 p1 {x6 with aZ:=p3.aZ,eP:=aQ (x6.eP+1)} p3).bind λx10=>some (x10.1,x10.2) else bif p3.aL==5 then(ZG {x6 with aZ:=p3.aZ,eP:=aQ (x6.eP+1)} p3).bind λbU=>some (bU.1,bU.2) else bif p3.aL==6 then(Y8 p1 {x6 with aZ:=p3.aZ,eP:=aQ (x6.eP+1)} p3).bind λbV=>some (bV.1,bV.2) else bif p3.aL==7 then(Y6 {x6 with aZ:=p3.aZ,eP:=aQ (x6.eP+1)} p3).bind λdG=>some (dG.1,dG.2) else bif p3.aL==8 then(Z4 p1 {x6 with aZ:=p3.aZ,eP:=aQ (x6.eP+1)} p3).bind λdD=>some (dD.1,dD.2) else bif p3.aL==9 then bC x6.aK p3.aJ λfu=>bif fu.ig==p3.N then(jK 4).bind λgZ=>some (gZ.1,gZ.2) else bC x6.aK p3.aJ λiE=>bG (x6.aK.set (Int.toNat p3.aJ) {iE with ig:=p3.N}) λx18=>bC x18 p3.aJ λlH=>bG (x18.set (Int.toNat p3.aJ) {lH with qd:=p3.aZ}) λx20=>FW {x6 with aZ:=p3.aZ,eP:=aQ (x6.eP+1),aK:=x20} else bif p3.aL==10 then(Z5 p1 {x6 with aZ:=p3.aZ,eP:=aQ (x6.eP+1)} p3).bind λx21=>some (x21.1,x21.2) else bif p3.aL==11 then(Z0 {x6 with aZ:=p3.aZ,eP:=aQ (x6.eP+1)} p3).bind λpF=>some (pF.1,pF.2) else bif p3.aL==12 then(ZF p1 {x6 with aZ:=p3.aZ,eP:=aQ (x6.eP+1)} p3).bind λx23=>some (x23.1,x23.2) else bif p3.aL==13 then(I8 x6.eH p3.dh).bind λx24=>bif x24==(p3.N==1) then(jK 4).bind λx25=>some (x25.1,x25.2) else bq (decide ((0:Int)<=IntKind.u64.wrap p3.dh)) (FW {x6 with aZ:=p3.aZ,eP:=aQ (x6.eP+1),eH:=wm .i64 x6.eH (iL .i64 1 (IntKind.u64.wrap p3.dh))}) else bif p3.aL==14 then(Zo p1 {x6 with aZ:=p3.aZ,eP:=aQ (x6.eP+1)}).bind λwE=>some (wE.1,wE.2) else bif p3.aL==15 then bif x6.dP==x6.gP then(jK 4).bind λx27=>some (x27.1,x27.2) else FW {x6 with aZ:=p3.aZ,eP:=aQ (x6.eP+1),gP:=x6.dP} else FW {x6 with aZ:=p3.aZ,eP:=aQ (x6.eP+1)}
def agu(YQ:eU->aN->(List aP)->Option (List aP))(p2:aM)(x1:aN)(x2:List aP)(x3:eU):Option (List aP):=(ZU x3 p2 x1).bind λx4=>(ZA p2 x1 x4.1).bind λx5=>bif x5.2==0 then bq (decide ((x2.length+ [x4.1].length)*72<=room)) (YQ x4.2 x5.1 (x2++ [x4.1])) else YQ x4.2 x1 x2
def Uo(p2:aM)(p3:Int):Nat->eU->aN->(List aP)->Option (List aP)|0,_,_,_=>none|bf+1,x6,x1,x2=>(bif decide ((x2.length:Int)<p3) then af4 x6 else some (aG,x6)).bind λx7=>bif decide ((x2.length:Int)<p3)&&x7.1 then agu (Uo p2 p3 bf) p2 x1 x2 x7.2 else some x2
def U5(p1:List Int)(p2:aM)(p3:Int):Option (List aP):=(U6 p1).bind λx8=>(aai p2).bind λx9=>Uo p2 p3 fuel x8 x9 ([]:List aP)
def IY(p1:aM)(x1:List aP):Nat->Int->bO->Option bO|0,_,_=>none|bf+1,x2,x3=>bif decide (x2<(x1.length:Int)) then bC x1 x2 λx4=>(Ip x3 x4).bind λx5=>bif x5.2.1 !=0 then none else(IY p1 x1 bf) (aQ (x2+1)) (iU x5.2.2) else(rW x3).bind λx6=>bif(x6.aH.length:Int) !=(p1.aH.length:Int)||(x6.aK.length:Int) !=(p1.aK.length:Int) then none else some x3
def OV(p1:aM)(p2:List Int)(p3:Int):Option bO:=(K9 p1).bind λx7=>bif false||x7.2 !=0 then none else(U5 p2 p1 p3).bind λx1=>IY p1 x1 fuel 0 (iU x7.1)
def ZK(p1:aM)(p2 p3:Int):Option Bool:=(mZ p3 0 (aQ (p1.gK-1))).bind λx1=>bq (!x1||decide ((0:Int)<=IntKind.u64.wrap p3)) (some (x1&&je .i64 (iJ .i64 p2 (IntKind.u64.wrap p3)) 1==1))
def YE(ae9:Int->Int->Option Bool)(x1 x2:Int):Option Bool:=ae9 x2 (aQ (x1+1))
def KA(p1:aM)(p2:Int)(x3:List Int)(x4:Int):Nat->Int->Int->Option Bool|0,_,_=>none|bf+1,x5,x1=>bif decide (x1<x4) then bC x3 x1 λx6=>(NN p1 x6).bind λx7=>(ZK p1 p2 x7).bind λx8=>bif !x8 then YE (KA p1 p2 x3 x4 bf) x1 (aQ (x5+1))else YE (KA p1 p2 x3 x4 bf) x1 x5 else some (decide ((p1.cZ.length:Int)<aQ (2*x5)))
def KN(p1:aM)(p2:Int):Option Bool:=KA p1 p2 p1.cZ (p1.cZ.length:Int) fuel 0 0
def am1(p1:bO)(p2:Int):Option (Int×bO):=bif decide (p2<0)||decide ((p1.dY.cZ.length:Int)<=p2) then some (1,iU p1) else(pI (iU p1) p2).bind λx1=>bif !x1 then some (4,iU p1) else bq (decide ((0:Int)<=p2)) ((IB (iI p1.bg) (⟨7,p2,0,⟨0,0,0,0,0,0,0,0,0⟩⟩:lN)).bind λx2=>some (0,{p1 with bg:=iI x2.2,up:=Lh .i64 p1.up (iL .i64 1 p2)}))
def Nw(Dx:Int->Int->bO->Option (Int×bO))(x1 x2:Int)(x3:bO):Option (Int×bO):=Dx x2 (aQ (x1+1)) x3
def Io(Dx:Int->Int->bO->Option (Int×bO))(x4 x1:Int)(x5:Bool)(x6:bO):Option (Int×bO):=bif x5 then Nw Dx x1 (aQ (x4+1)) x6 else Nw Dx x1 x4 x6
def Ny(p2:Int)(x7:List Int)(x8:Int):Nat->Int->Int->bO->Option (Int×bO)|0,_,_,_=>none|bf+1,x4,x1,x9=>bif decide (x1<x8) then bC x7 x1 λx10=>bC x9.dY.iM x10 λbU=>bif bU.Region==p2 then(am1 x9 x1).bind λbV=>Io (Ny p2 x7 x8 bf) x4 x1 (bV.1==0) (iU bV.2) else Io (Ny p2 x7 x8 bf) x4 x1 false x9 else some (x4,x9)
def SH(p1:bO)(p2:Int):Option (Int×bO):=Ny p2 p1.dY.cZ (p1.dY.cZ.length:Int) fuel 0 0 (iU p1)
def YD(ae8:(List Int)->Int->Option (List Int))(x1:Int)(x2:List Int):Option (List Int):=ae8 x2 (aQ (x1+1))
def FT(p1:aM)(p2 x3:Int):Nat->(List Int)->Int->Option (List Int)|0,_,_=>none|bf+1,x4,x1=>bif decide (x1<x3) then(AJ p1 x1).bind λx5=>bif x5==p2 then bq (decide ((x4.length+ [x1].length)*8<=room)) (YD (FT p1 p2 x3 bf) x1 (x4++ [x1])) else YD (FT p1 p2 x3 bf) x1 x4 else some x4
def T9(p1:aM)(p2:Int):Option (List Int):=FT p1 p2 (p1.aK.length:Int) fuel ([]:List Int) 0
def U9(p1 p2:Int):Option aP:=some (⟨p1,p2,(-1),(-1),(-1),0,0,0,0⟩:aP)
def IZ(Tw:Int->bO->Option (Bool×bO))(x1:Int)(x2:bO):Option (Bool×bO):=Tw (aQ (x1+1)) x2
def F9(x3:aN)(x4:List Int):Nat->Int->bO->Option (Bool×bO)|0,_,_=>none|bf+1,x1,x5=>bif decide (x1<(x4.length:Int)) then bC x4 x1 λx6=>nR (!(decide (x6<0))) x4 x1 λx7=>bif decide (x6<0)||decide ((x3.aK.length:Int)<=x7) then some (false,x5) else(U9 9 x3.aZ).bind λx8=>bC x4 x1 λx9=>bC x4 x1 λx10=>bC x3.aK x10 λbU=>bif bU.ig !=3 then(Ip x5 {x8 with aJ:=x9,N:=3}).bind λbV=>bif bV.2.1 !=0 then some (false,iU bV.2.2) else IZ (F9 x3 x4 bf) x1 (iU bV.2.2) else IZ (F9 x3 x4 bf) x1 x5 else some (true,x5)
def aaF(p1:aM)(p2:bO)(p3:Int):Option (Bool×bO):=(SH (iU p2) p3).bind λdG=>(rW (iU dG.2)).bind λx3=>(T9 p1 p3).bind λx4=>F9 x3 x4 fuel 0 (iU dG.2)
def Iz(p1:aM)(p2:aN)(x1:List bM)(x2:Int):Nat->j4->Int->Option j4|0,_,_=>none|bf+1,x3,x4=>bif decide (x4<x2) then bC x1 x4 λx5=>bq (decide ((x3.dL.length+ [(⟨x5.dZ&&!x5.fC,x5.bL,x5.bB,x5.Next,x5.dN⟩:mG)].length)*40<=room)) ((Iz p1 p2 x1 x2 bf) {x3 with dL:=(x3.dL++ [(⟨x5.dZ&&!x5.fC,x5.bL,x5.bB,x5.Next,x5.dN⟩:mG)]),dM:=([]:List Int)} (aQ (x4+1))) else bq (decide ((0:Int)<=(p1.aK.length:Int)/\((p1.aK.length:Int):Int)<=(p1.aK.length:Int)/\((p1.aK.length:Int):Int)<=9223372036854775807/\((p1.aK.length:Int):Int)*8<=140737488355328)) ((KU p1 p2).bind λx6=>bq (decide (0+(List.replicate (Int.toNat (p1.aK.length:Int)) (aG:Int)).length<=(List.replicate (Int.toNat (p1.aK.length:Int)) (aG:Int)).length)) (some {x3 with dM:=jM 0 ((List.replicate (Int.toNat (p1.aK.length:Int)) (aG:Int)).length) (List.replicate (Int.toNat (p1.aK.length:Int)) (aG:Int)) x6}))
def YL(p1:aM)(p2:aN):Option j4:=bq (decide (0<=(ji (p1.aH.length:Int) (p2.aH.length:Int))/\(ji (p1.aH.length:Int) (p2.aH.length:Int))<=(p2.aH.length:Int))) (Iz p1 p2 (p2.aH.take (Int.toNat (ji (p1.aH.length:Int) (p2.aH.length:Int)))) (((p2.aH.take (Int.toNat (ji (p1.aH.length:Int) (p2.aH.length:Int)))).length:Nat):Int) fuel (⟨p1,p2,([]:List mG),([]:List Int)⟩:j4) 0)
def KH(p1 p2:Int)(p3:aM):Option Int:=bC p3.aH p1 λx1=>bC p3.aH p2 λx2=>(cmp_Compare_int x2.gM x1.gM).bind λx3=>(cmp_Compare_int x2.eD x1.eD).bind λx4=>(cmp_Compare_int p1 p2).bind λx5=>(KX [x3,x4,x5]).bind λx6=>some x6
def afc(p1:List Int)(p2:aM):Option (List Int×aM):=(EC (λx y=>KH x y p2) p1).bind λl=>some (l,p2)
def II(p1:aM)(x1:Int):Nat->(List Int)->Int->Option (List Int)|0,_,_=>none|bf+1,x2,x3=>bif decide (x3<x1) then bq (decide ((x2.length+ [x3].length)*8<=room)) ((II p1 x1 bf) (x2++ [x3]) (aQ (x3+1))) else(afc x2 p1).bind λx4=>some x4.1
def KR(p1:aM):Option (List Int):=bq (decide ((0:Int)<=0/\(0:Int)<=(p1.aH.length:Int)/\((p1.aH.length:Int):Int)<=9223372036854775807/\((p1.aH.length:Int):Int)*8<=140737488355328)) (II p1 (p1.aH.length:Int) fuel (List.replicate (Int.toNat 0) (aG:Int)) 0)
def RY(ad7:(List Int)->Int->Option (List Int))(x1:Int)(x2:List Int):Option (List Int):=ad7 x2 (aQ (x1+1))
def Dw(p1:aM)(p2:aN)(p3:Int)(x3:List Int)(x4:Int):Nat->(List Int)->Int->Option (List Int)|0,_,_=>none|bf+1,x5,x1=>bif decide (x1<x4) then bC x3 x1 λx6=>bif decide (x6<0)||decide ((p2.aH.length:Int)<=x6) then RY (Dw p1 p2 p3 x3 x4 bf) x1 x5 else bC p2.aH x6 λx7=>(bif x7.dZ&&!x7.fC then AJ p1 x7.bL else some aG).bind λx8=>bif(x7.dZ&&!x7.fC)&&x8==p3 then bq (decide ((x5.length+ [x6].length)*8<=room)) (RY (Dw p1 p2 p3 x3 x4 bf) x1 (x5++ [x6])) else RY (Dw p1 p2 p3 x3 x4 bf) x1 x5 else some x5
def Yj(p1:aM)(p2:aN)(p3:Int):Option (List Int):=(KR p1).bind λx3=>Dw p1 p2 p3 x3 (x3.length:Int) fuel ([]:List Int) 0
def IE(p1:aM)(p2:aN)(p3:Int):Option Bool:=bif(decide (p3<0)||decide ((p1.aK.length:Int)<=p3))||decide ((p2.aK.length:Int)<=p3) then some false else bC p2.aK p3 λx1=>(AJ p1 p3).bind λx2=>bq (!((x1.ig==1&&x1.fZ==x1.iY)&&decide (0<=x2))||decide ((0:Int)<=IntKind.u64.wrap x2)) (some (((x1.ig==1&&x1.fZ==x1.iY)&&decide (0<=x2))&&je .i64 (iJ .i64 p2.eH (IntKind.u64.wrap x2)) 1==0))
def Oz(p1 p2:Int)(p3:aM):Option Int:=bC p3.aH p1 λx1=>bC p3.aH p2 λx2=>(cmp_Compare_int x1.gM x2.gM).bind λx3=>bC p3.aH p2 λx4=>bC p3.aH p1 λx5=>(cmp_Compare_int x4.eD x5.eD).bind λx6=>(cmp_Compare_int p1 p2).bind λx7=>(KX [x3,x6,x7]).bind λx8=>some x8
def afC(p1:List Int)(p2:aM):Option (List Int×aM):=(EC (λx y=>Oz x y p2) p1).bind λl=>some (l,p2)
def aeA(p1:(List Int)):Option (List Int):=bq (decide (p1.length<4611686018427387904)) (some (jU p1))
def Zb(afM:(List Int)->Int->Option (List Int))(x1:Int)(x2:List Int):Option (List Int):=afM x2 (aQ (x1+1))
def F4(p1:aM)(p2:List Int)(x3:Int):Nat->(List Int)->Int->Option (List Int)|0,_,_=>none|bf+1,x4,x1=>bif decide (x1<x3) then bC p2 x1 λx5=>bif decide (0<=x5)&&decide (x5<(p1.aH.length:Int)) then bq (decide ((x4.length+ [x5].length)*8<=room)) (Zb (F4 p1 p2 x3 bf) x1 (x4++ [x5])) else Zb (F4 p1 p2 x3 bf) x1 x4 else(afC x4 p1).bind λx6=>(aeA x6.1).bind λx7=>some x7
def KZ(p1:aM)(p2:List Int):Option (List Int):=F4 p1 p2 (p2.length:Int) fuel ([]:List Int) 0
def XH(adP:(List Int)->Int->Option (List Int))(x1:Int)(x2:List Int):Option (List Int):=adP x2 (aQ (x1+1))
def Fh(p1:j4)(p2 p3:Int)(x3:List mG)(x4:Int):Nat->(List Int)->Int->Option (List Int)|0,_,_=>none|bf+1,x5,x1=>bif decide (x1<x4) then bC x3 x1 λx6=>nR (x6.nG&&x6.lU==p2) p1.dY.aH x1 λx7=>bif(x6.nG&&x6.lU==p2)&&decide (x7.gM<p3) then bq (decide ((x5.length+ [x1].length)*8<=room)) (XH (Fh p1 p2 p3 x3 x4 bf) x1 (x5++ [x1])) else XH (Fh p1 p2 p3 x3 x4 bf) x1 x5 else(KZ p1.dY x5).bind λx8=>some x8
def RA(p1:j4)(p2 p3:Int):Option (List Int):=Fh p1 p2 p3 p1.dL (p1.dL.length:Int) fuel ([]:List Int) 0
def Rl(p2:Int)(x1:mG)(x2:Int)(x3:List eu):Option (List eu):=bif decide (0<x2) then some ([]:List eu) else bq (decide ((x3.length+ [(⟨2,p2,x1.jB⟩:eu)].length)*24<=room)) (some (x3++ [(⟨2,p2,x1.jB⟩:eu)]))
def Dm(p1:j4)(p2:Int)(x1:mG)(x4:List Int)(x5:Int):Nat->Int->(List eu)->Int->Option (List eu)|0,_,_,_=>none|bf+1,x2,x3,x6=>bif decide (x6<x5) then bC x4 x6 λx7=>bif decide (x2<=0) then Rl p2 x1 x2 x3 else bC p1.dY.aH x7 λx8=>bq (decide ((x3.length+ [(⟨1,x7,x1.jB⟩:eu)].length)*24<=room)) ((Dm p1 p2 x1 x4 x5 bf) (aQ (x2-x8.eD)) (x3++ [(⟨1,x7,x1.jB⟩:eu)]) (aQ (x6+1))) else Rl p2 x1 x2 x3
def XR(p1:j4)(p2:Int):Option (List eu):=bC p1.dL p2 λx1=>(bif !(!x1.nG) then IE p1.dY p1.state x1.jB else some aG).bind λx9=>bif !x1.nG||!x9 then some ([]:List eu) else bC p1.dY.aH p2 λx10=>bC p1.dY.aK x1.jB λbU=>bC p1.dM x1.jB λbV=>(RA p1 x1.jB x10.gM).bind λx4=>Dm p1 p2 x1 x4 (x4.length:Int) fuel (aQ ((aQ (x10.eD-x10.kK))-(aQ (bU.mg-bV)))) ([]:List eu) 0
def Fw(p1:j4)(p2 p3:Int):Option j4:=bif decide (0<=p2)&&decide (p2<(p1.dM.length:Int)) then bC p1.dM p2 λx1=>bC p1.dM p2 λx2=>bG (p1.dM.set (Int.toNat p2) (aQ (x1+p3))) λx3=>some {p1 with dM:=x3} else some p1
def Ro(x1:j4):Option (Bool×j4):=some (true,x1)
def XT(p1:j4)(p2:eu):Option (Bool×j4):=bif((decide (p2.aI<0)||decide ((p1.dL.length:Int)<=p2.aI))||decide (p2.aJ<0))||decide ((p1.dM.length:Int)<=p2.aJ) then some (false,p1) else bC p1.dY.aH p2.aI λx2=>bC p1.dL p2.aI λx3=>bif p2.aL==1 then bif(!x3.nG||x3.lU !=p2.aJ)then some (false,p1) else(Fw p1 x3.lU (IntKind.i64.wrap (0-x2.eD))).bind λx4=>bG (x4.dL.getD (Int.toNat p2.aI) aG) λx5=>(Fw x4 x5.xY (IntKind.i64.wrap (0-x2.eD))).bind λx6=>bG (x6.dL.getD (Int.toNat p2.aI) aG) λx7=>bG (x6.dL.set (Int.toNat p2.aI) {x7 with nG:=false}) λx8=>bG (x8.getD (Int.toNat p2.aI) aG) λx9=>bG (x8.set (Int.toNat p2.aI) {x9 with xY:=(-1)}) λx10=>Ro {x6 with dL:=x10} else bif p2.aL==2 then(bif !(!x3.nG||x3.jB !=p2.aJ) then IE p1.dY p1.state x3.jB else some aG).bind λbU=>bif(!x3.nG||x3.jB !=p2.aJ)||!bU then some (false,p1) else(Fw p1 x3.lU (IntKind.i64.wrap (0-x2.eD))).bind λbV=>bG (bV.dL.getD (Int.toNat p2.aI) aG) λdG=>(Fw bV dG.xY (IntKind.i64.wrap (0-x2.eD))).bind λdD=>bG (dD.dL.getD (Int.toNat p2.aI) aG) λfu=>(Fw dD fu.next (IntKind.i64.wrap (0-x2.kK))).bind λgZ=>bG (gZ.dL.getD (Int.toNat p2.aI) aG) λiE=>(Fw gZ iE.jB (aQ (x2.eD-x2.kK))).bind λx18=>bG (x18.dL.set (Int.toNat p2.aI) (⟨true,p2.aJ,(-1),(-1),(-1)⟩:mG)) λlH=>Ro {x18 with dL:=lH} else some (false,p1)
def Yy(Iu:j4->fH->(List Int)->Int->Option (fH×Int))(x1:fH)(x2:Int)(x3:List eu)(x4:j4)(x5:List Int):Option (fH×Int):=bq (decide ((x1.bH.length+x3.length)*24<=room)) (Iu x4 {x1 with bH:=(x1.bH++x3)} x5 (aQ (x2+1)))
def FQ(Iu:j4->fH->(List Int)->Int->Option (fH×Int))(x1:fH)(x6:List Int)(x2 x7:Int)(x3:List eu)(x8:Int):Nat->j4->Int->Option (fH×Int)|0,_,_=>none|bf+1,x4,x9=>bif decide (x9<x8) then bC x3 x9 λx10=>(XT x4 x10).bind λbU=>(FQ Iu x1 x6 x2 x7 x3 x8 bf) bU.2 (aQ (x9+1)) else bif(x3.length:Int)==0 then bq (decide ((x6.length+ [x7].length)*8<=room)) (Yy Iu x1 x2 x3 x4 (x6++ [x7])) else Yy Iu x1 x2 x3 x4 x6
def FR(Yn:j4->fH->Option (fH×Int))(bV:List Int)(dG:Int):Nat->j4->fH->(List Int)->Int->Option (fH×Int)|0,_,_,_,_=>none|wB+1,dD,x1,x6,x2=>bif decide (x2<dG) then bC bV x2 λx7=>(XR dD x7).bind λx3=>FQ (FR Yn bV dG wB) x1 x6 x2 x7 x3 (x3.length:Int) fuel dD 0 else bif(x6.length:Int)==(x1.jv.length:Int) then some (x1,0) else Yn dD {x1 with jv:=x6}
def SE:Nat->j4->fH->Option (fH×Int)|0,_,_=>none|Hq+1,fu,gZ=>FR (SE Hq) gZ.jv (gZ.jv.length:Int) fuel fu gZ ([]:List Int) 0
def KJ(p1:aM)(p2:aN)(p3:Int):Option (fH×Int):=bif decide (p3<0)||decide (p1.gK<=p3) then some ((⟨0,([]:List eu),([]:List Int)⟩:fH),1) else(YL p1 p2).bind λiE=>(Yj p1 p2 p3).bind λx18=>SE fuel iE (⟨p3,([]:List eu),x18⟩:fH)
def Yt(aeK:(List Int)->Int->Option (List Int))(x1:Int)(x2:List Int):Option (List Int):=aeK x2 (aQ (x1+1))
def FM(p2:Int)(x3:List eu)(x4:Int):Nat->(List Int)->Int->Option (List Int)|0,_,_=>none|bf+1,x5,x1=>bif decide (x1<x4) then bC x3 x1 λx6=>bif x6.aL==p2 then bq (decide ((x5.length+ [x6.aI].length)*8<=room)) (Yt (FM p2 x3 x4 bf) x1 (x5++ [x6.aI])) else Yt (FM p2 x3 x4 bf) x1 x5 else some x5
def Tj(p1:fH)(p2:Int):Option (List Int):=FM p2 p1.bH (p1.bH.length:Int) fuel ([]:List Int) 0
def Oi(p1:fH):Option (List Int):=(Tj p1 1).bind λx1=>some x1
def RH(adZ:(List Int)->Int->Option (List Int))(x1:Int)(x2:List Int):Option (List Int):=adZ x2 (aQ (x1+1))
def Dt(p1:aM)(p2:aN)(p3:Int)(x3:List Int)(x4:Int):Nat->(List Int)->Int->Option (List Int)|0,_,_=>none|bf+1,x5,x1=>bif decide (x1<x4) then bC x3 x1 λx6=>bif decide (x6<0)||decide ((p2.aH.length:Int)<=x6) then RH (Dt p1 p2 p3 x3 x4 bf) x1 x5 else bC p2.aH x6 λx7=>(bif x7.dZ&&!x7.fC then AJ p1 x7.bL else some aG).bind λx8=>bif(x7.dZ&&!x7.fC)&&x8==p3 then bq (decide ((x5.length+ [x6].length)*8<=room)) (RH (Dt p1 p2 p3 x3 x4 bf) x1 (x5++ [x6])) else RH (Dt p1 p2 p3 x3 x4 bf) x1 x5 else some x5
def Yb(p1:aM)(p2:aN)(p3:Int):Option (List Int):=(KR p1).bind λx3=>Dt p1 p2 p3 x3 (x3.length:Int) fuel ([]:List Int) 0
def Iy(p1:aM)(p2:aN):Nat->jm->Int->Option jm|0,_,_=>none|bf+1,x1,x2=>bif decide (x2<ji (p1.aH.length:Int) (p2.aH.length:Int)) then bC p2.aH x2 λx3=>bq (decide ((x1.dL.length+ [(⟨x3.dZ&&!x3.fC,x3.bL,x3.bB,x3.Next,x3.dN⟩:mF)].length)*40<=room)) ((Iy p1 p2 bf) {x1 with dL:=(x1.dL++ [(⟨x3.dZ&&!x3.fC,x3.bL,x3.bB,x3.Next,x3.dN⟩:mF)]),dM:=([]:List Int)} (aQ (x2+1))) else bq (decide ((0:Int)<=(p1.aK.length:Int)/\((p1.aK.length:Int):Int)<=(p1.aK.length:Int)/\((p1.aK.length:Int):Int)<=9223372036854775807/\((p1.aK.length:Int):Int)*8<=140737488355328)) ((KU p1 p2).bind λx4=>bq (decide (0+(List.replicate (Int.toNat (p1.aK.length:Int)) (aG:Int)).length<=(List.replicate (Int.toNat (p1.aK.length:Int)) (aG:Int)).length)) (some {x1 with dM:=jM 0 ((List.replicate (Int.toNat (p1.aK.length:Int)) (aG:Int)).length) (List.replicate (Int.toNat (p1.aK.length:Int)) (aG:Int)) x4}))
def NU(p1:aM)(p2:aN):Option jm:=Iy p1 p2 fuel (⟨p1,p2,([]:List mF),([]:List Int)⟩:jm) 0
def FE(p1:jm)(p2 p3:Int):Option jm:=bif decide (0<=p2)&&decide (p2<(p1.dM.length:Int)) then bC p1.dM p2 λx1=>bC p1.dM p2 λx2=>bG (p1.dM.set (Int.toNat p2) (aQ (x1+p3))) λx3=>some {p1 with dM:=x3} else some p1
def NV(p1:aM)(p2:aN)(p3:Int):Option Bool:=bif(decide (p3<0)||decide ((p1.aH.length:Int)<=p3))||decide ((p2.aH.length:Int)<=p3) then some false else bC p2.aH p3 λx1=>(bif x1.dZ&&!x1.fC then IE p1 p2 x1.bB else some aG).bind λx2=>some ((x1.dZ&&!x1.fC)&&x2)
def Rz(x1:jm):Option (Bool×jm):=some (true,x1)
def R7(p1:jm)(p2:eu):Option (Bool×jm):=bif((decide (p2.aI<0)||decide ((p1.dL.length:Int)<=p2.aI))||decide (p2.aJ<0))||decide ((p1.dM.length:Int)<=p2.aJ) then some (false,p1) else bC p1.dY.aH p2.aI λx2=>bC p1.dL p2.aI λx3=>bif p2.aL==1 then bif(!x3.nG||x3.lU !=p2.aJ)then some (false,p1) else(FE p1 x3.lU (IntKind.i64.wrap (0-x2.eD))).bind λx4=>(FE x4 x3.xY (IntKind.i64.wrap (0-x2.eD))).bind λx5=>bC x5.dL p2.aI λx6=>bG (x5.dL.set (Int.toNat p2.aI) {x6 with nG:=false}) λx7=>bC x7 p2.aI λx8=>bG (x7.set (Int.toNat p2.aI) {x8 with xY:=(-1)}) λx9=>Rz {x5 with dL:=x9} else bif p2.aL==2 then(bif !(!x3.nG||x3.jB !=p2.aJ) then NV p1.dY p1.state p2.aI else some aG).bind λx10=>bif(!x3.nG||x3.jB !=p2.aJ)||!x10 then some (false,p1) else(FE p1 x3.lU (IntKind.i64.wrap (0-x2.eD))).bind λbU=>(FE bU x3.xY (IntKind.i64.wrap (0-x2.eD))).bind λbV=>(FE bV x3.next (IntKind.i64.wrap (0-x2.kK))).bind λdG=>(FE dG p2.aJ (aQ (x2.eD-x2.kK))).bind λdD=>bC dD.dL p2.aI λfu=>bG (dD.dL.set (Int.toNat p2.aI) (⟨true,p2.aJ,(-1),(-1),(-1)⟩:mF)) λgZ=>Rz {dD with dL:=gZ} else some (false,p1)
def Ij(p1:List Int)(p2 x1:Int):Nat->Int->Option Int|0,_=>none|bf+1,x2=>bif decide (x2<x1) then bC p1 x2 λx3=>bif p2==x3 then some x2 else(Ij p1 p2 x1 bf) (aQ (x2+1)) else some (-1)
def Yi(p1:List Int)(p2:Int):Option Int:=Ij p1 p2 (p1.length:Int) fuel 0
def M8(p1:List Int)(p2:Int):Option Bool:=(Yi p1 p2).bind λx1=>some (decide (0<=x1))
def Ry(p1:jm)(x1:Int):Nat->Int->Option (Bool×jm)|0,_=>none|bf+1,x2=>bif decide (x2<x1) then bC p1.dM x2 λx3=>bC p1.dY.aK x2 λx4=>bif decide (x4.mg<x3) then some (true,p1) else(Ry p1 x1 bf) (aQ (x2+1)) else some (false,p1)
def aeC(p1:jm):Option (Bool×jm):=Ry p1 (p1.dM.length:Int) fuel 0
def Fp(p1:jm)(x1:Int):Nat->Int->Option Bool|0,_=>none|bf+1,x2=>bif decide (x2<x1) then bC p1.dM x2 λx3=>bC p1.dY.aK x2 λx4=>bif decide (x4.mg<x3) then some true else(Fp p1 x1 bf) (aQ (x2+1)) else some false
theorem al2(p1:jm)(x1:Int):∀n:Nat,Ry p1 x1 n=λx2=>(Fp p1 x1 n x2).bind (λx=>some (x,p1))
  |0=>rfl
  |n+1=>by
    funext x2
    simp only[Ry,Fp,al2 p1 x1 n,fQ,gq,gD,gB,gF,fU,bF,gu]
def M4(p1:jm):Option Bool:=Fp p1 (p1.dM.length:Int) fuel 0
theorem ax5(p1:jm):aeC p1=(M4 p1).bind λx=>some (x,p1):=by
  simp only[aeC,M4,fQ,gq,gD,gB,gF,fU,bF,gu,al2]
def amw(p1:Int):Option Bool:=some true
def Fq(p2 x1:List eu)(x2:Int):Nat->jm->Int->Option (Int×jm)|0,_,_=>none|bf+1,x3,x4=>bif decide (x4<x2) then bC x1 x4 λx5=>(R7 x3 x5).bind λx6=>(bif !(!x6.1) then amw x4 else some aG).bind λx7=>bif !x6.1||!x7 then some (x4,x6.2) else(Fq p2 x1 x2 bf) x6.2 (aQ (x4+1)) else some ((p2.length:Int),x3)
def aeg(p1:jm)(p2:List eu):Option (Int×jm):=Fq p2 p2 (p2.length:Int) fuel p1 0
def Il(p1:jm)(p2:List eu):Option (Bool×jm):=(aeg p1 p2).bind λx1=>some (x1.1==(p2.length:Int),x1.2)
def Nv(p1:aM)(p3:fH)(p4:Int)(x1:eu)(x2:Int)(x3:jm):Nat->Int->Option Bool|0,_=>none|bf+1,x4=>nR (decide (x4<(p3.bH.length:Int))) p3.bH x4 λx5=>nR (decide (x4<(p3.bH.length:Int))&&x5.aL==1) p3.bH x4 λx6=>bif(decide (x4<(p3.bH.length:Int))&&x5.aL==1)&&x6.aJ==x1.aJ then(Nv p1 p3 p4 x1 x2 x3 bf) (aQ (x4+1))else bq (decide (0<=p4/\p4<=x4/\x4<=(p3.bH.length:Int))) ((Il x3 ((p3.bH.take (Int.toNat x4)).drop (Int.toNat p4))).bind λx7=>bif(!x7.1||x4==(p3.bH.length:Int))then some false else bC p3.bH x4 λx8=>bif((x8.aL !=2||x8.aJ !=x1.aJ)||decide (x8.aI<0))||decide ((x7.2.dL.length:Int)<=x8.aI) then some false else bC p1.aH x8.aI λx9=>bC p1.aH x1.aI λx10=>bif decide (x9.gM<=x10.gM) then some false else nR (!(decide (p4<aQ (x4-1)))) p1.aK x1.aJ λbU=>some (decide (p4<aQ (x4-1))||decide (bU.mg<aQ ((aQ (x2+x9.eD))-x9.kK))))
def SB(p1:aM)(p2:aN)(p3:fH)(p4:Int):Option Bool:=nR (!(decide (p4<0)||decide ((p3.bH.length:Int)<=p4))) p3.bH p4 λbV=>bif(decide (p4<0)||decide ((p3.bH.length:Int)<=p4))||bV.aL !=1 then some false else(NU p1 p2).bind λdG=>bC p3.bH p4 λx1=>bq (decide (0<=p4/\p4<=(p3.bH.length:Int))) ((Il dG (p3.bH.take (Int.toNat p4))).bind λdD=>bif(!dD.1||decide (x1.aJ<0))||decide ((dD.2.dM.length:Int)<=x1.aJ) then some false else bC dD.2.dM x1.aJ λx2=>Nv p1 p3 p4 x1 x2 dD.2 fuel p4)
def Nk(p2:fH)(p3:List Int)(p5:jm)(p6:aM)(p7:aN)(x1:Int):Option (Bool×fH×List Int×Int×jm×aM×aN):=some (x1==0,p2,p3,x1,p5,p6,p7)
def Yq(p1:Int)(p2:fH)(p3:List Int)(p4:Int)(p5:jm)(p6:aM)(p7:aN):Option (Bool×fH×List Int×Int×jm×aM×aN):=bC p2.bH p1 λx2=>(bif x2.aL==2 then M8 p3 x2.aI else some aG).bind λx3=>bif x2.aL==2&&!x3 then Nk p2 p3 p5 p6 p7 4 else(M4 p5).bind λx4=>bif x4 then Nk p2 p3 p5 p6 p7 10 else(bif x2.aL==1 then SB p6 p7 p2 p1 else some aG).bind λx5=>bif x2.aL==1&&!x5 then Nk p2 p3 p5 p6 p7 37 else Nk p2 p3 p5 p6 p7 p4
def RI(p2 x1:List eu)(x2:Int):Nat->jm->fH->(List Int)->Int->aM->aN->Int->Option (Int×jm×fH×List Int×Int×aM×aN)|0,_,_,_,_,_,_,_=>none|bf+1,x3,x4,x5,x6,x7,x8,x9=>bif decide (x9<x2) then bC x1 x9 λx10=>(R7 x3 x10).bind λbU=>(bif !(!bU.1) then Yq x9 x4 x5 x6 bU.2 x7 x8 else some (aG,x4,x5,x6,bU.2,x7,x8)).bind λbV=>bif !bU.1||!bV.1 then some (x9,bV.2.2.2.2.1,bV.2.1,bV.2.2.1,bV.2.2.2.1,bV.2.2.2.2.2.1,bV.2.2.2.2.2.2) else(RI p2 x1 x2 bf) bV.2.2.2.2.1 bV.2.1 bV.2.2.1 bV.2.2.2.1 bV.2.2.2.2.2.1 bV.2.2.2.2.2.2 (aQ (x9+1)) else some ((p2.length:Int),x3,x4,x5,x6,x7,x8)
def Yc(p1:jm)(p2:List eu)(p3:fH)(p4:List Int)(p5:Int)(p6:aM)(p7:aN):Option (Int×jm×fH×List Int×Int×aM×aN):=RI p2 p2 (p2.length:Int) fuel p1 p3 p4 p5 p6 p7 0
def Oa(p1:fH):Option (List Int):=(Tj p1 2).bind λx1=>some x1
def afp(p1:Int)(p2:List Int):Option (Bool×List Int):=(M8 p2 p1).bind λx1=>some (x1,p2)
def Im(p1:Int)(p2:List Int):Option Bool:=(M8 p2 p1).bind λx1=>some x1
theorem aAQ(p1:Int)(p2:List Int):afp p1 p2=(Im p1 p2).bind λx=>some (x,p2):=by
  simp only[afp,Im,fQ,gq,gD,gB,gF,fU,bF,gu]
def Rn(p1 p2:List Int)(x1:Int):Nat->Int->Option (Int×List Int)|0,_=>none|bf+1,x2=>bif decide (x2<x1) then bC p1 x2 λx3=>(Im x3 p2).bind λx4=>bif x4 then some (x2,p2) else(Rn p1 p2 x1 bf) (aQ (x2+1)) else some ((-1),p2)
def aef(p1 p2:List Int):Option (Int×List Int):=Rn p1 p2 (p1.length:Int) fuel 0
def Fg(p1 p2:List Int)(x1:Int):Nat->Int->Option Int|0,_=>none|bf+1,x2=>bif decide (x2<x1) then bC p1 x2 λx3=>(Im x3 p2).bind λx4=>bif x4 then some x2 else(Fg p1 p2 x1 bf) (aQ (x2+1)) else some (-1)
theorem al0(p1 p2:List Int)(x1:Int):∀n:Nat,Rn p1 p2 x1 n=λx2=>(Fg p1 p2 x1 n x2).bind (λx=>some (x,p2))
  |0=>rfl
  |n+1=>by
    funext x2
    simp only[Rn,Fg,al0 p1 p2 x1 n,fQ,gq,gD,gB,gF,fU,bF,gu]
def MU(p1 p2:List Int):Option Int:=Fg p1 p2 (p1.length:Int) fuel 0
theorem aw7(p1 p2:List Int):aef p1 p2=(MU p1 p2).bind λx=>some (x,p2):=by
  simp only[aef,MU,fQ,gq,gD,gB,gF,fU,bF,gu,al0]
def XG(adO:(List Int)->Int->Int->Option (List Int×List Int))(x1:Int)(x2:List Int)(x3:Int):Option (List Int×List Int):=adO x2 x3 (aQ (x1+1))
def MQ(p2:(List Int)):Nat->(List Int)->Int->Int->Option (List Int×List Int)|0,_,_,_=>none|bf+1,x4,x5,x1=>bif decide (x1<(x4.length:Int)) then bC x4 x1 λx6=>(Im x6 p2).bind λx7=>bif !x7 then bC x4 x5 λx8=>bG (x4.set (Int.toNat x5) x6) λx9=>XG (MQ p2 bf) x1 x9 (aQ (x5+1)) else XG (MQ p2 bf) x1 x4 x5 else bq (decide (0<=x5/\x5<=(x4.length:Int)/\(x4.length:Int)<=(x4.length:Int))) (bq (decide ((0+Int.toNat x5)+(Int.toNat (x4.length:Int)-Int.toNat x5)<=x4.length)) (bq (decide (0<=x5/\x5<=(((jM (0+Int.toNat x5) (Int.toNat (x4.length:Int)-Int.toNat x5) x4 (List.replicate (Int.toNat (x4.length:Int)-Int.toNat x5) (aG:Int))).length:Nat):Int))) (bq (decide (Int.toNat x5<=(jM (0+Int.toNat x5) (Int.toNat (x4.length:Int)-Int.toNat x5) x4 (List.replicate (Int.toNat (x4.length:Int)-Int.toNat x5) (aG:Int))).length)) (some ((jM (0+Int.toNat x5) (Int.toNat (x4.length:Int)-Int.toNat x5) x4 (List.replicate (Int.toNat (x4.length:Int)-Int.toNat x5) (aG:Int))).take (Int.toNat x5),p2)))))
def XP(p1 p2:List Int):Option (List Int×List Int):=(MU p1 p2).bind λx10=>bif x10==(-1) then some (p1,p2) else MQ p2 fuel p1 x10 (aQ (x10+1))
def Ii(p1 p2:List Int)(x1:Int):Nat->Int->Option Bool|0,_=>none|bf+1,x2=>bif decide (x2<x1) then bC p1 x2 λx3=>bC p2 x2 λx4=>bif x3 !=x4 then some false else(Ii p1 p2 x1 bf) (aQ (x2+1)) else some true
def Yh(p1 p2:List Int):Option Bool:=bif(p1.length:Int) !=(p2.length:Int) then some false else Ii p1 p2 (p1.length:Int) fuel 0
def Yr(aeJ:Int->Int->Option Bool)(x1 x2:Int):Option Bool:=aeJ x2 (aQ (x1+1))
def FK(p1:aM)(x3:mF)(x4:iG)(x5:List mF)(x6:Int):Nat->Int->Int->Option Bool|0,_,_=>none|bf+1,x7,x1=>bif decide (x1<x6) then bC x5 x1 λx8=>nR (x8.nG&&x8.lU==x3.jB) p1.aH x1 λx9=>bif(x8.nG&&x8.lU==x3.jB)&&decide (x9.gM<x4.gM) then bC p1.aH x1 λx10=>Yr (FK p1 x3 x4 x5 x6 bf) x1 (aQ (x7-x10.eD)) else Yr (FK p1 x3 x4 x5 x6 bf) x1 x7 else bC p1.aK x3.jB λbU=>some (decide (x7<=bU.mg))
def Ti(p1:aM)(p2:aN)(p3:fH)(p4:Int):Option Bool:=(NU p1 p2).bind λbV=>(Il bV p3.bH).bind λdG=>bif(!dG.1||decide (p4<0))||decide ((dG.2.dL.length:Int)<=p4) then some false else bC dG.2.dL p4 λx3=>(bif !(!x3.nG||decide (x3.lU<0)) then AJ p1 x3.lU else some aG).bind λdD=>bif(!x3.nG||decide (x3.lU<0))||dD !=p3.Region then some false else(bif !(decide (x3.jB<0)||decide ((dG.2.dM.length:Int)<=x3.jB)) then NV p1 p2 p4 else some aG).bind λfu=>bif(decide (x3.jB<0)||decide ((dG.2.dM.length:Int)<=x3.jB))||!fu then some false else bC p1.aH p4 λx4=>bC dG.2.dM x3.jB λgZ=>FK p1 x3 x4 dG.2.dL (dG.2.dL.length:Int) fuel (aQ ((aQ (gZ+x4.eD))-x4.kK)) 0
def Iw(x1:aM)(x2:aN)(x3:fH)(x4:Int)(x5:List Int)(x6:Int):Nat->Int->Option (Int×Int)|0,_=>none|bf+1,x7=>bif decide (x7<x6) then bC x5 x7 λx8=>(Ti x1 x2 x3 x8).bind λx9=>bif x9 then some (x4,37) else(Iw x1 x2 x3 x4 x5 x6 bf) (aQ (x7+1)) else some (x4,0)
def KC(p1:aM)(p2:aN)(p3:fH):Option (Int×Int):=bif decide (p3.Region<0)||decide (p1.gK<=p3.Region) then some (0,1) else(Yb p1 p2 p3.Region).bind λx10=>(NU p1 p2).bind λbU=>(Yc bU p3.bH p3 x10 0 p1 p2).bind λbV=>bif bV.2.2.2.2.1 !=0 then some (bV.1,bV.2.2.2.2.1) else bif decide (bV.1<(bV.2.2.1.bH.length:Int)) then some (bV.1,4) else(Oa bV.2.2.1).bind λdG=>(XP bV.2.2.2.1 dG).bind λdD=>(Yh dD.1 bV.2.2.1.jv).bind λfu=>bif !fu then some (bV.1,4) else Iw bV.2.2.2.2.2.1 bV.2.2.2.2.2.2 bV.2.2.1 bV.1 bV.2.2.1.jv (bV.2.2.1.jv.length:Int) fuel 0
def Yk(p1:aN)(p2:Int):Option Bool:=bq (!(decide (0<=p2))||decide ((0:Int)<=IntKind.u64.wrap p2)) (some (decide (0<=p2)&&je .i64 (iJ .i64 p1.eH (IntKind.u64.wrap p2)) 1==1))
def Sl(p1:aN)(p2:eu)(p3:Bool):Option Bool:=bif decide (p2.aI<0)||decide ((p1.aH.length:Int)<=p2.aI) then some true else bC p1.aH p2.aI λx1=>bif p2.aL==1 then some (x1.fC||(!p3&&x1.bL !=p2.aJ)) else bif p2.aL==2 then some (x1.bL==p2.aJ) else some true
def Yz(Kw:(List Int)->(List (Value×Value))->Int->Option (List Int))(x1:Int)(x2:List Int)(x3:(List (Value×Value))):Option (List Int):=Kw x2 x3 (aQ (x1+1))
def SF(Kw:(List Int)->(List (Value×Value))->Int->Option (List Int))(x4:(List (Value×Value)))(x1:Int)(x5:eu)(x2:List Int):Option (List Int):=bif x5.aL==2 then bq (tN x4) (Yz Kw x1 x2 (vW x4 x5.aI true)) else Yz Kw x1 x2 x4
def DC(p1:aN)(x6:List eu)(x7:Int):Nat->(List Int)->(List (Value×Value))->Int->Option (List Int)|0,_,_,_=>none|bf+1,x8,x4,x1=>bif decide (x1<x7) then bC x6 x1 λx5=>bq (tN x4) ((Sl p1 x5 (wU x4 x5.aI)).bind λx9=>bif !x9 then bq (decide ((x8.length+ [x1].length)*8<=room)) (SF (DC p1 x6 x7 bf) x4 x1 x5 (x8++ [x1])) else SF (DC p1 x6 x7 bf) x4 x1 x5 x8) else some x8
def Y2(p1:aN)(p2:fH):Option (List Int):=DC p1 p2.bH (p2.bH.length:Int) fuel ([]:List Int) ([]:List (Value×Value)) 0
def Uv(p1:aM)(p2:aN)(p3:aP):Option Int:=(Cb p1 p2 p3).bind λx1=>some x1.2
def YN(p1:aM)(p2:aN)(p3 p4:Int):Option (aP×Int):=bif((decide (p3<0)||decide ((p1.aH.length:Int)<=p3))||decide (p4<0))||decide (1073741824<p4) then some ((⟨0,0,0,0,0,0,0,0,0⟩:aP),1) else bif decide ((p2.aH.length:Int)<=p3) then some ((⟨0,0,0,0,0,0,0,0,0⟩:aP),4) else bC p2.aH p3 λx1=>bif(!x1.dZ||decide (x1.bB<0))||decide ((p2.aK.length:Int)<=x1.bB) then some ((⟨0,0,0,0,0,0,0,0,0⟩:aP),4) else bC p2.aK x1.bB λx2=>(Uv p1 p2 (⟨2,p4,p3,x1.bB,(-1),aQ (x1.bP+1),p4,aQ (p4+p1.iQ),x2.fZ⟩:aP)).bind λx3=>bif x3 !=0 then some ((⟨0,0,0,0,0,0,0,0,0⟩:aP),x3) else some ((⟨2,p4,p3,x1.bB,(-1),aQ (x1.bP+1),p4,aQ (p4+p1.iQ),x2.fZ⟩:aP),0)
def NP(p1:aM)(p2:aN)(p3:eu)(p4:Int):Option (aP×Bool):=bif p3.aL==1 then(Uv p1 p2 (⟨8,p4,p3.aI,(-1),(-1),0,0,0,1⟩:aP)).bind λx1=>some ((⟨8,p4,p3.aI,(-1),(-1),0,0,0,1⟩:aP),x1==0) else(YN p1 p2 p3.aI p4).bind λx2=>some (x2.1,x2.2==0&&x2.1.aJ==p3.aJ)
def afF(ae7:(List (Value×Value))->Int->Option (aP×Int))(x1:Int)(x2:(List (Value×Value))):Option (aP×Int):=ae7 x2 (aQ (x1+1))
def SG(p1:aM)(p2:aN)(p3:fH)(p4:Int)(x3:List Int)(x4:Int):Nat->(List (Value×Value))->Int->Option (aP×Int)|0,_,_=>none|bf+1,x5,x1=>bif decide (x1<x4) then bC x3 x1 λx6=>bC p3.bH x6 λx7=>bq (tN x5) (bif wU x5 x7.aJ then afF (SG p1 p2 p3 p4 x3 x4 bf) x1 x5 else bq (tN x5) ((NP p1 p2 x7 p4).bind λx8=>bif x8.2 then some (x8.1,0) else afF (SG p1 p2 p3 p4 x3 x4 bf) x1 (vW x5 x7.aJ true))) else some ((⟨0,0,0,0,0,0,0,0,0⟩:aP),31)
def FZ(p1:aM)(p2:aN)(p3:fH)(p4:Int):Option (aP×Int):=bif((decide (p3.Region<0)||decide (p1.gK<=p3.Region))||decide (p4<0))||decide (1073741824<p4) then some ((⟨0,0,0,0,0,0,0,0,0⟩:aP),1) else(Yk p2 p3.Region).bind λx9=>bif !x9 then some ((⟨13,p4,(-1),(-1),p3.Region,0,0,0,1⟩:aP),0) else(Y2 p2 p3).bind λx3=>bif(x3.length:Int)==0 then some ((⟨0,0,0,0,0,0,0,0,0⟩:aP),34) else SG p1 p2 p3 p4 x3 (x3.length:Int) fuel ([]:List (Value×Value)) 0
def NW(p2:aM)(p3:fH)(p4:Int):Nat->(List aP)->bO->Option (List aP×Int×bO)|0,_,_=>none|bf+1,x1,x2=>(rW x2).bind λx3=>(FZ p2 x3 p3 p4).bind λx4=>bif x4.2 !=0 then some (x1,x4.2,x2) else(Ip x2 x4.1).bind λx5=>bif x5.2.1 !=0 then some (x1,x5.2.1,iU x5.2.2) else bq (decide ((x1.length+ [x4.1].length)*72<=room)) ((NW p2 p3 p4 bf) (x1++ [x4.1]) (iU x5.2.2))
def Zi(p1:bO)(p2:aM)(p3:fH)(p4:Int):Option (List aP×Int×bO):=NW p2 p3 p4 fuel ([]:List aP) (iU p1)
def IQ(p1:aM)(x1:List Int):Nat->Int->Option Bool|0,_=>none|bf+1,x2=>bif decide (x2<(x1.length:Int)) then bC x1 x2 λx3=>bC p1.aK x2 λx4=>bif decide (x4.mg<x3) then some false else(IQ p1 x1 bf) (aQ (x2+1)) else some true
def UJ(p1:aM)(p2:aN):Option Bool:=(KU p1 p2).bind λx1=>bif(x1.length:Int) !=(p1.aK.length:Int) then some false else IQ p1 x1 fuel 0
def Oe(p1:aM)(p2:aN)(p3:List Int)(p4:Int):Nat->Int->Option Bool|0,_=>none|bf+1,x1=>bif decide (x1<(p3.length:Int)) then bC p3 x1 λx2=>nR (decide (0<=x2)&&decide (x2<(p1.aH.length:Int))) p2.aH x2 λx3=>nR (decide (0<=x2)&&decide (x2<(p1.aH.length:Int))) p2.aH p4 λx4=>nR ((decide (0<=x2)&&decide (x2<(p1.aH.length:Int)))&&x3.bL==x4.bL) p1.aH x2 λx5=>nR ((decide (0<=x2)&&decide (x2<(p1.aH.length:Int)))&&x3.bL==x4.bL) p1.aH p4 λx6=>bif((decide (0<=x2)&&decide (x2<(p1.aH.length:Int)))&&x3.bL==x4.bL)&&decide (x6.gM<x5.gM) then some true else(Oe p1 p2 p3 p4 bf) (aQ (x1+1)) else some false
def ZI(p1:aM)(p2:aN)(p3:List Int)(p4:Int):Option Bool:=Oe p1 p2 p3 p4 fuel 0
def BU(NG:Int->Option Bool)(x1 x2:List Int)(x3:Int):Nat->Int->Option Bool|0,_=>none|bf+1,x4=>bif decide (x4<(x1.length:Int)) then bC x2 x3 λx5=>bC x1 x4 λx6=>bif x5==x6 then some true else(BU NG x1 x2 x3 bf) (aQ (x4+1)) else NG (aQ (x3+1))
def DI(x7:aN)(x1:List Int)(x8:aN):Nat->Int->Option Bool|0,_=>none|wB+1,x9=>bif decide (x9<(x1.length:Int)) then bC x1 x9 λx10=>nR (!(decide (x10<0)||decide ((x8.aH.length:Int)<=x10))) x8.aH x10 λbU=>nR (!((decide (x10<0)||decide ((x8.aH.length:Int)<=x10))||bU.fC)) x8.aH x10 λbV=>nR (!((decide (x10<0)||decide ((x8.aH.length:Int)<=x10))||bU.fC)) x7.aH x10 λdG=>bif((decide (x10<0)||decide ((x8.aH.length:Int)<=x10))||bU.fC)||bV.bL !=dG.bB then some false else(DI x7 x1 x8 wB) (aQ (x9+1)) else some true
def BX(dD:aM)(x7:aN)(x1 x2:List Int)(x8:aN):Nat->Int->Option Bool|0,_=>none|Hq+1,fu=>bif decide (fu<(x2.length:Int)) then bC x2 fu λgZ=>nR (!(decide (gZ<0)||decide ((x8.aH.length:Int)<=gZ))) x8.aH gZ λiE=>(bif !((decide (gZ<0)||decide ((x8.aH.length:Int)<=gZ))||!iE.fC) then ZI dD x8 x1 gZ else some aG).bind λx18=>bif((decide (gZ<0)||decide ((x8.aH.length:Int)<=gZ))||!iE.fC)||!x18 then some false else(BX dD x7 x1 x2 x8 Hq) (aQ (fu+1)) else DI x7 x1 x8 fuel 0
def YI(dD:aM)(x7:aN)(x1 x2:List Int)(lH:fH)(x20:bO):Option Bool:=(Zi x20 dD lH (aQ (x7.aZ+(aQ (2*dD.iQ))))).bind λx21=>(rW (iU x21.2.2)).bind λx8=>(bif !(x21.2.1 !=34||(x8.aH.length:Int) !=(x7.aH.length:Int)) then UJ dD x8 else some aG).bind λpF=>bif(x21.2.1 !=34||(x8.aH.length:Int) !=(x7.aH.length:Int))||!pF then some false else BX dD x7 x1 x2 x8 fuel 0
def FV(dD:aM)(x7:aN)(x1 x2:List Int)(lH:fH)(x23:bO):Nat->Int->Option Bool|0,_=>none|JL+1,x3=>bif decide (x3<(x2.length:Int)) then BU (FV dD x7 x1 x2 lH x23 JL) x1 x2 x3 fuel 0 else YI dD x7 x1 x2 lH x23
def Tg(dD:aM)(x24:Int)(x25:Bool)(wE:bO):Option Bool:=bif x25 then bq (decide ((0:Int)<=IntKind.u64.wrap x24)) ((KN dD (iL .i64 1 (IntKind.u64.wrap x24))).bind λx27=>some (!x27)) else(rW wE).bind λx7=>(KJ dD x7 x24).bind λx28=>bif x28.2 !=0 then some false else(KC dD x7 x28.1).bind λx29=>bif x29.2 !=0 then some false else(Oa x28.1).bind λx1=>(Oi x28.1).bind λx2=>FV dD x7 x1 x2 x28.1 wE fuel 0
def Ca(p1 p2:List Int)(p3:Int):Option Bool:=OU.bind λx30=>(bif !(!x30) then DN p1 else some aG).bind λx31=>(bif !(!x30||!x31) then DN p2 else some aG).bind λx32=>bif(!x30||!x31)||!x32 then OU.bind λxD=>some xD else(KV p1).bind λdD=>(OV dD p2 40).bind λx34=>(Gh p3 dD.gK).bind λx24=>bq (decide ((0:Int)<=IntKind.u64.wrap x24)) ((KN dD (iL .i64 1 (IntKind.u64.wrap x24))).bind λze=>bif !ze then Tg dD x24 true (iU x34)else(aaF dD (iU x34) x24).bind λxE=>Tg dD x24 (!xE.1) (iU xE.2))
def agl(p1:Int):Option (bR×Int):=bif decide (0<p1)||0==0 then(Uu 0 p1).bind λx1=>bif x1.2 !=0 then none else bif decide (1<p1)||1==0 then(Uu 1 p1).bind λx2=>bif x2.2 !=0 then none else bif decide (2<p1)||2==0 then(Uu 2 p1).bind λx3=>bif x3.2 !=0 then none else bif decide (3<p1)||3==0 then none else some ((⟨[x1.1,x2.1,x3.1],([]:List bJ),([]:List aP)⟩:bR),0) else none else none else none
def Ur(p1:aM):Option (bO×Int):=(Ui p1).bind λx1=>bif x1 !=0 then none else(agl (p1.cZ.length:Int)).bind λx2=>bif x2.2 !=0 then none else(Ub p1).bind λx3=>bq (decide ((0:Int)<=(x3.cZ.length:Int))) ((OQ x3).bind λx4=>some ((⟨x3,gT x2.1,aQ ((iL .i64 1 (x3.cZ.length:Int))-1),x4⟩:bO),0))
def ae0(p1:bO):Option (aN×bO):=(JY p1.state.aH).bind λx1=>(JZ p1.state.aK).bind λx2=>some ({p1.state with aH:=x1,aK:=x2},kX p1)
theorem azo(p1:bO):ae0 p1=(rW p1).bind λx=>some (x,kX p1):=by
  simp only[ae0,rW,fQ,gq,gD,gB,gF,fU,bF,gu]
def aeZ(p1:bO):Option (Bool×bO):=(Sn (IntKind.u64.wrap p1.up)).bind λx1=>some (decide ((p1.dY.cZ.length:Int)<aQ (2*x1)),kX p1)
theorem azn(p1:bO):aeZ p1=(zk p1).bind λx=>some (x,kX p1):=by
  simp only[aeZ,zk,fQ,gq,gD,gB,gF,fU,bF,gu]
def Rx(x1 x2 x3:Int)(x4:bR):Option (Int×bR):=bif decide (aQ (x2+1)<x1) then none else some (x3,x4)
def Kh(x1 x5 x6 x2:Int)(x7:Bool)(x8:bR):Option (Int×bR):=bif x7 then Rx x1 x2 x6 x8 else Rx x1 x2 x5 x8
def RO(x1 x9 x10:Int)(bU:bR):Option (Int×bR):=bif decide (aQ (x9+1)<x1) then bif aQ (x9+1)==2 then bif(x10== -1)then(xG (bU.aT.getD 2 aG)).bind λbV=>(bif bV==3&&!(decide ((-1)<0)) then jl (bU.aT.getD 2 aG)else some aG).bind λdG=>bq (!(bV==3&&!(decide ((-1)<0)))||decide ((0:Int)<=(-1)/\((-1):Int)<((3:Nat):Int))) ((bif bV==3&&!(decide ((-1)<0)) then jl (bU.aT.getD 0 aG)else some aG).bind λdD=>Kh x1 (-1) 2 2 (bV==3&&(decide ((-1)<0)||decide (dD<dG))) bU) else bif x10==2 then(xG (bU.aT.getD 2 aG)).bind λfu=>(bif fu==3&&!(decide (2<0)) then jl (bU.aT.getD 2 aG)else some aG).bind λgZ=>bq (!(fu==3&&!(decide (2<0)))||decide ((0:Int)<=2/\(2:Int)<((3:Nat):Int))) ((bif fu==3&&!(decide (2<0)) then jl (bU.aT.getD 2 aG)else some aG).bind λiE=>Kh x1 2 2 2 (fu==3&&(decide (2<0)||decide (iE<gZ))) bU) else bif x10==1 then(xG (bU.aT.getD 2 aG)).bind λx18=>(bif x18==3&&!(decide (1<0)) then jl (bU.aT.getD 2 aG)else some aG).bind λlH=>bq (!(x18==3&&!(decide (1<0)))||decide ((0:Int)<=1/\(1:Int)<((3:Nat):Int))) ((bif x18==3&&!(decide (1<0)) then jl (bU.aT.getD 1 aG)else some aG).bind λx20=>Kh x1 1 2 2 (x18==3&&(decide (1<0)||decide (x20<lH))) bU) else bif x10==0 then(xG (bU.aT.getD 2 aG)).bind λx21=>(bif x21==3&&!(decide (0<0)) then jl (bU.aT.getD 2 aG)else some aG).bind λpF=>bq (!(x21==3&&!(decide (0<0)))||decide ((0:Int)<=0/\(0:Int)<((3:Nat):Int))) ((bif x21==3&&!(decide (0<0)) then jl (bU.aT.getD 0 aG)else some aG).bind λx23=>Kh x1 0 2 2 (x21==3&&(decide (0<0)||decide (x23<pF))) bU) else none else none else none
def Ki(x1 x24 x25 x9:Int)(wE:Bool)(x27:bR):Option (Int×bR):=bif wE then RO x1 x9 x25 x27 else RO x1 x9 x24 x27
def RP(x28 x1 x29:Int)(x30:bR):Option (Int×bR):=bif decide (aQ (x29+1)<x1) then bif aQ (x29+1)==1 then bif(x28== -1)then(xG (x30.aT.getD 1 aG)).bind λx31=>(bif x31==3&&!(decide ((-1)<0)) then jl (x30.aT.getD 1 aG)else some aG).bind λx32=>bq (!(x31==3&&!(decide ((-1)<0)))||decide ((0:Int)<=(-1)/\((-1):Int)<((3:Nat):Int))) ((bif x31==3&&!(decide ((-1)<0)) then jl (x30.aT.getD 0 aG)else some aG).bind λxD=>Ki x1 (-1) 1 1 (x31==3&&(decide ((-1)<0)||decide (xD<x32))) x30) else bif x28==2 then(xG (x30.aT.getD 1 aG)).bind λx34=>(bif x34==3&&!(decide (2<0)) then jl (x30.aT.getD 1 aG)else some aG).bind λze=>bq (!(x34==3&&!(decide (2<0)))||decide ((0:Int)<=2/\(2:Int)<((3:Nat):Int))) ((bif x34==3&&!(decide (2<0)) then jl (x30.aT.getD 2 aG)else some aG).bind λxE=>Ki x1 2 1 1 (x34==3&&(decide (2<0)||decide (xE<ze))) x30) else bif x28==1 then(xG (x30.aT.getD 1 aG)).bind λBI=>(bif BI==3&&!(decide (1<0)) then jl (x30.aT.getD 1 aG)else some aG).bind λx38=>bq (!(BI==3&&!(decide (1<0)))||decide ((0:Int)<=1/\(1:Int)<((3:Nat):Int))) ((bif BI==3&&!(decide (1<0)) then jl (x30.aT.getD 1 aG)else some aG).bind λx39=>Ki x1 1 1 1 (BI==3&&(decide (1<0)||decide (x39<x38))) x30) else bif x28==0 then(xG (x30.aT.getD 1 aG)).bind λx40=>(bif x40==3&&!(decide (0<0)) then jl (x30.aT.getD 1 aG)else some aG).bind λx41=>bq (!(x40==3&&!(decide (0<0)))||decide ((0:Int)<=0/\(0:Int)<((3:Nat):Int))) ((bif x40==3&&!(decide (0<0)) then jl (x30.aT.getD 0 aG)else some aG).bind λx42=>Ki x1 0 1 1 (x40==3&&(decide (0<0)||decide (x42<x41))) x30) else none else none else none
def Ik(p1:bR):Option (Int×bR):=bif decide (0<3) then(xG (p1.aT.getD 0 aG)).bind λx43=>(bif x43==3&&!(decide ((-1)<0)) then jl (p1.aT.getD 0 aG)else some aG).bind λx44=>bq (!(x43==3&&!(decide ((-1)<0)))||decide ((0:Int)<=(-1)/\((-1):Int)<((3:Nat):Int))) ((bif x43==3&&!(decide ((-1)<0)) then jl (p1.aT.getD 0 aG)else some aG).bind λx45=>bif x43==3&&(decide ((-1)<0)||decide (x45<x44)) then RP 0 3 0 (gT p1)else RP (-1) 3 0 (gT p1)) else none
def afj(p1:bO)(p2:Int):Option (Bool×bO):=bq (!(decide (0<=p2)&&decide (p2<(p1.dY.cZ.length:Int)))||decide ((0:Int)<=p2)) (some ((decide (0<=p2)&&decide (p2<(p1.dY.cZ.length:Int)))&&je .i64 (iJ .i64 p1.up p2) 1==1,kX p1))
theorem aAe(p1:bO)(p2:Int):afj p1 p2=(pI p1 p2).bind λx=>some (x,kX p1):=by
  simp only[afj,pI,fQ,gq,gD,gB,gF,fU,bF,gu]
def ae5(p1:bR)(p2:Int):Option (Bool×bR):=some (decide (0<=p2)&&decide (p2<3),gT p1)
def xI(p1:bR)(p2:Int):Option Bool:=some (decide (0<=p2)&&decide (p2<3))
theorem azv(p1:bR)(p2:Int):ae5 p1 p2=(xI p1 p2).bind λx=>some (x,gT p1):=by
  simp only[ae5,xI,fQ,gq,gD,gB,gF,fU,bF,gu]
def J5(p2:lN)(x3:Int)(x4:Bool)(x5:bR):Option (Bool×bR):=bif x4 then(xI x5 p2.nZ).bind λx6=>some (x6,x5) else bif x3==4 then Dp p2 (x3==4) x5 else bif x3==5 then Dp p2 (x3==5) x5 else Dp p2 (x3==6) x5
def ad6(p1:bR)(p2:lN):Option (Bool×bR):=bif p2.aL==1 then J5 p2 p2.aL (p2.aL==1) (gT p1)else bif p2.aL==2 then J5 p2 p2.aL (p2.aL==2) (gT p1)else bif p2.aL==3 then J5 p2 p2.aL (p2.aL==3) (gT p1)else J5 p2 p2.aL (p2.aL==7) (gT p1)
def HZ(p2:lN)(x3:Int)(x4:Bool)(x5:bR):Option Bool:=bif x4 then(xI x5 p2.nZ).bind λx6=>some x6 else bif x3==4 then H7 p2 (x3==4) x5 else bif x3==5 then H7 p2 (x3==5) x5 else H7 p2 (x3==6) x5
theorem awv(p2:lN)(x3:Int)(x4:Bool)(x5:bR):J5 p2 x3 x4 x5=(HZ p2 x3 x4 x5).bind (λx=>some (x,x5)):=by
  simp only[J5,HZ,fQ,gq,gD,gB,gF,fU,bF,gu,XE]
def Fj(p1:bR)(p2:lN):Option Bool:=bif p2.aL==1 then HZ p2 p2.aL (p2.aL==1) (gT p1)else bif p2.aL==2 then HZ p2 p2.aL (p2.aL==2) (gT p1)else bif p2.aL==3 then HZ p2 p2.aL (p2.aL==3) (gT p1)else HZ p2 p2.aL (p2.aL==7) (gT p1)
theorem awQ(p1:bR)(p2:lN):ad6 p1 p2=(Fj p1 p2).bind λx=>some (x,gT p1):=by
  simp only[ad6,Fj,fQ,gq,gD,gB,gF,fU,bF,gu,XE,awv]
def RQ(Ke:Int->bR->Option bR)(x1:Int)(x2:bJ)(x3:bR):Option bR:=bq (decide ((x3.bg.length+ [x2].length)*88<=room)) (Ke (aQ (x1+1)) (⟨[x3.aT.getD 0 aG,x3.aT.getD 1 aG,x3.aT.getD 2 aG],(x3.bg++ [x2]),x3.lY⟩:bR))
def Kj(p2:List bJ)(x4:Int):Nat->Int->bR->Option bR|0,_,_=>none|bf+1,x1,x5=>bif decide (x1<x4) then bC p2 x1 λx2=>bif decide (256<=(x5.bg.length:Int)) then(HV x5.bg 0 1).bind λx6=>RQ (Kj p2 x4 bf) x1 x2 (⟨[x5.aT.getD 0 aG,x5.aT.getD 1 aG,x5.aT.getD 2 aG],x6,x5.lY⟩:bR) else RQ (Kj p2 x4 bf) x1 x2 x5 else some x5
def rV(p1:bR)(p2:List bJ):Option bR:=Kj p2 (p2.length:Int) fuel 0 (gT p1)
def Na(p1:bR)(p2:Int):Option bR:=(HV p1.bg p2 (aQ (p2+1))).bind λx1=>some (⟨[p1.aT.getD 0 aG,p1.aT.getD 1 aG,p1.aT.getD 2 aG],x1,p1.lY⟩:bR)
def M6(x1 x4:Int)(x5:List cO)(x6:Int)(x7:bR):Nat->(List aP)->Int->Option bR|0,_,_=>none|bf+1,x8,x9=>bif decide (x9<x6) then bC x5 x9 λx10=>bq (decide ((x8.length+ [x10.kL].length)*72<=room)) ((M6 x1 x4 x5 x6 x7 bf) (x8++ [x10.kL]) (aQ (x9+1))) else Ar x1 x4 (⟨[x7.aT.getD 0 aG,x7.aT.getD 1 aG,x7.aT.getD 2 aG],x7.bg,x8⟩:bR)
def FC(x1 bU:Int)(bV:bR):Option bR:=bif decide (aQ (bU+1)<x1) then bif aQ (bU+1)==2 then(oM (bV.aT.getD 2 aG)).bind λdG=>bif decide (dG<=(bV.lY.length:Int)) then Ar x1 2 bV else(oM (bV.aT.getD 2 aG)).bind λdD=>bq (decide ((0:Int)<=0/\(0:Int)<=dD/\(dD:Int)<=9223372036854775807/\(dD:Int)*72<=140737488355328)) ((rD (bV.aT.getD 2 aG)).bind λfu=>(oM (bV.aT.getD 2 aG)).bind λgZ=>bq (decide (0<=gZ/\gZ<=(fu.length:Int))) (M6 x1 2 (fu.take (Int.toNat gZ)) (((fu.take (Int.toNat gZ)).length:Nat):Int) bV fuel (List.replicate (Int.toNat 0) (aG:aP)) 0)) else none else none
def Ni(x1 iE:Int)(x18:List cO)(lH:Int)(x20:bR):Nat->(List aP)->Int->Option bR|0,_,_=>none|wB+1,x21,pF=>bif decide (pF<lH) then bC x18 pF λx23=>bq (decide ((x21.length+ [x23.kL].length)*72<=room)) ((Ni x1 iE x18 lH x20 wB) (x21++ [x23.kL]) (aQ (pF+1))) else FC x1 iE (⟨[x20.aT.getD 0 aG,x20.aT.getD 1 aG,x20.aT.getD 2 aG],x20.bg,x21⟩:bR)
def FD(x1 x24:Int)(x25:bR):Option bR:=bif decide (aQ (x24+1)<x1) then bif aQ (x24+1)==1 then(oM (x25.aT.getD 1 aG)).bind λwE=>bif decide (wE<=(x25.lY.length:Int)) then FC x1 1 x25 else(oM (x25.aT.getD 1 aG)).bind λx27=>bq (decide ((0:Int)<=0/\(0:Int)<=x27/\(x27:Int)<=9223372036854775807/\(x27:Int)*72<=140737488355328)) ((rD (x25.aT.getD 1 aG)).bind λx28=>(oM (x25.aT.getD 1 aG)).bind λx29=>bq (decide (0<=x29/\x29<=(x28.length:Int))) (Ni x1 1 (x28.take (Int.toNat x29)) (((x28.take (Int.toNat x29)).length:Nat):Int) x25 fuel (List.replicate (Int.toNat 0) (aG:aP)) 0)) else none else none
def Nj(x30 x31:Int)(x32:List cO)(xD:Int)(x34:bR):Nat->(List aP)->Int->Option bR|0,_,_=>none|Hq+1,ze,xE=>bif decide (xE<xD) then bC x32 xE λBI=>bq (decide ((ze.length+ [BI.kL].length)*72<=room)) ((Nj x30 x31 x32 xD x34 Hq) (ze++ [BI.kL]) (aQ (xE+1))) else FD x30 x31 (⟨[x34.aT.getD 0 aG,x34.aT.getD 1 aG,x34.aT.getD 2 aG],x34.bg,ze⟩:bR)
def Sj(p1:bR):Option bR:=bif decide (0<3) then(oM (p1.aT.getD 0 aG)).bind λx38=>bif decide (x38<=(p1.lY.length:Int)) then FD 3 0 (gT p1)else(oM (p1.aT.getD 0 aG)).bind λx39=>bq (decide ((0:Int)<=0/\(0:Int)<=x39/\(x39:Int)<=9223372036854775807/\(x39:Int)*72<=140737488355328)) ((rD (p1.aT.getD 0 aG)).bind λx40=>(oM (p1.aT.getD 0 aG)).bind λx41=>bq (decide (0<=x41/\x41<=(x40.length:Int))) (Nj 3 0 (x40.take (Int.toNat x41)) (((x40.take (Int.toNat x41)).length:Nat):Int) (gT p1) fuel (List.replicate (Int.toNat 0) (aG:aP)) 0)) else none
def pV(x1:bR):Option (Int×bR):=(Sj x1).bind λx2=>some (0,gT x2)
def Nz(x3:List bJ)(x4:Int)(x5:bR):Option (Int×bR):=bif x4 !=0 then some (x4,x5) else(rV x5 x3).bind λx6=>pV (gT x6)
def Av(p1:bR)(p2:lN):Option (Int×bR):=(Fj (gT p1) p2).bind λx7=>bif !x7 then some (1,gT p1) else bif p2.aL==1 then bif p2.nZ==2 then(zh (p1.aT.getD 2 aG)).bind λx8=>(rV {p1 with aT:=[p1.aT.getD 0 aG,p1.aT.getD 1 aG,x8.2]} x8.1).bind λx9=>pV (gT x9) else bif p2.nZ==1 then(zh (p1.aT.getD 1 aG)).bind λx10=>(rV {p1 with aT:=[p1.aT.getD 0 aG,x10.2,p1.aT.getD 2 aG]} x10.1).bind λbU=>pV (gT bU) else bif p2.nZ==0 then(zh (p1.aT.getD 0 aG)).bind λbV=>(rV {p1 with aT:=[bV.2,p1.aT.getD 1 aG,p1.aT.getD 2 aG]} bV.1).bind λdG=>pV (gT dG) else none else bif p2.aL==2 then bif p2.nZ==2 then(zi (p1.aT.getD 2 aG) p2.kL).bind λdD=>Nz dD.1 dD.2.1 {p1 with aT:=[p1.aT.getD 0 aG,p1.aT.getD 1 aG,dD.2.2]} else bif p2.nZ==1 then(zi (p1.aT.getD 1 aG) p2.kL).bind λfu=>Nz fu.1 fu.2.1 {p1 with aT:=[p1.aT.getD 0 aG,fu.2.2,p1.aT.getD 2 aG]} else bif p2.nZ==0 then(zi (p1.aT.getD 0 aG) p2.kL).bind λgZ=>Nz gZ.1 gZ.2.1 {p1 with aT:=[gZ.2.2,p1.aT.getD 1 aG,p1.aT.getD 2 aG]} else none else bif p2.aL==3 then bif p2.nZ==2 then(Kl (p1.aT.getD 2 aG)).bind λiE=>(rV (gT p1) iE).bind λx18=>pV (gT x18) else bif p2.nZ==1 then(Kl (p1.aT.getD 1 aG)).bind λlH=>(rV (gT p1) lH).bind λx20=>pV (gT x20) else bif p2.nZ==0 then(Kl (p1.aT.getD 0 aG)).bind λx21=>(rV (gT p1) x21).bind λpF=>pV (gT pF) else none else bif p2.aL==4 then bC p1.bg p2.N λx23=>(Na (gT p1) p2.N).bind λx24=>bif x23.To==2 then(nT (x24.aT.getD 2 aG) {x23 with To:=2}).bind λx25=>(rV {x24 with aT:=[x24.aT.getD 0 aG,x24.aT.getD 1 aG,x25.2]} x25.1).bind λwE=>pV (gT wE) else bif x23.To==1 then(nT (x24.aT.getD 1 aG) {x23 with To:=1}).bind λx27=>(rV {x24 with aT:=[x24.aT.getD 0 aG,x27.2,x24.aT.getD 2 aG]} x27.1).bind λx28=>pV (gT x28) else bif x23.To==0 then(nT (x24.aT.getD 0 aG) {x23 with To:=0}).bind λx29=>(rV {x24 with aT:=[x29.2,x24.aT.getD 1 aG,x24.aT.getD 2 aG]} x29.1).bind λx30=>pV (gT x30) else none else bif p2.aL==5 then bC p1.bg p2.N λx31=>bif x31.To==2 then(nT (p1.aT.getD 2 aG) {x31 with To:=2}).bind λx32=>(rV {p1 with aT:=[p1.aT.getD 0 aG,p1.aT.getD 1 aG,x32.2]} x32.1).bind λxD=>pV (gT xD) else bif x31.To==1 then(nT (p1.aT.getD 1 aG) {x31 with To:=1}).bind λx34=>(rV {p1 with aT:=[p1.aT.getD 0 aG,x34.2,p1.aT.getD 2 aG]} x34.1).bind λze=>pV (gT ze) else bif x31.To==0 then(nT (p1.aT.getD 0 aG) {x31 with To:=0}).bind λxE=>(rV {p1 with aT:=[xE.2,p1.aT.getD 1 aG,p1.aT.getD 2 aG]} xE.1).bind λBI=>pV (gT BI) else none else bif p2.aL==6 then(Na (gT p1) p2.N).bind λx38=>pV (gT x38) else bif p2.aL==7 then bif p2.nZ==2 then(BQ (p1.aT.getD 2 aG) p2.N).bind λx39=>pV {p1 with aT:=[p1.aT.getD 0 aG,p1.aT.getD 1 aG,x39]} else bif p2.nZ==1 then(BQ (p1.aT.getD 1 aG) p2.N).bind λx40=>pV {p1 with aT:=[p1.aT.getD 0 aG,x40,p1.aT.getD 2 aG]} else bif p2.nZ==0 then(BQ (p1.aT.getD 0 aG) p2.N).bind λx41=>pV {p1 with aT:=[x41,p1.aT.getD 1 aG,p1.aT.getD 2 aG]} else none else pV (gT p1)
def Kk(ad8:Int->bR->Option (Int×bR))(x1:Int)(x2:bR):Option (Int×bR):=(Sj x2).bind λx3=>ad8 (aQ (x1+1)) (gT x3)
def BN(p2:Int):Nat->Int->bR->Option (Int×bR)|0,_,_=>none|bf+1,x1,x4=>bif decide (0<(x4.bg.length:Int))&&decide (x1<5000) then bC x4.bg 0 λx5=>(Na x4 0).bind λx6=>bq (decide ((0:Int)<=IntKind.u64.wrap x5.From)) (bq (!(!(je .i64 (iJ .i64 p2 (IntKind.u64.wrap x5.From)) 1==0))||decide ((0:Int)<=IntKind.u64.wrap x5.To)) (bif je .i64 (iJ .i64 p2 (IntKind.u64.wrap x5.From)) 1==0||je .i64 (iJ .i64 p2 (IntKind.u64.wrap x5.To)) 1==0 then(BN p2 bf) x1 (gT x6)else bif x5.To==2 then(nT (x6.aT.getD 2 aG) {x5 with To:=2}).bind λx7=>(rV {x6 with aT:=[x6.aT.getD 0 aG,x6.aT.getD 1 aG,x7.2]} x7.1).bind λx8=>Kk (BN p2 bf) x1 (gT x8) else bif x5.To==1 then(nT (x6.aT.getD 1 aG) {x5 with To:=1}).bind λx9=>(rV {x6 with aT:=[x6.aT.getD 0 aG,x9.2,x6.aT.getD 2 aG]} x9.1).bind λx10=>Kk (BN p2 bf) x1 (gT x10) else bif x5.To==0 then(nT (x6.aT.getD 0 aG) {x5 with To:=0}).bind λbU=>(rV {x6 with aT:=[bU.2,x6.aT.getD 1 aG,x6.aT.getD 2 aG]} bU.1).bind λbV=>Kk (BN p2 bf) x1 (gT bV) else none)) else some (x1,x4)
def Ng(p1:bR)(p2:Int):Option (Int×bR):=BN p2 fuel 0 (gT p1)
def M5(x1:Int)(x2:bR):Option (Int×bR):=some (x1,x2)
def aev(p1:bR)(p2:Int):Option (Int×bR):=(xI (gT p1) p2).bind λx3=>bif !x3 then some (0,gT p1) else bif p2==2 then(oM (p1.aT.getD 2 aG)).bind λx4=>M5 x4 (gT p1) else bif p2==1 then(oM (p1.aT.getD 1 aG)).bind λx5=>M5 x5 (gT p1) else bif p2==0 then(oM (p1.aT.getD 0 aG)).bind λx6=>M5 x6 (gT p1) else none
def Ru(x1:Int):Option Int:=some x1
theorem axc(x1:Int)(x2:bR):M5 x1 x2=(Ru x1).bind (λx=>some (x,x2)):=by
  simp only[M5,Ru,fQ,gq,gD,gB,gF,fU,bF,gu]
def Ka(p1:bR)(p2:Int):Option Int:=(xI (gT p1) p2).bind λx3=>bif !x3 then some 0 else bif p2==2 then(oM (p1.aT.getD 2 aG)).bind λx4=>Ru x4 else bif p2==1 then(oM (p1.aT.getD 1 aG)).bind λx5=>Ru x5 else bif p2==0 then(oM (p1.aT.getD 0 aG)).bind λx6=>Ru x6 else none
theorem axC(p1:bR)(p2:Int):aev p1 p2=(Ka p1 p2).bind λx=>some (x,gT p1):=by
  simp only[aev,Ka,fQ,gq,gD,gB,gF,fU,bF,gu,axc]
def Nr(x1:List cO)(x2:bR):Option (List cO×bR):=some (x1,x2)
def ae4(p1:bR)(p2:Int):Option (List cO×bR):=(xI (gT p1) p2).bind λx3=>bif !x3 then some (([]:List cO),gT p1) else bif p2==2 then(rD (p1.aT.getD 2 aG)).bind λx4=>Nr x4 (gT p1) else bif p2==1 then(rD (p1.aT.getD 1 aG)).bind λx5=>Nr x5 (gT p1) else bif p2==0 then(rD (p1.aT.getD 0 aG)).bind λx6=>Nr x6 (gT p1) else none
def R6(x1:(List cO)):Option (List cO):=some x1
theorem ayI(x1:List cO)(x2:bR):Nr x1 x2=(R6 x1).bind (λx=>some (x,x2)):=by
  simp only[Nr,R6,fQ,gq,gD,gB,gF,fU,bF,gu]
def Kq(p1:bR)(p2:Int):Option (List cO):=(xI (gT p1) p2).bind λx3=>bif !x3 then some ([]:List cO) else bif p2==2 then(rD (p1.aT.getD 2 aG)).bind λx4=>R6 x4 else bif p2==1 then(rD (p1.aT.getD 1 aG)).bind λx5=>R6 x5 else bif p2==0 then(rD (p1.aT.getD 0 aG)).bind λx6=>R6 x6 else none
theorem azu(p1:bR)(p2:Int):ae4 p1 p2=(Kq p1 p2).bind λx=>some (x,gT p1):=by
  simp only[ae4,Kq,fQ,gq,gD,gB,gF,fU,bF,gu,ayI]
def Kn(bV:Int)(dG:bO):Nat->Int->Int->Int->Int->Option (Int×bO)|0,_,_,_,_=>none|bf+1,x5,x6,x7,x8=>bif decide (x8<bV) then(pI dG x8).bind λdD=>bif !dD then Iq (Kn bV dG bf) x5 x6 x7 x8 else(Kq dG.bg x8).bind λx9=>bif decide (0<(x9.length:Int)) then bC x9 (aQ ((x9.length:Int)-1)) λfu=>Ir (Kn bV dG bf) x5 x6 x7 x8 x9 fu.iA x8 else Ir (Kn bV dG bf) x5 x6 x7 x8 x9 0 x8 else some (x5,dG)
def afi(p1:bO):Option (Int×bO):=Kn (p1.dY.cZ.length:Int) (kX p1) fuel (-1) (-1) (-1) 0
def zQ(bV:Int)(dG:bO):Nat->Int->Int->Int->Int->Option Int|0,_,_,_,_=>none|bf+1,x5,x6,x7,x8=>bif decide (x8<bV) then(pI dG x8).bind λdD=>bif !dD then Fz (zQ bV dG bf) x5 x6 x7 x8 else(Kq dG.bg x8).bind λx9=>bif decide (0<(x9.length:Int)) then bC x9 (aQ ((x9.length:Int)-1)) λfu=>Dz (zQ bV dG bf) x5 x6 x7 x8 x9 fu.iA x8 else Dz (zQ bV dG bf) x5 x6 x7 x8 x9 0 x8 else some x5
theorem ame(bV:Int)(dG:bO):∀n:Nat,Kn bV dG n=λx5 x6 x7 x8=>(zQ bV dG n x5 x6 x7 x8).bind (λx=>some (x,dG))
  |0=>rfl
  |n+1=>by
    funext x5 x6 x7 x8
    simp only[Kn,zQ,ame bV dG n,fQ,gq,gD,gB,gF,fU,bF,gu,XZ,R4]
def Np(p1:bO):Option Int:=zQ (p1.dY.cZ.length:Int) (kX p1) fuel (-1) (-1) (-1) 0
theorem aAc(p1:bO):afi p1=(Np p1).bind λx=>some (x,kX p1):=by
  simp only[afi,Np,fQ,gq,gD,gB,gF,fU,bF,gu,XZ,R4,ame]
def Kg(Kc:Int->bO->Option (Bool×bO))(x1 x2:Int)(x3:Bool)(x4:bO):Option (Bool×bO):=bif x3 then(Ng x4.bg x4.up).bind λx5=>(Ka (gT x5.2) x2).bind λx6=>some (decide (x4.state.eP<x6),(⟨x4.dY,gT x5.2,x4.up,x4.state⟩:bO)) else(Np x4).bind λx7=>(Av x4.bg (⟨1,x7,0,⟨0,0,0,0,0,0,0,0,0⟩⟩:lN)).bind λx8=>(Ng (gT x8.2) x4.up).bind λx9=>Kc (aQ (x1+1)) (⟨x4.dY,gT x9.2,x4.up,x4.state⟩:bO)
def Du(p2:aP):Nat->Int->bO->Option (Bool×bO)|0,_,_=>none|bf+1,x1,x10=>bif decide (x1<4) then(Ik x10.bg).bind λbU=>(pI (⟨x10.dY,gT bU.2,x10.up,x10.state⟩:bO) bU.1).bind λbV=>bif bV then(Av (gT bU.2) (⟨2,bU.1,0,p2⟩:lN)).bind λdG=>Kg (Du p2 bf) x1 bU.1 (dG.1==0) (⟨x10.dY,gT dG.2,x10.up,x10.state⟩:bO) else Kg (Du p2 bf) x1 bU.1 false (⟨x10.dY,gT bU.2,x10.up,x10.state⟩:bO) else some (false,x10)
def Sg(p1:bO)(p2:aP):Option (Bool×bO):=Du p2 fuel 0 (kX p1)
def Km(p1:bO)(p2:aP):Option (Int×Int×bO):=(zk (kX p1)).bind λx1=>bif !x1 then some (0,16,kX p1) else(Cb p1.dY p1.state p2).bind λx2=>bif x2.2 !=0 then some (0,x2.2,kX p1) else(Sg (kX p1) p2).bind λx3=>bif !x3.1 then some (0,16,kX x3.2) else some (x3.2.state.eP,0,{x3.2 with bg:=gT x3.2.bg,state:=x2.1})
def IL(p1:aM)(x1:List aP):Nat->Int->bO->Option bO|0,_,_=>none|bf+1,x2,x3=>bif decide (x2<(x1.length:Int)) then bC x1 x2 λx4=>(Km x3 x4).bind λx5=>bif x5.2.1 !=0 then none else(IL p1 x1 bf) (aQ (x2+1)) (kX x5.2.2) else(rW x3).bind λx6=>bif(x6.aH.length:Int) !=(p1.aH.length:Int)||(x6.aK.length:Int) !=(p1.aK.length:Int) then none else some x3
def ZJ(p1:aM)(p2:List Int)(p3:Int):Option bO:=(Ur p1).bind λx7=>bif false||x7.2 !=0 then none else(U5 p2 p1 p3).bind λx1=>IL p1 x1 fuel 0 (kX x7.1)
def NA(p1:bO)(p2:Int):Option (Int×bO):=bif decide (p2<0)||decide ((p1.dY.cZ.length:Int)<=p2) then some (1,kX p1) else(pI (kX p1) p2).bind λx1=>bif !x1 then some (4,kX p1) else bq (decide ((0:Int)<=p2)) ((Av (gT p1.bg) (⟨7,p2,0,⟨0,0,0,0,0,0,0,0,0⟩⟩:lN)).bind λx2=>some (0,{p1 with bg:=gT x2.2,up:=Lh .i64 p1.up (iL .i64 1 p2)}))
def BO(p2:Int)(x7:List Int)(x8:Int):Nat->Int->Int->bO->Option (Int×bO)|0,_,_,_=>none|bf+1,x4,x1,x9=>bif decide (x1<x8) then bC x7 x1 λx10=>bC x9.dY.iM x10 λbU=>bif bU.Region==p2 then(NA x9 x1).bind λbV=>Io (BO p2 x7 x8 bf) x4 x1 (bV.1==0) (kX bV.2) else Io (BO p2 x7 x8 bf) x4 x1 false x9 else some (x4,x9)
def Sr(p1:bO)(p2:Int):Option (Int×bO):=BO p2 p1.dY.cZ (p1.dY.cZ.length:Int) fuel 0 0 (kX p1)
def F6(x3:aN)(x4:List Int):Nat->Int->bO->Option (Bool×bO)|0,_,_=>none|bf+1,x1,x5=>bif decide (x1<(x4.length:Int)) then bC x4 x1 λx6=>nR (!(decide (x6<0))) x4 x1 λx7=>bif decide (x6<0)||decide ((x3.aK.length:Int)<=x7) then some (false,x5) else(U9 9 x3.aZ).bind λx8=>bC x4 x1 λx9=>bC x4 x1 λx10=>bC x3.aK x10 λbU=>bif bU.ig !=3 then(Km x5 {x8 with aJ:=x9,N:=3}).bind λbV=>bif bV.2.1 !=0 then some (false,kX bV.2.2) else IZ (F6 x3 x4 bf) x1 (kX bV.2.2) else IZ (F6 x3 x4 bf) x1 x5 else some (true,x5)
def Z6(p1:aM)(p2:bO)(p3:Int):Option (Bool×bO):=(Sr (kX p2) p3).bind λdG=>(rW (kX dG.2)).bind λx3=>(T9 p1 p3).bind λx4=>F6 x3 x4 fuel 0 (kX dG.2)
def NH(p2:aM)(p3:fH)(p4:Int):Nat->(List aP)->bO->Option (List aP×Int×bO)|0,_,_=>none|bf+1,x1,x2=>(rW x2).bind λx3=>(FZ p2 x3 p3 p4).bind λx4=>bif x4.2 !=0 then some (x1,x4.2,x2) else(Km x2 x4.1).bind λx5=>bif x5.2.1 !=0 then some (x1,x5.2.1,kX x5.2.2) else bq (decide ((x1.length+ [x4.1].length)*72<=room)) ((NH p2 p3 p4 bf) (x1++ [x4.1]) (kX x5.2.2))
def YM(p1:bO)(p2:aM)(p3:fH)(p4:Int):Option (List aP×Int×bO):=NH p2 p3 p4 fuel ([]:List aP) (kX p1)
def Yw(dD:aM)(x7:aN)(x1 x2:List Int)(lH:fH)(x20:bO):Option Bool:=(YM x20 dD lH (aQ (x7.aZ+(aQ (2*dD.iQ))))).bind λx21=>(rW (kX x21.2.2)).bind λx8=>(bif !(x21.2.1 !=34||(x8.aH.length:Int) !=(x7.aH.length:Int)) then UJ dD x8 else some aG).bind λpF=>bif(x21.2.1 !=34||(x8.aH.length:Int) !=(x7.aH.length:Int))||!pF then some false else BX dD x7 x1 x2 x8 fuel 0
def FP(dD:aM)(x7:aN)(x1 x2:List Int)(lH:fH)(x23:bO):Nat->Int->Option Bool|0,_=>none|JL+1,x3=>bif decide (x3<(x2.length:Int)) then BU (FP dD x7 x1 x2 lH x23 JL) x1 x2 x3 fuel 0 else Yw dD x7 x1 x2 lH x23
def SA(dD:aM)(x24:Int)(x25:Bool)(wE:bO):Option Bool:=bif x25 then bq (decide ((0:Int)<=IntKind.u64.wrap x24)) ((KN dD (iL .i64 1 (IntKind.u64.wrap x24))).bind λx27=>some (!x27)) else(rW wE).bind λx7=>(KJ dD x7 x24).bind λx28=>bif x28.2 !=0 then some false else(KC dD x7 x28.1).bind λx29=>bif x29.2 !=0 then some false else(Oa x28.1).bind λx1=>(Oi x28.1).bind λx2=>FP dD x7 x1 x2 x28.1 wE fuel 0
def TF(p1 p2:List Int)(p3:Int):Option Bool:=OU.bind λx30=>(bif !(!x30) then DN p1 else some aG).bind λx31=>(bif !(!x30||!x31) then DN p2 else some aG).bind λx32=>bif(!x30||!x31)||!x32 then OU.bind λxD=>some xD else(KV p1).bind λdD=>(ZJ dD p2 40).bind λx34=>(Gh p3 dD.gK).bind λx24=>bq (decide ((0:Int)<=IntKind.u64.wrap x24)) ((KN dD (iL .i64 1 (IntKind.u64.wrap x24))).bind λze=>bif !ze then SA dD x24 true (kX x34)else(Z6 dD (kX x34) x24).bind λxE=>SA dD x24 (!xE.1) (kX xE.2))
end Go.CP
namespace Go.CP
open Go
theorem gN{α β:Type} [Inhabited α](xs:List α)(i:Int)(k:α->Option β):bC xs i k=(idx xs i).bind k:=by unfold bC idx bq;cases decide (0<=i/\i<(xs.length:Int))<;>rfl
theorem aL5{α β:Type} [Inhabited α](g:Bool)(xs:List α)(i:Int)(k:α->Option β):nR g xs i k=bq (!g||decide (0<=i/\i<(xs.length:Int))) (k (xs.getD i.toNat aG)):=rfl
theorem aby{α β:Type} [Inhabited α]{g:Bool}{xs:List α}{i:Int}{k:α->Option β}(h:g=true->0<=i/\i<(xs.length:Int)):nR g xs i k=k (xs.getD i.toNat aG):=by rcases g with _|_;rfl;rw[aL5,eY (h rfl)];rfl
theorem VE{α β:Type} [Inhabited α]{g:Bool}{xs:List α}{i:Int}{k:α->Option β}(h:0<=i/\i<(xs.length:Int)):nR g xs i k=k (xs.getD i.toNat aG):=aby λ_=>h
def Ok{α:Type}(m:Option α)(P:α->Prop):Prop:=∃a,m=some a/\P a
section
variable {α β:Type} {P:α->Prop} {Q:β->Prop}
theorem Ok.bind{m:Option α}{k:α->Option β}(h:Ok m P)(hk:∀a,P a->Ok (k a) Q):Ok (m.bind k) Q:=by obtain⟨a,rfl,ha⟩:=h;exact hk a ha
theorem Ok.zy{m:Option α}{k:α->Option β}{a:α}(h:m=some a)(hk:Ok (k a) Q):Ok (m.bind k) Q:=by subst h;exact hk
theorem Ok.bq{b:Bool}{k:Option β}(h:b=true)(hk:Ok k Q):Ok (CP.bq b k) Q:=by subst h;exact hk
theorem Ok.cond{b:Bool}{x y:Option β}(hx:b=true->Ok x Q)(hy:b=false->Ok y Q):Ok (bif b then x else y) Q:=by cases b with|true=>exact hx rfl|false=>exact hy rfl
theorem Ok.some{a:β}(h:Q a):Ok (some a) Q:=⟨a,rfl,h⟩
theorem Ok.mono{P':α->Prop}{m:Option α}(h:Ok m P)(hp:∀a,P a->P' a):Ok m P':=let⟨a,e,p⟩:=h;⟨a,e,hp a p⟩
theorem Ok.idx [Inhabited α]{xs:List α}{i:Int}{k:α->Option β}(h:0<=i/\i<(xs.length:Int))(hk:∀x,x∈xs->xs.getD i.toNat aG=x->Ok (k x) Q):Ok ((CP.idx xs i).bind k) Q:=by
 have hlt:i.toNat<xs.length:=ah
 have e:CP.idx xs i=Option.some (xs.getD i.toNat aG):=by unfold CP.idx;rw[eY h];rfl
 refine Ok.zy e (hk _ ?_ rfl);simp[fD,hlt]
theorem Ok.eq{m:Option α}{a:α}(h:m=Option.some a)(hp:P a):Ok m P:=⟨a,h,hp⟩
end
theorem dT{p:Prop} [Decidable p](h:p):decide p=true:=eY h
theorem dF{p:Prop} [Decidable p](h:¬p:=by omega):decide p=false:=fV h
theorem bI{x:Int}(h1: -9223372036854775808<=x)(h2:x<9223372036854775808):aQ x=x:=by show IntKind.i64.wrap x=x;simp only[IntKind.wrap,IntKind.signed,IntKind.bits,l6,ow,ge_iff_le,show(2:Int)^64=18446744073709551616 from rfl,show(2:Int)^(64-1)=9223372036854775808 from rfl];split<;>omega
theorem bIZ{x:Int}(h1: -9223372036854775808<=x:=by omega)(h2:x<9223372036854775808:=by omega):aQ x=x:=bI h1 h2
def Hf(x:Int):Prop:= -9223372036854775808<=x/\x<9223372036854775808
end Go.CP
namespace Go.CP
open Go
variable [Fuel]
section
variable {t:eU}{b v n lo hi:Int}
structure TB(t:eU)(b:Int):Prop where
 el:∀x∈t.L,Hf x
 ln:t.L.length<=200
 lo:0<=t.At
 hi:t.At<=b
theorem TB.up{b':Int}(h:TB t b)(hb:b<=b'):TB t b':=⟨h.el,h.ln,h.lo,wR h.hi hb⟩
theorem VF(_:Hf v)(h1:1<=n:=by omega)(h2:n<=4611686018427387904:=by omega):Ok (Gh v n) (λr=>0<=r/\r<n):=by
 unfold Gh;(try simp only[gN,bG])
 have hn:n≠0:=ah
 refine Ok.bq (dT hn) (Ok.bq (dT hn) (Ok.some ?_));have a1:=P5 v (show 0<n by omega);have a2: -n<v.tmod n:=by have:=P5 (-v) (show 0<n by omega);rw[Int.neg_tmod]at this;omega
 rw[bIZ];exact⟨abP _ ah,P5 _ ah⟩
theorem wL(h:TB t b)(h1:1<=n:=by omega)(h2:n<=4611686018427387904:=by omega)(hb:b<=1000000000:=by omega):
  Ok (lX t n) (λr=>0<=r.1/\r.1<n/\TB r.2 (b+1)):=by
 have hlo:=h.lo;have hhi:=h.hi;unfold lX;(try simp only[gN,bG])
 refine Ok.cond (λ_=>Ok.some ⟨by show(0:Int)<=0;omega,by show(0:Int)<n;omega,h.up ah⟩) (λh0=> ?_);have hl:(t.L.length:Int)≠0:=aD h0
 have hlen:(0:Int)<(t.L.length:Int):=ah
 have m1:=abP (b:=(t.L.length:Int)) (a:=t.At) hlo;have m2:=P5 t.At hlen;refine Ok.bq (dT hl) (Ok.idx ⟨m1,m2⟩ (λx hx _=>Ok.bq (dT hl) ?_));refine Ok.bind (VF (h.el x hx)) (λy hy=> ?_);have d1:0<=t.At.tdiv (t.L.length:Int):=Int.tdiv_nonneg hlo ah;have d2:t.At.tdiv (t.L.length:Int)<=t.At:=Int.tdiv_le_self _ hlo;rw[bI (x:=t.At.tdiv _) ah ah,bI (x:=t.At.tdiv _*7) ah ah,bI (x:=y+_) ah ah];refine Ok.bind (VF ⟨ah,ah⟩ h1 h2) (λz hz=>Ok.some ⟨hz.1,hz.2,?_⟩);rw[bIZ];exact⟨h.el,h.ln,by show 0<=t.At+1;omega,by show t.At+1<=b+1;omega⟩
theorem Lf(h:TB t b)(h1:lo<=hi:=by omega)(h2: -1000000000<=lo:=by omega)(h3:hi<=1000000000:=by omega)(hb:b<=1000000000:=by omega):
  Ok (zm t lo hi) (λr=>lo<=r.1/\r.1<=hi/\TB r.2 (b+1)):=by
 unfold zm;(try simp only[gN,bG])
 rw[bI (x:=hi-lo) ah ah,bI (x:=hi-lo+1) ah ah];refine Ok.bind (wL h ah ah hb) (λr hr=>Ok.some ?_);rw[bIZ];exact⟨by show lo<=lo+r.1;omega,by show lo+r.1<=hi;omega,hr.2.2⟩
theorem abL(h:TB t b)(h1:1<=n:=by omega)(h2:n<=4611686018427387904:=by omega)(hb:b<=1000000000:=by omega):
  Ok (qH t n) (λr=>TB r.2 (b+1)):=by
 unfold qH;(try simp only[gN,bG])
 exact Ok.bind (wL h h1 h2 hb) (λr hr=>Ok.some hr.2.2)
theorem aHb(hv:Hf v)(h1:lo<=hi)(h2: -1000000000<=lo)(h3:hi<=1000000000):Ok (Zk v lo hi) (λr=>lo<=r/\r<=hi):=by
 unfold Zk;(try simp only[gN,bG])
 rw[bI (x:=hi-lo) ah ah,bI (x:=hi-lo+1) ah ah];refine Ok.bind (VF hv) (λr hr=>Ok.some ?_);rw[bIZ];omega
structure VT(regions:Int)(x:iG):Prop where
 load:1<=x.eD/\x.eD<=65536
 shadow:0<=x.kK/\x.kK<=x.eD
 prio:0<=x.gM/\x.gM<=9
 lag: -1<=x.WT/\x.WT<=1000
 allowed:1<=x.Ce/\x.Ce<2^regions.toNat
 group:0<=x.VQ/\x.VQ<=32
structure VC(c:aM):Prop where
 reg:1<=c.gK/\c.gK<=3
 zl:1<=c.iM.length/\c.iM.length<=8
 z:∀x∈c.iM,0<=x.Region/\x.Region<c.gK
 cl:1<=c.aK.length/\c.aK.length<=16
 oK:∀x∈c.aK,0<=x.uJ/\x.uJ<(c.iM.length:Int)/\1<=x.mg/\x.mg<=4194304
 tl:c.aH.length<=32
 t:∀x∈c.aH,VT c.gK x
 vl:1<=c.fG.length/\c.fG.length<=30
 v:∀x∈c.fG,0<=x.gP/\x.gP<=x.dP/\x.dP<=30
 v0:(c.fG.getD 0 aG).gP=0
 rl:1<=c.cZ.length/\c.cZ.length<=3
 r:∀x∈c.cZ,0<=x/\x<(c.iM.length:Int)
 ol:1<=c.jW.length/\c.jW.length<=9
 o:∀x∈c.jW,0<=x/\x<(c.iM.length:Int)
 blast:1<=c.oz/\c.oz<=16
 yt:1<=c.iQ/\c.iQ<=1000
 bake:0<=c.o7/\c.o7<=10000
 ro:c.cZ.length%2=1
theorem O7{α:Type}{xs:List α}{y:α}{P:α->Prop}(h:∀x∈xs,P x)(hy:P y):∀x∈xs++ [y],P x:=by
 intro x hx;rcases oU.1 hx with h1|h1
 .exact h x h1
 .rw[oV.1 h1];exact hy
structure Pre(x4:Int)(x5 x6 x7:Int×eU)(zs:List jA):Prop where
 reg:1<=x4/\x4<=3
 bl:1<=x5.1/\x5.1<=3
 le:2<=x6.1/\x6.1<=12
 ba:0<=x7.1/\x7.1<=8
 zl:1<=zs.length/\zs.length<=6
 z:∀x∈zs,0<=x.Region/\x.Region<x4
def ZC(n:Nat)(x:jy):Prop:=0<=x.uJ/\x.uJ<(n:Int)/\1<=x.mg/\x.mg<=4194304
theorem asL{x4:Int}{x5 x6 x7:Int×eU}{zs:List jA}{cs:List jy}{ts:List iG}{vs:List jg}{rs:List Int}(hp:Pre x4 x5 x6 x7 zs)
  (hcl:1<=cs.length/\cs.length<=7) (hc:∀x∈cs,ZC zs.length x) (htl:ts.length<=5) (ht:∀x∈ts,VT x4 x)
  (hvl:1<=vs.length/\vs.length<=3) (hv:∀x∈vs,0<=x.gP/\x.gP<=x.dP/\x.dP<=30) (hv0:(vs.getD 0 aG).gP=0)
  (hrl:1<=rs.length/\rs.length<=3) (hro:rs.length%2=1) (hr:∀x∈rs,0<=x/\x<(zs.length:Int)):
  ∀(m:Nat) (T:eU) (os:List Int) (i b:Int),TB T b->b+i<=100000->0<=i->(os.length:Int)+i<=9->1<=(os.length:Int)+i->(∀x∈os,0<=x/\x<(zs.length:Int))->i.toNat<m→
   Ok (Tn m T {gK:=x4,iM:=zs,aK:=cs,aH:=ts,fG:=vs,cZ:=rs,jW:=os,oz:=x5.1,iQ:=x6.1,o7:=x7.1} i) VC
 |0,_,_,_,_,_,_,_,_,_,_,hm=>absurd hm (kJ _)
 |m+1,T,os,i,b,hT,hb,hi,ho1,ho2,ho,hm=>by
  rw[Tn];dsimp only[List.length_cons,List.length_nil];have hzl:=hp.zl;have hT0:=hT.lo;have hT1:=hT.hi;refine Ok.cond (λh=> ?_) (λh=> ?_)
  .have h:=iX h;refine Ok.bind (wL hT) (λr hr'=>Ok.bq (dT (by show _<=140737488355328;omega)) ?_);rw[bIZ];exact asL hp hcl hc htl ht hvl hv hv0 hrl hro hr m _ _ _ (b+1) hr'.2.2 ah ah ay ay (O7 ho ⟨hr'.1,hr'.2.1⟩) ah
  .have h:=wO h;have hr1:=hp.reg;have hbl:=hp.bl;have hle:=hp.le;have hba:=hp.ba
   exact Ok.some ⟨hr1,⟨hzl.1,by show zs.length<=8;omega⟩,hp.z,⟨hcl.1,by show cs.length<=16;omega⟩,hc,by show ts.length<=32;omega,ht,⟨hvl.1,by show vs.length<=30;omega⟩,hv,hv0,⟨hrl.1,by show rs.length<=3;omega⟩,hr,
    ⟨by show 1<=os.length;omega,by show os.length<=9;omega⟩,ho,⟨by show 1<=x5.1;omega,by show x5.1<=16;omega⟩,⟨by show 1<=x6.1;omega,by show x6.1<=1000;omega⟩,⟨by show 0<=x7.1;omega,by show x7.1<=10000;omega⟩,hro⟩
theorem asK{x4:Int}{x5 x6 x7:Int×eU}{zs:List jA}{cs:List jy}{ts:List iG}{vs:List jg}(hp:Pre x4 x5 x6 x7 zs)
  (hcl:1<=cs.length/\cs.length<=7) (hc:∀x∈cs,ZC zs.length x) (htl:ts.length<=5) (ht:∀x∈ts,VT x4 x)
  (hvl:1<=vs.length/\vs.length<=3) (hv:∀x∈vs,0<=x.gP/\x.gP<=x.dP/\x.dP<=30) (hv0:(vs.getD 0 aG).gP=0):
  ∀(m:Nat) (T:eU) (rs:List Int) (i b:Int),TB T b->b+i<=50000->0<=i->(rs.length:Int)+i<=3->1<=(rs.length:Int)+i->((rs.length:Int)+i)%2=1->(∀x∈rs,0<=x/\x<(zs.length:Int))->i.toNat<m→
   Ok (Tp m T {gK:=x4,iM:=zs,aK:=cs,aH:=ts,fG:=vs,cZ:=rs,jW:=[],oz:=x5.1,iQ:=x6.1,o7:=x7.1} i) VC
 |0,_,_,_,_,_,_,_,_,_,_,_,hm=>absurd hm (kJ _)
 |m+1,T,rs,i,b,hT,hb,hi,ho1,ho2,ho3,ho,hm=>by
  rw[Tp];dsimp only[List.length_cons,List.length_nil];have hzl:=hp.zl;refine Ok.cond (λh=> ?_) (λh=> ?_)
  .have h:=iX h;refine Ok.bind (wL hT) (λr hr'=>Ok.bq (dT (by show _<=140737488355328;omega)) ?_);rw[bIZ];exact asK hp hcl hc htl ht hvl hv hv0 m _ _ _ (b+1) hr'.2.2 ah ah ay ay (by first|(simp;omega)|(simp only[qp,yQ,xW];omega)) (O7 ho ⟨hr'.1,hr'.2.1⟩) ah
  .have h:=wO h;refine Ok.bind (Lf hT) (λr hr'=> ?_);exact asL hp hcl hc htl ht hvl hv hv0 ⟨ah,ah⟩ ah ho fuel _ _ _ (b+1) hr'.2.2 ah ah ay ay aj aB
theorem asJ{x4:Int}{x5 x6 x7:Int×eU}{zs:List jA}{cs:List jy}{ts:List iG}(hp:Pre x4 x5 x6 x7 zs)
  (hcl:1<=cs.length/\cs.length<=7) (hc:∀x∈cs,ZC zs.length x) (htl:ts.length<=5) (ht:∀x∈ts,VT x4 x):
  ∀(m:Nat) (T:eU) (vs:List jg) (i b:Int),TB T b->b+2*i<=40000->0<=i->1<=vs.length->(vs.length:Int)+i<=3->(∀x∈vs,0<=x.gP/\x.gP<=x.dP/\x.dP<=30)->(vs.getD 0 aG).gP=0->i.toNat<m→
   Ok (Tq m T {gK:=x4,iM:=zs,aK:=cs,aH:=ts,fG:=vs,cZ:=[],jW:=[],oz:=x5.1,iQ:=x6.1,o7:=x7.1} i) VC
 |0,_,_,_,_,_,_,_,_,_,_,_,hm=>absurd hm (kJ _)
 |m+1,T,vs,i,b,hT,hb,hi,hv1,hv2,hv,hv0,hm=>by
  rw[Tq];dsimp only[List.length_cons,List.length_nil];refine Ok.cond (λh=> ?_) (λh=> ?_)
  .have h:=iX h;refine Ok.bind (wL hT) (λr hr=>Ok.bind (wL hr.2.2) (λq hq=>Ok.bq (dT (by show _<=140737488355328;omega)) ?_));rw[bIZ,bIZ];refine asJ hp hcl hc htl ht m _ _ _ (b+1+1) hq.2.2 ah ah aj ay (O7 hv ⟨hr.1,by show r.1<=r.1+q.1;omega,by show r.1+q.1<=30;omega⟩) ?_ ah;rw[fD,p9 ah,<-fD];exact hv0
  .have h:=wO h;refine Ok.bind (wL hT) (λr hr=> ?_);rw[bI (x:=2*r.1) ah ah,bIZ];exact asK hp hcl hc htl ht ⟨hv1,ah⟩ hv hv0 fuel _ _ _ (b+1) hr.2.2 ah ah ay ay (by simp only[xW];omega) aj aB
theorem aq6(h:1<=n/\n<=3):(0:Int)<=IntKind.u64.wrap n/\aQ (iL .i64 1 (IntKind.u64.wrap n)-1)=2^n.toNat-1:=by
 have:n=1\/n=2\/n=3:=ah
 rcases this with rfl|rfl|rfl<;>decide
theorem ar4(h:1<=n/\n<=3):(2:Int)<=2^n.toNat/\(2:Int)^n.toNat<=8:=by
 have:n=1\/n=2\/n=3:=ah
 rcases this with rfl|rfl|rfl<;>decide
theorem asI{x4:Int}{x5 x6 x7:Int×eU}{zs:List jA}{cs:List jy}(hp:Pre x4 x5 x6 x7 zs)
  (hcl:1<=cs.length/\cs.length<=7) (hc:∀x∈cs,ZC zs.length x):
  ∀(m:Nat) (T:eU) (ts:List iG) (i b:Int),TB T b->b+10*i<=30000->0<=i->(ts.length:Int)+i<=5->(∀x∈ts,VT x4 x)->i.toNat<m→
   Ok (KE m T {gK:=x4,iM:=zs,aK:=cs,aH:=ts,fG:=[],cZ:=[],jW:=[],oz:=x5.1,iQ:=x6.1,o7:=x7.1} i) VC
 |0,_,_,_,_,_,_,_,_,_,hm=>absurd hm (kJ _)
 |m+1,T,ts,i,b,hT,hb,hi,ht1,ht,hm=>by
  rw[KE];dsimp only[List.length_cons,List.length_nil];have ql:=hp.reg;obtain⟨s1,s2⟩:=aq6 ql;have hpw:=ar4 ql;refine Ok.cond (λh=> ?_) (λh=> ?_)
  .have h:=iX h;refine Ok.bind (Lf hT) (λr1 q1=> ?_);rw[bI (x:=r1.1+1) ah ah];refine Ok.bind (wL q1.2.2) (λr2 q2=> ?_);refine Ok.bind (wL q2.2.2) (λr3 q3=> ?_);refine Ok.bind (Lf q3.2.2) (λr4 q4=>Ok.bq (dT s1) ?_);refine Ok.bind (wL q4.2.2) (λr5 q5=> ?_);refine Ok.bind (abL q5.2.2) (λr6 q6=> ?_);refine Ok.bind (abL q6) (λr7 q7=> ?_);have fin:∀(al:Int) (T':eU) (b':Int),1<=al->al<2^x4.toNat->TB T' b'->b'<=b+8->Ok (Tk (KE m) {gK:=x4,iM:=zs,aK:=cs,aH:=ts,fG:=[],cZ:=[],jW:=[],oz:=x5.1,iQ:=x6.1,o7:=x7.1} i T' {eD:=r1.1,kK:=r2.1,gM:=r3.1,WT:=r4.1,Ce:=al,VQ:=r5.1,asw:=r6.1}) VC:=(by intro al T' b' h1 h2 h3 h4;unfold Tk;dsimp only[List.length_cons,List.length_nil];refine Ok.bq (dT (by show _<=140737488355328;omega)) ?_;rw[bIZ];exact asI hp hcl hc m _ _ _ b' h3 ah ah ay (O7 ht ⟨⟨q1.1,by show r1.1<=65536;omega⟩,⟨q2.1,by show r2.1<=r1.1;omega⟩,⟨q3.1,by show r3.1<=9;omega⟩,⟨q4.1,by show r4.1<=1000;omega⟩,⟨h1,h2⟩,⟨q5.1,by show r5.1<=32;omega⟩⟩) ah);refine Ok.cond (λ_=>Ok.bq (dT s1) ?_) (λ_=> ?_)
   .rw[s2];refine Ok.bind (Lf q7) (λr8 q8=> ?_);exact fin _ _ _ q8.1 ah q8.2.2 ah
   .rw[s2];exact fin _ _ _ ah ah q7 ah
  .have h:=wO h;refine Ok.bind (wL hT) (λr hr=>Ok.bind (wL hr.2.2) (λq hq=> ?_))
   exact asJ hp hcl hc ah ht fuel _ _ _ (b+1+1) hq.2.2 ah ah aj ay
    (by intro x hx;rw[oV.1 hx];exact⟨jh 0,hr.1,by show r.1<=30;omega⟩) rfl aB
theorem asH{x4:Int}{x5 x6 x7:Int×eU}{zs:List jA}(hp:Pre x4 x5 x6 x7 zs):
  ∀(m:Nat) (T:eU) (cs:List jy) (i b:Int),TB T b->b+2*(7-i)<=20000->0<=i->i<=7->(cs.length:Int)=i->(∀x∈cs,ZC zs.length x)->(7-i).toNat<m→
   Ok (Tt m T {gK:=x4,iM:=zs,aK:=cs,aH:=[],fG:=[],cZ:=[],jW:=[],oz:=x5.1,iQ:=x6.1,o7:=x7.1} i) VC
 |0,_,_,_,_,_,_,_,_,_,_,hm=>absurd hm (kJ _)
 |m+1,T,cs,i,b,hT,hb,hi,hi7,hcl,hc,hm=>by
  rw[Tt];dsimp only[List.length_cons,List.length_nil];have hzl:=hp.zl;have step:Ok (bif(!(decide (i<(zs.length:Int))))then qH T 2 else some (aG,T)) (λr=>TB r.2 (b+1)):=
   Ok.cond (λ_=>abL hT) (λ_=>Ok.some (hT.up ah))
  refine Ok.bind step (λr1 q1=> ?_);refine Ok.cond (λh=> ?_) (λh=> ?_)
  .have hlt:i<7:=(by simp only[pO,dQ,ow]at h;omega);have hz:(zs.length:Int)≠0:=ah;refine Ok.bq (dT hz) (Ok.bind (Lf q1) (λr2 q2=>Ok.bq (dT (by show _<=140737488355328;omega)) ?_));rw[bI (x:=r2.1*10) ah ah,bI (x:=i+1) ah ah]
   exact asH hp m _ _ _ (b+1+1) q2.2.2 ah ah ah ay
    (O7 hc ⟨abP _ ah,P5 _ ah,by show 1<=r2.1*10;omega,by show r2.1*10<=4194304;omega⟩) ah
  .have hge:(zs.length:Int)<=i:=(by simp only[nW,zx]at h;omega);refine Ok.bind (wL q1) (λr2 q2=> ?_);exact asI hp ⟨ah,ah⟩ hc fuel _ _ _ (b+1+1) q2.2.2 ah ah ay aj aB
theorem asG{x4:Int}{x5 x6 x7:Int×eU}(ql:1<=x4/\x4<=3)(h5:1<=x5.1/\x5.1<=3)(h6:2<=x6.1/\x6.1<=12)(h7:0<=x7.1/\x7.1<=8):
  ∀(m:Nat) (T:eU) (zs:List jA) (i b:Int),TB T b->b+(6-i)<=10000->0<=i->i<=6->(zs.length:Int)=i->(∀x∈zs,0<=x.Region/\x.Region<x4)->(6-i).toNat<m→
   Ok (Tv m T {gK:=x4,iM:=zs,aK:=[],aH:=[],fG:=[],cZ:=[],jW:=[],oz:=x5.1,iQ:=x6.1,o7:=x7.1} i) VC
 |0,_,_,_,_,_,_,_,_,_,_,hm=>absurd hm (kJ _)
 |m+1,T,zs,i,b,hT,hb,hi,hi6,hzl,hz,hm=>by
  rw[Tv];dsimp only[List.length_cons,List.length_nil];have step:Ok (bif(!(decide (i<x4)))then qH T 3 else some (aG,T)) (λr=>TB r.2 (b+1)):=
   Ok.cond (λ_=>abL hT) (λ_=>Ok.some (hT.up ah))
  refine Ok.bind step (λr1 q1=> ?_);refine Ok.cond (λh=> ?_) (λh=> ?_)
  .have hlt:i<6:=(by simp only[pO,dQ,ow]at h;omega);have h4:x4≠0:=ah;refine Ok.bq (dT h4) (Ok.bq (dT (by show _<=140737488355328;omega)) ?_);rw[bI (x:=i+1) ah ah];exact asG ql h5 h6 h7 m _ _ _ (b+1) q1 ah ah ah ay (O7 hz ⟨abP _ ah,P5 _ ah⟩) ah
  .have hge:x4<=i:=(by simp only[nW,zx]at h;omega);exact asH ⟨ql,h5,h6,h7,⟨ah,ah⟩,hz⟩ fuel _ _ _ (b+1) q1 ah ah ah aj aj aB
def JK(l:List Int):Prop:=(∀x∈l,Hf x)/\l.length<=200
theorem aH7{l:List Int}(h:JK l):Ok (KV l) VC:=by
 unfold KV U6;(try simp only[gN,bG])
 have hT:TB {L:=l,At:=0} 0:=⟨h.1,h.2,jh 0,jh 0⟩;refine Ok.zy rfl ?_;refine Ok.bind (wL hT) (λr3 q3=> ?_);rw[bIZ];refine Ok.bind (aHb ⟨ah,ah⟩ ah ah ah) (λr4 q4=> ?_);refine Ok.bind (Lf q3.2.2) (λr5 q5=> ?_);refine Ok.bind (Lf q5.2.2) (λr6 q6=> ?_);refine Ok.bind (wL q6.2.2) (λr7 q7=> ?_);exact asG q4 ⟨q5.1,q5.2.1⟩ ⟨q6.1,q6.2.1⟩ ⟨q7.1,ah⟩ fuel _ _ _ _ q7.2.2 ah ah ah aj aj aB
end
theorem idx_eq{α:Type} [Inhabited α]{xs:List α}{i:Int}(h:0<=i/\i<(xs.length:Int)):idx xs i=some (xs.getD i.toNat aG):=by unfold idx;rw[eY h];rfl
theorem jw{α:Type} [Inhabited α]{xs:List α}{i:Nat}(h:i<xs.length:=by omega):xs.getD i aG∈xs:=by simp[fD,h]
theorem Lv{x:Int}(h1:0<=x)(h2:x<18446744073709551616):IntKind.u64.wrap x=x:=by simp only[IntKind.wrap,IntKind.signed,IntKind.bits,nu,nH,mJ,show(2:Int)^64=18446744073709551616 from rfl];omega
def jG(c:aM)(i:Int):Int:=
 if 0<=i/\i<(c.aK.length:Int)then(c.iM.getD (c.aK.getD i.toNat aG).uJ.toNat aG).Region else -1
def hasB(set i:Int):Bool:=decide (0<=i/\i<62)&&decide (set / 2^i.toNat%2=1)
def oH(c:aM)(t cell:Int):Bool:=decide (0<=t/\t<(c.aH.length:Int))&&hasB (c.aH.getD t.toNat aG).Ce (jG c cell)
def tC(c:aM)(a b:Int):Bool:=decide (0<=jG c a)&&decide (0<=jG c b)&&(jG c a !=jG c b)
def j5(c:aM)(a b:Int):Bool:=decide (0<=a)&&decide (0<=b)&& !(tC c a b)
section
variable {c:aM}
theorem ag1(h:VC c){i:Int}(hi:0<=i/\i<(c.aK.length:Int)):0<=(c.aK.getD i.toNat aG).uJ/\(c.aK.getD i.toNat aG).uJ<(c.iM.length:Int):=
 let⟨a,b,_⟩:=h.oK _ (jw (by omega:i.toNat<c.aK.length));⟨a,b⟩
theorem aFM(h:VC c)(i:Int): -1<=jG c i/\jG c i<c.gK:=by
 have hr:=h.reg;unfold jG;split
 .rename_i hi;have hz:=ag1 h hi;have:=h.z _ (jw (by omega:((c.aK.getD i.toNat aG).uJ).toNat<c.iM.length));omega
 .omega
theorem agn(h:VC c)(i:Int):KF c i=some (jG c i):=by
 unfold KF agm jG;(try simp only[gN,bG])
 by_cases hi:0<=i/\i<(c.aK.length:Int)
 .have hz:=ag1 h hi;have e1:(decide (i<0)||decide ((c.aK.length:Int)<=i))=false:=ay
  rw[e1,bW hi];simp only[aX,idx_eq hi,bE];rw[fV ah];simp only[aX,idx_eq hz,bE]
 .have e1:(decide (i<0)||decide ((c.aK.length:Int)<=i))=true:=ay
  rw[e1,dn hi];rfl
theorem I4(h:VC c){i:Int}:AJ c i=some (jG c i):=by
 have hcl:=h.cl;have hzl:=h.zl;unfold AJ agC NN mZ jG;(try simp only[gN,bG])
 rw[bIZ,bIZ];by_cases hi:0<=i/\i<(c.aK.length:Int)
 .have hz:=ag1 h hi;have e1:(decide (0<=i)&&decide (i<=(c.aK.length:Int)-1))=true:=ay
  rw[bW hi];simp only[bE,e1,gI,aX,idx_eq hi];have e2:(decide (0<=(c.aK.getD i.toNat aG).uJ)&&decide ((c.aK.getD i.toNat aG).uJ<=(c.iM.length:Int)-1))=true:=by simp only[dQ,ow];omega
  simp only[e2,gI,aX,idx_eq hz,bE]
 .have e1:(decide (0<=i)&&decide (i<=(c.aK.length:Int)-1))=false:=ay
  rw[dn hi];simp only[bE,e1,jQ,aY];rfl
theorem fdiv_pow{s:Int}(_:0<=s)(n:Nat):s.fdiv (2^n)=s / 2^n:=asu _ (ajo (abO ak))
theorem UO{s i:Int}(hs:0<=s):I8 s i=some (hasB s i):=by
 unfold I8 hasB;(try simp only[gN,bG])
 by_cases hi:0<=i/\i<62
 .have e:(decide (0<=i)&&decide (i<62))=true:=ay
  rw[e,Lv hi.1 ah,eY hi.1,eY hi];simp only[gI,VK,bq,aY,l6,iJ,IntKind.bits];rw[Cm ah,fdiv_pow hs,asv (Int.ediv_nonneg hs (ajo (abO ak)))];have hm:=Int.emod_two_eq (s / 2^i.toNat);rcases hm with hm|hm<;>rw[hm]<;>rfl
 .have e:(decide (0<=i)&&decide (i<62))=false:=ay
  rw[e,fV hi];rfl
theorem and_one{s:Int}(h0:0<=s)(h1:s<9223372036854775808):je .i64 s 1=s%2:=by
 unfold je;have e1:(BitVec.ofInt IntKind.i64.bits s&&&BitVec.ofInt IntKind.i64.bits 1).toNat=s.toNat%2:=by
  show(BitVec.ofInt 64 s&&&BitVec.ofInt 64 1).toNat=_;rw[BitVec.toNat_and,ajm,ajm];have:(s%((2:Nat)^64:Nat)).toNat=s.toNat:=by have:s%((2:Nat)^64:Nat)=s:=Int.emod_eq_of_lt h0 ay;rw[this]
  rw[this];have h2:((1:Int)%((2:Nat)^64:Nat)).toNat=1:=rfl;rw[h2,Nat.and_one_is_mod]
 rw[e1];have:IntKind.i64.wrap ((s.toNat%2:Nat):Int)=((s.toNat%2:Nat):Int):=bIZ;rw[this];omega
end
section
variable {c:aM}
theorem ant(h:VC c){t:Int}(ht:0<=t/\t<(c.aH.length:Int)):0<=(c.aH.getD t.toNat aG).Ce/\(c.aH.getD t.toNat aG).Ce<8:=by have hv:=h.t _ (jw (by omega:t.toNat<c.aH.length));have:=hv.allowed;have:=ar4 h.reg;omega
theorem UQ(h:VC c)(t cell:Int):Gd c t cell=some (oH c t cell):=by
 unfold Gd oH;(try simp only[gN,bG])
 by_cases ht:0<=t/\t<(c.aH.length:Int)
 .have e:(decide (0<=t)&&decide (t<(c.aH.length:Int)))=true:=ay
  have ha:=ant h ht;rw[e,eY ht];simp only[VE ht,aY,agn h,UO ha.1,l6,bE]
 .have e:(decide (0<=t)&&decide (t<(c.aH.length:Int)))=false:=ay
  rw[e,fV ht];rfl
theorem anX(h:VC c)(a b:Int):Us c a b=some (tC c a b):=by
 unfold Us tC;(try simp only[gN,bG])
 simp only[agn h,bE]
theorem ahh(h:VC c)(a b:Int):IK c a b=some (j5 c a b):=by
 unfold IK j5;(try simp only[gN,bG])
 cases (decide (0<=a)&&decide (0<=b))with|true=>simp only[aY,anX h,bE]|false=>rfl
theorem anM(h:VC c)(a b:Int):Uh c a b=some (tC c a b):=by
 unfold Uh tC;(try simp only[gN,bG])
 simp only[I4 h,bE]
theorem ahg(h:VC c){s:aN}(hs:0<=s.eH)(i:Int):KP c s i=some (hasB s.eH (jG c i)):=by
 unfold KP;(try simp only[gN,bG])
 simp only[agn h,bE,UO hs]
end
def qg(l:List Int)(i n:Int):List Int:=if 0<=i/\i<(l.length:Int)then l.set i.toNat (l.getD i.toNat 0+n)else l
def book1(l:List Int)(t:bM)(d:iG):List Int:=
 if t.dZ then
  let l:=if t.fC then l else qg (qg l t.bL d.eD) t.dN d.eD
  qg (qg l t.bB d.kK) t.Next d.kK
 else l
def qA(c:aM)(ts:List bM):Nat->List Int->List Int
 |0,l=>l
 |k+1,l=>book1 (qA c ts k l) (ts.getD k aG) (c.aH.getD k aG)
def rZ(c:aM)(s:aN):List Int:=qA c s.aH s.aH.length (List.replicate c.aK.length 0)
theorem rF(l:List Int)(i n:Int):(qg l i n).length=l.length:=by unfold qg;split<;>simp
theorem aH4(l:List Int)(t:bM)(d:iG):(book1 l t d).length=l.length:=by
 unfold book1;split
 .split<;>simp[rF]
 .rfl
theorem aoK(c:aM)(ts:List bM)(k:Nat)(l:List Int):(qA c ts k l).length=l.length:=by induction k with|zero=>rfl|succ k ih=>rw[qA,aH4,ih]
theorem OI(c:aM)(s:aN):(rZ c s).length=c.aK.length:=by unfold rZ;rw[aoK];simp
def Bd(l:List Int)(b:Int):Prop:=∀x∈l,0<=x/\x<=b
theorem zn{l:List Int}{b i n:Int}(h:Bd l b)(hn:0<=n/\n<=65536):Bd (qg l i n) (b+65536):=by
 unfold qg;split
 .rename_i hi;intro x hx;rcases Gs hx with h1|h1
  .have:=h x h1;omega
  .have hm:=h _ (jw (by omega:i.toNat<l.length));have e:l.getD i.toNat 0=l.getD i.toNat aG:=rfl;rw[e]at h1;omega
 .intro x hx;have:=h x hx;omega
theorem aIT{l:List Int}{b:Int}{t:bM}{d:iG}(h:Bd l b)(hd:0<=d.eD/\d.eD<=65536/\0<=d.kK/\d.kK<=65536):Bd (book1 l t d) (b+262144):=by
 unfold book1;split
 .split
  .intro x hx;have:=zn (zn h ⟨hd.2.2.1,hd.2.2.2⟩) ⟨hd.2.2.1,hd.2.2.2⟩ x hx;omega
  .intro x hx;have:=zn (zn (zn (zn h ⟨hd.1,hd.2.1⟩) ⟨hd.1,hd.2.1⟩) ⟨hd.2.2.1,hd.2.2.2⟩) ⟨hd.2.2.1,hd.2.2.2⟩ x hx;omega
 .intro x hx;have:=h x hx;omega
theorem yM{c:aM}(h:VC c){k:Nat}(hk:k<c.aH.length):0<=(c.aH.getD k aG).eD/\(c.aH.getD k aG).eD<=65536/\0<=(c.aH.getD k aG).kK/\(c.aH.getD k aG).kK<=65536:=by have hv:=h.t _ (jw hk);have h1:=hv.load;have h2:=hv.shadow;omega
theorem aho{c:aM}(h:VC c){ts:List bM}{l:List Int}(hl:Bd l 0):∀k,k<=c.aH.length->Bd (qA c ts k l) (262144*k)
 |0,_=>by simpa[qA]using hl
 |k+1,hk=>by have:=aIT (t:=ts.getD k aG) (aho h (ts:=ts) hl k ah) (yM h (by omega:k<c.aH.length));intro x hx;have:=this x hx;push_cast;omega
theorem aH5{c:aM}(h:VC c){s:aN}(hl:s.aH.length=c.aH.length):Bd (rZ c s) 8388608:=by have htl:=h.tl;have:=aho h (ts:=s.aH) (l:=List.replicate c.aK.length 0) (by intro x hx;rw[Li hx];omega) s.aH.length ah;intro x hx;have:=this x hx;omega
theorem Bg{l:List Int}{b i n:Int}(h:Bd l b)(hb:b<=1000000000)(hn:0<=n/\n<=65536:=by omega):La l i n=some (qg l i n)/\Lb l i n=some (qg l i n):=by
 unfold La Lb qg;(try simp only[gN,bG])
 by_cases hi:0<=i/\i<(l.length:Int)
 .have e:(decide (0<=i)&&decide (i<(l.length:Int)))=true:=ay
  have hm:=h _ (jw (by omega:i.toNat<l.length));rw[e,bW hi];have e0:l.getD i.toNat 0=l.getD i.toNat aG:=rfl;simp only[aY,idx_eq hi,bE];rw[bIZ,e0];exact⟨rfl,rfl⟩
 .have e:(decide (0<=i)&&decide (i<(l.length:Int)))=false:=ay
  rw[e,dn hi];exact⟨rfl,rfl⟩
section
variable {c:aM} {s:aN}
theorem aoa(h:VC c)(hl:s.aH.length=c.aH.length){l0:List Int}(h0:Bd l0 0){k:Nat}(hk:k<s.aH.length):Bd (qA c s.aH k l0) 8388608:=by have htl:=h.tl;intro x hx;have:=aho h (ts:=s.aH) h0 k ah x hx;omega
theorem ano(h:VC c)(hl:s.aH.length=c.aH.length){l0:List Int}(h0:Bd l0 0):
  ∀(m k:Nat),s.aH.length-k<m->k<=s.aH.length->IG c s m (qA c s.aH k l0) (k:Int)=some (qA c s.aH s.aH.length l0)
 |0,_,hm,_=>absurd hm (kJ _)
 |m +1,k,hm,hk=>by
  have htl:=h.tl;rw[IG];(try simp only[gN,bG])
  by_cases hlt:k<s.aH.length
  .rw[eY (show(k:Int)<(s.aH.length:Int)by omega)];have i1:0<=(k:Int)/\(k:Int)<(s.aH.length:Int):=ah;have i2:0<=(k:Int)/\(k:Int)<(c.aH.length:Int):=ah;simp only[aY,idx_eq i1,idx_eq i2,bE,gL];have hb:=aoa h hl h0 hlt;have hd:=yM h (by omega:k<c.aH.length);have next:IG c s m (qA c s.aH (k+1) l0) (aQ ((k:Int)+1))=some (qA c s.aH s.aH.length l0):=by rw[bIZ];have:=ano h hl h0 m (k+1) ah ah;simpa using this
   simp only[qA]at next
   generalize hT:s.aH.getD k aG=t at next⊢
   generalize hD:c.aH.getD k aG=d at next hd⊢
   generalize hL:qA c s.aH k l0=l at next hb⊢
   unfold book1 at next
   unfold YG YF;(try simp only[gN,bG])
   rcases hp:t.dZ with _|_;simp only[hp,jQ,aY,nH,mJ]at next⊢;exact next
   simp only[hp,gI,aX,l5]at next⊢
   cases hs:t.fC with
   |true=>
    simp only[hs,gI,aX,l5]at next⊢
    have a1:=(Bg (i:=t.bB) hb ah ⟨hd.2.2.1,hd.2.2.2⟩).1;have b1:=zn (i:=t.bB) hb ⟨hd.2.2.1,hd.2.2.2⟩;have a2:=(Bg (i:=t.Next) b1 ah ⟨hd.2.2.1,hd.2.2.2⟩).1;simp only[a1,a2,bE,rF,abk,bq,aY];exact next
   |false=>
    simp only[hs,jQ,aY,nH,mJ]at next⊢
    have a1:=(Bg (i:=t.bL) hb ah ⟨hd.1,hd.2.1⟩).1;have b1:=zn (i:=t.bL) hb ⟨hd.1,hd.2.1⟩;have a2:=(Bg (i:=t.dN) b1 ah ⟨hd.1,hd.2.1⟩).1;have b2:=zn (i:=t.dN) b1 ⟨hd.1,hd.2.1⟩;have a3:=(Bg (i:=t.bB) b2 ah ⟨hd.2.2.1,hd.2.2.2⟩).1;have b3:=zn (i:=t.bB) b2 ⟨hd.2.2.1,hd.2.2.2⟩;have a4:=(Bg (i:=t.Next) b3 ah ⟨hd.2.2.1,hd.2.2.2⟩).1;simp only[a1,a2,a3,a4,bE,rF,abk,bq,aY];exact next
  .rw[fV (show¬(k:Int)<(s.aH.length:Int)by omega)];have:k=s.aH.length:=ah;subst this;rfl
theorem anz(h:VC c)(hl:s.aH.length=c.aH.length){l0:List Int}(h0:Bd l0 0):
  ∀(m k:Nat),s.aH.length-k<m->k<=s.aH.length->IJ c s (s.aH.length:Int) m (qA c s.aH k l0) (k:Int)=some (qA c s.aH s.aH.length l0)
 |0,_,hm,_=>absurd hm (kJ _)
 |m +1,k,hm,hk=>by
  have htl:=h.tl;rw[IJ];(try simp only[gN,bG])
  by_cases hlt:k<s.aH.length
  .rw[eY (show(k:Int)<(s.aH.length:Int)by omega)];have i1:0<=(k:Int)/\(k:Int)<(s.aH.length:Int):=ah;have i2:0<=(k:Int)/\(k:Int)<(c.aH.length:Int):=ah;simp only[aY,idx_eq i1,idx_eq i2,bE,gL];have hb:=aoa h hl h0 hlt;have hd:=yM h (by omega:k<c.aH.length);have next:IJ c s (s.aH.length:Int) m (qA c s.aH (k+1) l0) (aQ ((k:Int)+1))=some (qA c s.aH s.aH.length l0):=by rw[bIZ];have:=anz h hl h0 m (k+1) ah ah;simpa using this
   simp only[qA]at next
   generalize hT:s.aH.getD k aG=t at next⊢
   generalize hD:c.aH.getD k aG=d at next hd⊢
   generalize hL:qA c s.aH k l0=l at next hb⊢
   unfold book1 at next
   unfold YP YO agt;(try simp only[gN,bG])
   rcases hp:t.dZ with _|_;simp only[hp,jQ,aY,nH,mJ]at next⊢;exact next
   simp only[hp,gI,aX,l5,bE,l6]at next⊢
   cases hs:t.fC with
   |true=>
    simp only[hs,gI,aX,l5]at next⊢
    have a1:=(Bg (i:=t.bB) hb ah ⟨hd.2.2.1,hd.2.2.2⟩).2;have b1:=zn (i:=t.bB) hb ⟨hd.2.2.1,hd.2.2.2⟩;have a2:=(Bg (i:=t.Next) b1 ah ⟨hd.2.2.1,hd.2.2.2⟩).2;simp only[a1,a2,bE,rF,abk,bq,aY];exact next
   |false=>
    simp only[hs,jQ,aY,nH,mJ]at next⊢
    have a1:=(Bg (i:=t.bL) hb ah ⟨hd.1,hd.2.1⟩).2;have b1:=zn (i:=t.bL) hb ⟨hd.1,hd.2.1⟩;have a2:=(Bg (i:=t.dN) b1 ah ⟨hd.1,hd.2.1⟩).2;have b2:=zn (i:=t.dN) b1 ⟨hd.1,hd.2.1⟩;have a3:=(Bg (i:=t.bB) b2 ah ⟨hd.2.2.1,hd.2.2.2⟩).2;have b3:=zn (i:=t.bB) b2 ⟨hd.2.2.1,hd.2.2.2⟩;have a4:=(Bg (i:=t.Next) b3 ah ⟨hd.2.2.1,hd.2.2.2⟩).2;simp only[a1,a2,a3,a4,bE,rF,abk,bq,aY];exact next
  .rw[fV (show¬(k:Int)<(s.aH.length:Int)by omega)];have:k=s.aH.length:=ah;subst this;rfl
theorem aq1(n:Nat):Bd (List.replicate n 0) 0:=by intro x hx;rw[Li hx];omega
theorem aFK(h:VC c)(hl:s.aH.length=c.aH.length):Zm c s=some (rZ c s):=by
 have hcl:=h.cl;have htl:=h.tl;unfold Zm rZ;(try simp only[gN,bG])
 rw[eY ah];have:=ano h hl (aq1 c.aK.length) fuel 0 aB ah;simpa[bq,qA]using this
theorem Zy(h:VC c)(hl:s.aH.length=c.aH.length):KU c s=some (rZ c s):=by
 have hcl:=h.cl;have htl:=h.tl;unfold KU rZ agO;(try simp only[gN,bG])
 rw[eY ah];have:=anz h hl (aq1 c.aK.length) fuel 0 aB ah;simpa[bq,qA,ji,hl]using this
end
def sN(c:aM)(b:List Int):Nat->List Int
 |0=> []
 |k+1=>if(c.aK.getD k aG).mg<b.getD k 0 then sN c b k++ [(k:Int)]else sN c b k
def pQ(c:aM)(s:aN):List Int:=sN c (rZ c s) c.aK.length
theorem ahd(c:aM)(b:List Int):∀k,(sN c b k).length<=k
 |0=>gy 0
 |k+1=>by
  have:=ahd c b k;rw[sN];split
  .simp;omega
  .omega
section
variable {c:aM} {b:List Int}
theorem anJ(h:VC c)(hl:b.length=c.aK.length):∀(m k:Nat),c.aK.length - k<m->k<=c.aK.length->KM c b m (sN c b k) (k:Int)=some (sN c b c.aK.length)
 |0,_,hm,_=>absurd hm (kJ _)
 |m+1,k,hm,hk=>by
  have hcl:=h.cl;have hol:=ahd c b k;rw[KM];(try simp only[gN,bG])
  by_cases hlt:k<c.aK.length
  .rw[eY (show(k:Int)<(b.length:Int)by omega)];have i1:0<=(k:Int)/\(k:Int)<(b.length:Int):=ah;have i2:0<=(k:Int)/\(k:Int)<(c.aK.length:Int):=ah;simp only[aY,idx_eq i1,idx_eq i2,bE,gL];have next:KM c b m (sN c b (k+1)) (aQ ((k:Int)+1))=some (sN c b c.aK.length):=by rw[bIZ];have:=anJ h hl m (k+1) ah ah;simpa using this
   simp only[sN]at next
   unfold Y5;(try simp only[gN,bG])
   have e0:b.getD k 0=b.getD k aG:=rfl;rw[e0]at next
   by_cases hc:(c.aK.getD k aG).mg<b.getD k aG
   .rw[bW hc]at next
    rw[eY hc,eY (show((sN c b k).length+ [(k:Int)].length)*8<=140737488355328 by simp;omega)];exact next
   .rw[dn hc]at next
    rw[fV hc];exact next
  .rw[fV (show¬(k:Int)<(b.length:Int)by omega)];have:k=c.aK.length:=ah;subst this;rfl
theorem aHr(h:VC c){s:aN}(hl:s.aH.length=c.aH.length):ZX c s=some (pQ c s):=by
 have hcl:=h.cl;unfold ZX pQ;(try simp only[gN,bG])
 rw[aFK h hl];have:=anJ h (OI c s) fuel 0 aB ah;simpa[sN]using this
end
end Go.CP
