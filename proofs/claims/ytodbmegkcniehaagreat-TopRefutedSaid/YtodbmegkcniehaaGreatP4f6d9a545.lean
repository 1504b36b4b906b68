/- Models of the program's functions, printed by tx.py. -/
import Derived.Test.YtodbmegkcniehaaGreatP38e79fdd4
set_option linter.unusedVariables false
set_option linter.unusedSimpArgs false
namespace Go.CP
open Go
def amY:Option ak:=(some (⟨2,[⟨0⟩,⟨1⟩],[⟨0,9⟩,⟨1,9⟩],[⟨5,2,0,0,3,0,false⟩],[⟨0,0⟩],[0],[0],1,20,0⟩:ak))
def dH (p1 p2 p3:Int):Option Bool:=(some ((decide (p2<=p1))&&(decide (p1<=p3))))
def KT (p1:ak):Option Bool:=((dH p1.bK 1 4).bind λx1=>(((bif x1 then dH ((p1.kT.length:Nat):Int) 1 8 else some default)).bind λx2=>(((bif(x1&&x2)then dH ((p1.Cells.length:Nat):Int) 1 16 else some default)).bind λx3=>(((bif((x1&&x2)&&x3)then dH ((p1.bf.length:Nat):Int) 1 30 else some default)).bind λx4=>(((bif(((x1&&x2)&&x3)&&x4)then dH ((p1.bO.length:Nat):Int) 1 5 else some default)).bind λx5=>(((bif((((x1&&x2)&&x3)&&x4)&&x5)then dH ((p1.cB.length:Nat):Int) 1 9 else some default)).bind λx6=>(some ((((((x1&&x2)&&x3)&&x4)&&x5)&&x6)&&(decide (((p1.ah.length:Nat):Int)<=32))))))))))
def Ae (x1:Int) (x2:List Int) (x3:Int):Nat->Int->Option Bool|0,_=>none|fu1+1,x4=>(bif(decide (x4<x3))then(ixL x2 x4 λx5=>((dH x5 0 x1).bind λx6=>(bif(!x6)then(some false)else(Ae x1 x2 x3 fu1) (w64 (x4+1)))))else(some true))
def Af [Fuel] (p1:ak) (x1:Int) (x7:List Int) (x8:Int):Nat->Int->Option Bool|0,_=>none|fu2+1,x9=>(bif(decide (x9<x8))then(ixL x7 x9 Md=>((dH x10 0 x1).bind Vk=>(bif(!x11)then(some false)else(Af p1 x1 x7 x8 fu2) (w64 (x9+1)))))else Ae x1 p1.cB ((p1.cB.length:Nat):Int) fuel 0)
def Ag [Fuel] (p1:ak) (x1:Int) (x12:List bZ) (x13:Int):Nat->Int->Option Bool|0,_=>none|fu3+1,x14=>(bif(decide (x14<x13))then(ixL x12 x14 ady=>((dH x15.Zone 0 x1).bind agG=>(bif(!x16)then(some false)else(Ag p1 x1 x12 x13 fu3) (w64 (x14+1)))))else Af p1 x1 p1.bO ((p1.bO.length:Nat):Int) fuel 0)
def Ah [Fuel] (p1:ak) (x17:List dn) (x18:Int):Nat->Int->Option Bool|0,_=>none|fu4+1,x19=>(bif(decide (x19<x18))then(ixL x17 x19 amZ=>((dH x20.Region 0 (w64 (p1.bK - 1))).bind alk=>(bif(!x21)then(some false)else(Ah p1 x17 x18 fu4) (w64 (x19+1)))))else Ag p1 (w64 (((p1.kT.length:Nat):Int) - 1)) p1.Cells ((p1.Cells.length:Nat):Int) fuel 0)
def NH [Fuel] (p1:ak):Option Bool:=Ah p1 p1.kT ((p1.kT.length:Nat):Int) fuel 0
def Ai (p1:ak) (x1:List aY) (x2:Int):Nat->Int->Option Bool|0,_=>none|fu1+1,x3=>(bif(decide (x3<x2))then(ixL x1 x3 λx4=>(bif((((decide (x4.Low<0))||(decide (x4.High<x4.Low)))||(decide (30<x4.High)))||((x3==0)&&(x4.Low !=0)))then(some false)else(Ai p1 x1 x2 fu1) (w64 (x3+1))))else((dH p1.Bu 1 16).bind λx5=>(((bif x5 then dH p1.Lease 1 1000 else some default)).bind λx6=>(((bif(x5&&x6)then dH p1.UL 0 10000 else some default)).bind λx7=>(some ((x5&&x6)&&x7))))))
def Aj [Fuel] (p1:ak) (x8:List bZ) (x9:Int):Nat->Int->Option Bool|0,_=>none|fu2+1,x10=>(bif(decide (x10<x9))then(ixL x8 x10 Vk=>((dH x11.kS 1 4194304).bind UM=>(bif(!x12)then(some false)else(Aj p1 x8 x9 fu2) (w64 (x10+1)))))else Ai p1 p1.bf ((p1.bf.length:Nat):Int) fuel 0)
def NI [Fuel] (p1:ak):Option Bool:=Aj p1 p1.Cells ((p1.Cells.length:Nat):Int) fuel 0
def R9 [Fuel] (p1:ak):Option Int:=((KT p1).bind λx1=>(bif(!x1)then(some 2)else(((bif(!((Int.tmod ((p1.bO.length:Nat):Int) 2)==0))then NH p1 else some default)).bind λx2=>(((bif(!(((Int.tmod ((p1.bO.length:Nat):Int) 2)==0)||(!x2)))then NI p1 else some default)).bind λx3=>(bif((((Int.tmod ((p1.bO.length:Nat):Int) 2)==0)||(!x2))||(!x3))then(some 1)else(some 0))))))
def lg (p1 p2 p3:Int):Option Bool:=(some ((decide (p2<=p1))&&(decide (p1<=p3))))
def Bf (p1:aW) (p2:Int):Option Bool:=((lg p1.Load 1 65536).bind λx1=>(((bif x1 then lg p1.pJ 0 p1.Load else some default)).bind λx2=>(((bif(x1&&x2)then lg p1.Priority 0 9 else some default)).bind λx3=>(((bif((x1&&x2)&&x3)then lg p1.Lag (-1) 1000 else some default)).bind λx4=>(chk (!(((x1&&x2)&&x3)&&x4)||decide ((0:Int)<=(IntKind.u64.wrap p2))) (((bif(((x1&&x2)&&x3)&&x4)then lg p1.Allowed 1 (w64 ((CW .i64 1 (IntKind.u64.wrap p2)) - 1))else some default)).bind λx5=>(((bif((((x1&&x2)&&x3)&&x4)&&x5)then lg p1.sH 0 32 else some default)).bind λx6=>(some (((((x1&&x2)&&x3)&&x4)&&x5)&&x6)))))))))
def sQ (p1:ak) (x1:List aW) (x2:Int):Nat->Int->Option Int|0,_=>none|fu1+1,x3=>(bif(decide (x3<x2))then(ixL x1 x3 λx4=>((Bf x4 p1.bK).bind λx5=>(bif(!x5)then(some 1)else(sQ p1 x1 x2 fu1) (w64 (x3+1)))))else(some 0))
def ug [Fuel] (p1:ak):Option Int:=((R9 p1).bind λx6=>(bif(x6 !=0)then(some x6)else sQ p1 p1.ah ((p1.ah.length:Nat):Int) fuel 0))
def aiX:Option aZ:=(some (⟨([]:List Int),0⟩:aZ))
def Z4:Option aJ:=((aiX).bind λx1=>(some (⟨x1,0,(-1),([]:List aG)⟩:aJ)))
def Z5 (p1 p2:Int):Option (aj×Int):=(chk (!(!((decide (p2<1))||(decide (5<p2))))||decide (2≠(0:Int))) (bif(((((decide (p2<1))||(decide (5<p2)))||((Int.tmod p2 2)==0))||(decide (p1<0)))||(decide (p2<=p1)))then none else((Z4).bind λx1=>(some ((⟨x1,p1,p2,1,0,0,⟨0,0,0,0,0⟩,⟨0,0,0,0,0⟩⟩:aj),0)))))
def acC (p1:Int):Option (aL×Int):=(bif((decide (0<p1))||(0==0))then((Z5 0 p1).bind λx1=>(bif(x1.2 !=0)then none else(bif((decide (1<p1))||(1==0))then none else(some ((⟨[x1.1],([]:List aC),([]:List aA)⟩:aL),0)))))else none)
def uh (p1:(List dn)):Option (List dn):=(chk (decide ((([]:List dn).length+p1.length)*8<=room)) (some (([]:List dn)++p1)))
def uj (p1:(List bZ)):Option (List bZ):=(chk (decide ((([]:List bZ).length+p1.length)*16<=room)) (some (([]:List bZ)++p1)))
def qH (p1:(List aW)):Option (List aW):=(chk (decide ((([]:List aW).length+p1.length)*56<=room)) (some (([]:List aW)++p1)))
def pK (p1:(List aY)):Option (List aY):=(chk (decide ((([]:List aY).length+p1.length)*16<=room)) (some (([]:List aY)++p1)))
def zB (p1:(List Int)):Option (List Int):=(chk (decide ((([]:List Int).length+p1.length)*8<=room)) (some (([]:List Int)++p1)))
def XR (p1:ak):Option ak:=((uh p1.kT).bind λx1=>((uj p1.Cells).bind λx2=>((qH p1.ah).bind λx3=>((pK p1.bf).bind λx4=>((zB p1.bO).bind λx5=>((zB p1.cB).bind λx6=>(some (⟨p1.bK,x1,x2,x3,x4,x5,x6,p1.Bu,p1.Lease,p1.UL⟩:ak))))))))
def um (x1:Int):Nat->aB->Int->Option aB|0,_,_=>none|fu1+1,x2,x3=>(bif(decide (x3<x1))then(ixL x2.Cells x3 λx4=>(dZ (x2.Cells.set (Int.toNat x3) {x4 with Mode:=1}) λx5=>(um x1 fu1) {x2 with Cells:=x5} (w64 (x3+1))))else(some x2))
def uo [Fuel] (x6:Int):Nat->aB->Int->Option aB|0,_,_=>none|fu2+1,x7,x8=>(bif(decide (x8<x6))then(ixL x7.ah x8 λx9=>(dZ (x7.ah.set (Int.toNat x8) (⟨false,false,(-1),(-1),(-1),(-1),0,⟨(-1),0,0,0,0⟩⟩:ay)) Md=>(uo x6 fu2) {x7 with ah:=x10} (w64 (x8+1))))else um ((x7.Cells.length:Nat):Int) fuel x7 0)
def QB [Fuel] (p1:ak):Option aB:=(chk (decide ((0:Int)<=((p1.ah.length:Nat):Int)/\(((p1.ah.length:Nat):Int):Int)<=((p1.ah.length:Nat):Int)/\(((p1.ah.length:Nat):Int):Int)<=9223372036854775807/\(((p1.ah.length:Nat):Int):Int)*88<=140737488355328)) (chk (decide ((0:Int)<=((p1.Cells.length:Nat):Int)/\(((p1.Cells.length:Nat):Int):Int)<=((p1.Cells.length:Nat):Int)/\(((p1.Cells.length:Nat):Int):Int)<=9223372036854775807/\(((p1.Cells.length:Nat):Int):Int)*32<=140737488355328)) (uo (((List.replicate (Int.toNat ((p1.ah.length:Nat):Int)) (default:ay)).length:Nat):Int) fuel (⟨0,0,(List.replicate (Int.toNat ((p1.ah.length:Nat):Int)) (default:ay)),(List.replicate (Int.toNat ((p1.Cells.length:Nat):Int)) (default:aH)),1,0,0,0⟩:aB) 0)))
def aft [Fuel] (p1:ak):Option (aV×Int):=((ug p1).bind λx1=>(bif(x1 !=0)then none else((acC ((p1.bO.length:Nat):Int)).bind λx2=>(bif(x2.2 !=0)then none else((XR p1).bind λx3=>(chk (decide ((0:Int)<=((x3.bO.length:Nat):Int))) ((QB x3).bind λx4=>(some ((⟨x3,{x2.1 with au:= [(x2.1.au.getD 0 default)]},(w64 ((CW .i64 1 ((x3.bO.length:Nat):Int)) - 1)),x4⟩:aV),0)))))))))
def afu:Option dM:=(some (⟨([]:List (Value×Value))⟩:dM))
def afv:Option aO:=(some (⟨([]:List bP),([]:List bH),0⟩:aO))
def Z6:Option aM:=(some (⟨⟨⟨0,⟨0,0,0,ByteArray.empty⟩⟩,⟨0,⟨0,0,0,ByteArray.empty⟩⟩,⟨0,⟨0,0,0,ByteArray.empty⟩⟩,⟨0,⟨0,0,0,ByteArray.empty⟩⟩,⟨0,⟨0,0,0,ByteArray.empty⟩⟩,⟨0,⟨0,0,0,ByteArray.empty⟩⟩,⟨0,⟨0,0,0,ByteArray.empty⟩⟩,⟨0,⟨0,0,0,ByteArray.empty⟩⟩⟩⟩:aM))
def afw:Option oJ:=((afu).bind λx1=>((afv).bind λx2=>((Z6).bind λx3=>(some (⟨x1,x2,x3⟩:oJ)))))
def aiY (p1:Int):Option bT:=(some (⟨p1,0,([]:List aT)⟩:bT))
def adz (p1 p2:Int):Option dN:=((afw).bind λx1=>((aiY p1).bind λx2=>(some (⟨p1,p2,([]:List aU),x1,x2⟩:dN))))
def LA (p1:dN):Option (Unit×dN):=(some ((),p1))
def oF (p1:dN):Option Unit:=(some ())
theorem WZ [Fuel] (p1:dN):LA p1=(oF p1).bind λx=>some (x,p1):=by
  simp only [LA,oF,d9,bU,eu,eB,eD,bV,bW,bX]
def cO (p1:(List ay)):Option (List ay):=(chk (decide ((([]:List ay).length+p1.length)*88<=room)) (some (([]:List ay)++p1)))
def dG (p1:(List aH)):Option (List aH):=(chk (decide ((([]:List aH).length+p1.length)*32<=room)) (some (([]:List aH)++p1)))
def Fe (p1:aV):Option (aB×aV):=((cO p1.state.ah).bind λx1=>((dG p1.state.Cells).bind λx2=>(some ({p1.state with ah:=x1,Cells:=x2},{p1 with net:={p1.net with au:= [(p1.net.au.getD 0 default)]}}))))
def uI (p1:aV):Option aB:=((cO p1.state.ah).bind λx1=>((dG p1.state.Cells).bind λx2=>(some {p1.state with ah:=x1,Cells:=x2})))
theorem SL [Fuel] (p1:aV):Fe p1=(uI p1).bind λx=>some (x,{p1 with net:={p1.net with au:= [(p1.net.au.getD 0 default)]}}):=by
  simp only [Fe,uI,d9,bU,eu,eB,eD,bV,bW,bX]
def afx [Fuel] (p1:ak):Option xJ:=((aft p1).bind λx1=>(bif(false||(x1.2 !=0))then none else(bif(decide (0<((p1.ah.length:Nat):Int)))then(bif(decide (0<((p1.Cells.length:Nat):Int)))then((adz 0 0).bind λx2=>(((bif(!false)then oF x2 else some default)).bind λx3=>(bif(false&&true)then none else(bif(decide (1<((p1.Cells.length:Nat):Int)))then((adz 1 0).bind λx4=>(((bif(!false)then oF x4 else some default)).bind λx5=>(bif(false&&true)then none else(bif(decide (2<((p1.Cells.length:Nat):Int)))then none else(bif(decide (1<((p1.ah.length:Nat):Int)))then none else((uI {x1.1 with net:={x1.1.net with au:= [(x1.1.net.au.getD 0 default)]}}).bind λx6=>(bif((((x6.ah.length:Nat):Int) !=((p1.ah.length:Nat):Int))||(((x6.Cells.length:Nat):Int) !=((p1.Cells.length:Nat):Int)))then none else(some (⟨p1,{x1.1 with net:={x1.1.net with au:= [(x1.1.net.au.getD 0 default)]}},[[x2,x4]],([]:List bE),([]:List l9),0⟩:xJ)))))))))else none))))else none)else none)))
def QC (p1:Int):Option Int:=(chk (decide (0<=(oI .u32 p1 24)/\(oI .u32 p1 24)<(((ByteArray.mk #[0,1,1,2,1,2,2,3,1,2,2,3,2,3,3,4,1,2,2,3,2,3,3,4,2,3,3,4,3,4,4,5,1,2,2,3,2,3,3,4,2,3,3,4,3,4,4,5,2,3,3,4,3,4,4,5,3,4,4,5,4,5,5,6,1,2,2,3,2,3,3,4,2,3,3,4,3,4,4,5,2,3,3,4,3,4,4,5,3,4,4,5,4,5,5,6,2,3,3,4,3,4,4,5,3,4,4,5,4,5,5,6,3,4,4,5,4,5,5,6,4,5,5,6,5,6,6,7,1,2,2,3,2,3,3,4,2,3,3,4,3,4,4,5,2,3,3,4,3,4,4,5,3,4,4,5,4,5,5,6,2,3,3,4,3,4,4,5,3,4,4,5,4,5,5,6,3,4,4,5,4,5,5,6,4,5,5,6,5,6,6,7,2,3,3,4,3,4,4,5,3,4,4,5,4,5,5,6,3,4,4,5,4,5,5,6,4,5,5,6,5,6,6,7,3,4,4,5,4,5,5,6,4,5,5,6,5,6,6,7,4,5,5,6,5,6,6,7,5,6,6,7,6,7,7,8]).size:Nat):Int))) (chk (decide (0<=(jK .u32 (oI .u32 p1 16) 255)/\(jK .u32 (oI .u32 p1 16) 255)<(((ByteArray.mk #[0,1,1,2,1,2,2,3,1,2,2,3,2,3,3,4,1,2,2,3,2,3,3,4,2,3,3,4,3,4,4,5,1,2,2,3,2,3,3,4,2,3,3,4,3,4,4,5,2,3,3,4,3,4,4,5,3,4,4,5,4,5,5,6,1,2,2,3,2,3,3,4,2,3,3,4,3,4,4,5,2,3,3,4,3,4,4,5,3,4,4,5,4,5,5,6,2,3,3,4,3,4,4,5,3,4,4,5,4,5,5,6,3,4,4,5,4,5,5,6,4,5,5,6,5,6,6,7,1,2,2,3,2,3,3,4,2,3,3,4,3,4,4,5,2,3,3,4,3,4,4,5,3,4,4,5,4,5,5,6,2,3,3,4,3,4,4,5,3,4,4,5,4,5,5,6,3,4,4,5,4,5,5,6,4,5,5,6,5,6,6,7,2,3,3,4,3,4,4,5,3,4,4,5,4,5,5,6,3,4,4,5,4,5,5,6,4,5,5,6,5,6,6,7,3,4,4,5,4,5,5,6,4,5,5,6,5,6,6,7,4,5,5,6,5,6,6,7,5,6,6,7,6,7,7,8]).size:Nat):Int))) (chk (decide (0<=(jK .u32 (oI .u32 p1 8) 255)/\(jK .u32 (oI .u32 p1 8) 255)<(((ByteArray.mk #[0,1,1,2,1,2,2,3,1,2,2,3,2,3,3,4,1,2,2,3,2,3,3,4,2,3,3,4,3,4,4,5,1,2,2,3,2,3,3,4,2,3,3,4,3,4,4,5,2,3,3,4,3,4,4,5,3,4,4,5,4,5,5,6,1,2,2,3,2,3,3,4,2,3,3,4,3,4,4,5,2,3,3,4,3,4,4,5,3,4,4,5,4,5,5,6,2,3,3,4,3,4,4,5,3,4,4,5,4,5,5,6,3,4,4,5,4,5,5,6,4,5,5,6,5,6,6,7,1,2,2,3,2,3,3,4,2,3,3,4,3,4,4,5,2,3,3,4,3,4,4,5,3,4,4,5,4,5,5,6,2,3,3,4,3,4,4,5,3,4,4,5,4,5,5,6,3,4,4,5,4,5,5,6,4,5,5,6,5,6,6,7,2,3,3,4,3,4,4,5,3,4,4,5,4,5,5,6,3,4,4,5,4,5,5,6,4,5,5,6,5,6,6,7,3,4,4,5,4,5,5,6,4,5,5,6,5,6,6,7,4,5,5,6,5,6,6,7,5,6,6,7,6,7,7,8]).size:Nat):Int))) (chk (decide (0<=(jK .u32 p1 255)/\(jK .u32 p1 255)<(((ByteArray.mk #[0,1,1,2,1,2,2,3,1,2,2,3,2,3,3,4,1,2,2,3,2,3,3,4,2,3,3,4,3,4,4,5,1,2,2,3,2,3,3,4,2,3,3,4,3,4,4,5,2,3,3,4,3,4,4,5,3,4,4,5,4,5,5,6,1,2,2,3,2,3,3,4,2,3,3,4,3,4,4,5,2,3,3,4,3,4,4,5,3,4,4,5,4,5,5,6,2,3,3,4,3,4,4,5,3,4,4,5,4,5,5,6,3,4,4,5,4,5,5,6,4,5,5,6,5,6,6,7,1,2,2,3,2,3,3,4,2,3,3,4,3,4,4,5,2,3,3,4,3,4,4,5,3,4,4,5,4,5,5,6,2,3,3,4,3,4,4,5,3,4,4,5,4,5,5,6,3,4,4,5,4,5,5,6,4,5,5,6,5,6,6,7,2,3,3,4,3,4,4,5,3,4,4,5,4,5,5,6,3,4,4,5,4,5,5,6,4,5,5,6,5,6,6,7,3,4,4,5,4,5,5,6,4,5,5,6,5,6,6,7,4,5,5,6,5,6,6,7,5,6,6,7,6,7,7,8]).size:Nat):Int))) (some (IntKind.i64.wrap (IntKind.u8.wrap ((IntKind.u8.wrap ((IntKind.u8.wrap ((aeo (ByteArray.mk #[0,1,1,2,1,2,2,3,1,2,2,3,2,3,3,4,1,2,2,3,2,3,3,4,2,3,3,4,3,4,4,5,1,2,2,3,2,3,3,4,2,3,3,4,3,4,4,5,2,3,3,4,3,4,4,5,3,4,4,5,4,5,5,6,1,2,2,3,2,3,3,4,2,3,3,4,3,4,4,5,2,3,3,4,3,4,4,5,3,4,4,5,4,5,5,6,2,3,3,4,3,4,4,5,3,4,4,5,4,5,5,6,3,4,4,5,4,5,5,6,4,5,5,6,5,6,6,7,1,2,2,3,2,3,3,4,2,3,3,4,3,4,4,5,2,3,3,4,3,4,4,5,3,4,4,5,4,5,5,6,2,3,3,4,3,4,4,5,3,4,4,5,4,5,5,6,3,4,4,5,4,5,5,6,4,5,5,6,5,6,6,7,2,3,3,4,3,4,4,5,3,4,4,5,4,5,5,6,3,4,4,5,4,5,5,6,4,5,5,6,5,6,6,7,3,4,4,5,4,5,5,6,4,5,5,6,5,6,6,7,4,5,5,6,5,6,6,7,5,6,6,7,6,7,7,8]) (oI .u32 p1 24))+(aeo (ByteArray.mk #[0,1,1,2,1,2,2,3,1,2,2,3,2,3,3,4,1,2,2,3,2,3,3,4,2,3,3,4,3,4,4,5,1,2,2,3,2,3,3,4,2,3,3,4,3,4,4,5,2,3,3,4,3,4,4,5,3,4,4,5,4,5,5,6,1,2,2,3,2,3,3,4,2,3,3,4,3,4,4,5,2,3,3,4,3,4,4,5,3,4,4,5,4,5,5,6,2,3,3,4,3,4,4,5,3,4,4,5,4,5,5,6,3,4,4,5,4,5,5,6,4,5,5,6,5,6,6,7,1,2,2,3,2,3,3,4,2,3,3,4,3,4,4,5,2,3,3,4,3,4,4,5,3,4,4,5,4,5,5,6,2,3,3,4,3,4,4,5,3,4,4,5,4,5,5,6,3,4,4,5,4,5,5,6,4,5,5,6,5,6,6,7,2,3,3,4,3,4,4,5,3,4,4,5,4,5,5,6,3,4,4,5,4,5,5,6,4,5,5,6,5,6,6,7,3,4,4,5,4,5,5,6,4,5,5,6,5,6,6,7,4,5,5,6,5,6,6,7,5,6,6,7,6,7,7,8]) (jK .u32 (oI .u32 p1 16) 255))))+(aeo (ByteArray.mk #[0,1,1,2,1,2,2,3,1,2,2,3,2,3,3,4,1,2,2,3,2,3,3,4,2,3,3,4,3,4,4,5,1,2,2,3,2,3,3,4,2,3,3,4,3,4,4,5,2,3,3,4,3,4,4,5,3,4,4,5,4,5,5,6,1,2,2,3,2,3,3,4,2,3,3,4,3,4,4,5,2,3,3,4,3,4,4,5,3,4,4,5,4,5,5,6,2,3,3,4,3,4,4,5,3,4,4,5,4,5,5,6,3,4,4,5,4,5,5,6,4,5,5,6,5,6,6,7,1,2,2,3,2,3,3,4,2,3,3,4,3,4,4,5,2,3,3,4,3,4,4,5,3,4,4,5,4,5,5,6,2,3,3,4,3,4,4,5,3,4,4,5,4,5,5,6,3,4,4,5,4,5,5,6,4,5,5,6,5,6,6,7,2,3,3,4,3,4,4,5,3,4,4,5,4,5,5,6,3,4,4,5,4,5,5,6,4,5,5,6,5,6,6,7,3,4,4,5,4,5,5,6,4,5,5,6,5,6,6,7,4,5,5,6,5,6,6,7,5,6,6,7,6,7,7,8]) (jK .u32 (oI .u32 p1 8) 255))))+(aeo (ByteArray.mk #[0,1,1,2,1,2,2,3,1,2,2,3,2,3,3,4,1,2,2,3,2,3,3,4,2,3,3,4,3,4,4,5,1,2,2,3,2,3,3,4,2,3,3,4,3,4,4,5,2,3,3,4,3,4,4,5,3,4,4,5,4,5,5,6,1,2,2,3,2,3,3,4,2,3,3,4,3,4,4,5,2,3,3,4,3,4,4,5,3,4,4,5,4,5,5,6,2,3,3,4,3,4,4,5,3,4,4,5,4,5,5,6,3,4,4,5,4,5,5,6,4,5,5,6,5,6,6,7,1,2,2,3,2,3,3,4,2,3,3,4,3,4,4,5,2,3,3,4,3,4,4,5,3,4,4,5,4,5,5,6,2,3,3,4,3,4,4,5,3,4,4,5,4,5,5,6,3,4,4,5,4,5,5,6,4,5,5,6,5,6,6,7,2,3,3,4,3,4,4,5,3,4,4,5,4,5,5,6,3,4,4,5,4,5,5,6,4,5,5,6,5,6,6,7,3,4,4,5,4,5,5,6,4,5,5,6,5,6,6,7,4,5,5,6,5,6,6,7,5,6,6,7,6,7,7,8]) (jK .u32 p1 255))))))))))
def GJ (p1:Int):Option Int:=(some (jK .i64 (IntKind.i64.wrap (IntKind.u64.wrap ((IntKind.u64.wrap ((IntKind.u64.wrap ((jK .u64 (IntKind.u64.wrap ((oI .u64 (IntKind.u64.wrap ((jK .u64 (oI .u64 (IntKind.u64.wrap ((jK .u64 (oI .u64 p1 1) 6148914691236517205)+(jK .u64 p1 6148914691236517205))) 2) 3689348814741910323)+(jK .u64 (IntKind.u64.wrap ((jK .u64 (oI .u64 p1 1) 6148914691236517205)+(jK .u64 p1 6148914691236517205))) 3689348814741910323))) 4)+(IntKind.u64.wrap ((jK .u64 (oI .u64 (IntKind.u64.wrap ((jK .u64 (oI .u64 p1 1) 6148914691236517205)+(jK .u64 p1 6148914691236517205))) 2) 3689348814741910323)+(jK .u64 (IntKind.u64.wrap ((jK .u64 (oI .u64 p1 1) 6148914691236517205)+(jK .u64 p1 6148914691236517205))) 3689348814741910323))))) 1085102592571150095)+(oI .u64 (jK .u64 (IntKind.u64.wrap ((oI .u64 (IntKind.u64.wrap ((jK .u64 (oI .u64 (IntKind.u64.wrap ((jK .u64 (oI .u64 p1 1) 6148914691236517205)+(jK .u64 p1 6148914691236517205))) 2) 3689348814741910323)+(jK .u64 (IntKind.u64.wrap ((jK .u64 (oI .u64 p1 1) 6148914691236517205)+(jK .u64 p1 6148914691236517205))) 3689348814741910323))) 4)+(IntKind.u64.wrap ((jK .u64 (oI .u64 (IntKind.u64.wrap ((jK .u64 (oI .u64 p1 1) 6148914691236517205)+(jK .u64 p1 6148914691236517205))) 2) 3689348814741910323)+(jK .u64 (IntKind.u64.wrap ((jK .u64 (oI .u64 p1 1) 6148914691236517205)+(jK .u64 p1 6148914691236517205))) 3689348814741910323))))) 1085102592571150095) 8)))+(oI .u64 (IntKind.u64.wrap ((jK .u64 (IntKind.u64.wrap ((oI .u64 (IntKind.u64.wrap ((jK .u64 (oI .u64 (IntKind.u64.wrap ((jK .u64 (oI .u64 p1 1) 6148914691236517205)+(jK .u64 p1 6148914691236517205))) 2) 3689348814741910323)+(jK .u64 (IntKind.u64.wrap ((jK .u64 (oI .u64 p1 1) 6148914691236517205)+(jK .u64 p1 6148914691236517205))) 3689348814741910323))) 4)+(IntKind.u64.wrap ((jK .u64 (oI .u64 (IntKind.u64.wrap ((jK .u64 (oI .u64 p1 1) 6148914691236517205)+(jK .u64 p1 6148914691236517205))) 2) 3689348814741910323)+(jK .u64 (IntKind.u64.wrap ((jK .u64 (oI .u64 p1 1) 6148914691236517205)+(jK .u64 p1 6148914691236517205))) 3689348814741910323))))) 1085102592571150095)+(oI .u64 (jK .u64 (IntKind.u64.wrap ((oI .u64 (IntKind.u64.wrap ((jK .u64 (oI .u64 (IntKind.u64.wrap ((jK .u64 (oI .u64 p1 1) 6148914691236517205)+(jK .u64 p1 6148914691236517205))) 2) 3689348814741910323)+(jK .u64 (IntKind.u64.wrap ((jK .u64 (oI .u64 p1 1) 6148914691236517205)+(jK .u64 p1 6148914691236517205))) 3689348814741910323))) 4)+(IntKind.u64.wrap ((jK .u64 (oI .u64 (IntKind.u64.wrap ((jK .u64 (oI .u64 p1 1) 6148914691236517205)+(jK .u64 p1 6148914691236517205))) 2) 3689348814741910323)+(jK .u64 (IntKind.u64.wrap ((jK .u64 (oI .u64 p1 1) 6148914691236517205)+(jK .u64 p1 6148914691236517205))) 3689348814741910323))))) 1085102592571150095) 8))) 16)))+(oI .u64 (IntKind.u64.wrap ((IntKind.u64.wrap ((jK .u64 (IntKind.u64.wrap ((oI .u64 (IntKind.u64.wrap ((jK .u64 (oI .u64 (IntKind.u64.wrap ((jK .u64 (oI .u64 p1 1) 6148914691236517205)+(jK .u64 p1 6148914691236517205))) 2) 3689348814741910323)+(jK .u64 (IntKind.u64.wrap ((jK .u64 (oI .u64 p1 1) 6148914691236517205)+(jK .u64 p1 6148914691236517205))) 3689348814741910323))) 4)+(IntKind.u64.wrap ((jK .u64 (oI .u64 (IntKind.u64.wrap ((jK .u64 (oI .u64 p1 1) 6148914691236517205)+(jK .u64 p1 6148914691236517205))) 2) 3689348814741910323)+(jK .u64 (IntKind.u64.wrap ((jK .u64 (oI .u64 p1 1) 6148914691236517205)+(jK .u64 p1 6148914691236517205))) 3689348814741910323))))) 1085102592571150095)+(oI .u64 (jK .u64 (IntKind.u64.wrap ((oI .u64 (IntKind.u64.wrap ((jK .u64 (oI .u64 (IntKind.u64.wrap ((jK .u64 (oI .u64 p1 1) 6148914691236517205)+(jK .u64 p1 6148914691236517205))) 2) 3689348814741910323)+(jK .u64 (IntKind.u64.wrap ((jK .u64 (oI .u64 p1 1) 6148914691236517205)+(jK .u64 p1 6148914691236517205))) 3689348814741910323))) 4)+(IntKind.u64.wrap ((jK .u64 (oI .u64 (IntKind.u64.wrap ((jK .u64 (oI .u64 p1 1) 6148914691236517205)+(jK .u64 p1 6148914691236517205))) 2) 3689348814741910323)+(jK .u64 (IntKind.u64.wrap ((jK .u64 (oI .u64 p1 1) 6148914691236517205)+(jK .u64 p1 6148914691236517205))) 3689348814741910323))))) 1085102592571150095) 8)))+(oI .u64 (IntKind.u64.wrap ((jK .u64 (IntKind.u64.wrap ((oI .u64 (IntKind.u64.wrap ((jK .u64 (oI .u64 (IntKind.u64.wrap ((jK .u64 (oI .u64 p1 1) 6148914691236517205)+(jK .u64 p1 6148914691236517205))) 2) 3689348814741910323)+(jK .u64 (IntKind.u64.wrap ((jK .u64 (oI .u64 p1 1) 6148914691236517205)+(jK .u64 p1 6148914691236517205))) 3689348814741910323))) 4)+(IntKind.u64.wrap ((jK .u64 (oI .u64 (IntKind.u64.wrap ((jK .u64 (oI .u64 p1 1) 6148914691236517205)+(jK .u64 p1 6148914691236517205))) 2) 3689348814741910323)+(jK .u64 (IntKind.u64.wrap ((jK .u64 (oI .u64 p1 1) 6148914691236517205)+(jK .u64 p1 6148914691236517205))) 3689348814741910323))))) 1085102592571150095)+(oI .u64 (jK .u64 (IntKind.u64.wrap ((oI .u64 (IntKind.u64.wrap ((jK .u64 (oI .u64 (IntKind.u64.wrap ((jK .u64 (oI .u64 p1 1) 6148914691236517205)+(jK .u64 p1 6148914691236517205))) 2) 3689348814741910323)+(jK .u64 (IntKind.u64.wrap ((jK .u64 (oI .u64 p1 1) 6148914691236517205)+(jK .u64 p1 6148914691236517205))) 3689348814741910323))) 4)+(IntKind.u64.wrap ((jK .u64 (oI .u64 (IntKind.u64.wrap ((jK .u64 (oI .u64 p1 1) 6148914691236517205)+(jK .u64 p1 6148914691236517205))) 2) 3689348814741910323)+(jK .u64 (IntKind.u64.wrap ((jK .u64 (oI .u64 p1 1) 6148914691236517205)+(jK .u64 p1 6148914691236517205))) 3689348814741910323))))) 1085102592571150095) 8))) 16))) 32)))) 127))
def uJ (p1:Int):Option Int:=((GJ p1).bind λx1=>(some x1))
def Fg (p1:aV):Option (Bool×aV):=((uJ (IntKind.u64.wrap p1.up)).bind λx1=>(some ((decide (((p1.config.bO.length:Nat):Int)<(w64 (2*x1)))),{p1 with net:={p1.net with au:= [(p1.net.au.getD 0 default)]}})))
def uK (p1:aV):Option Bool:=((uJ (IntKind.u64.wrap p1.up)).bind λx1=>(some (decide (((p1.config.bO.length:Nat):Int)<(w64 (2*x1))))))
theorem SN [Fuel] (p1:aV):Fg p1=(uK p1).bind λx=>some (x,{p1 with net:={p1.net with au:= [(p1.net.au.getD 0 default)]}}):=by
  simp only [Fg,uK,d9,bU,eu,eB,eD,bV,bW,bX]
def Bv (p1:Int):Option dD:=(some (⟨0,(w64 (p1 - 1))⟩:dD))
def fI (x1:dR):Option (dR×Bool):=(some (x1,true))
def xL (p1:Int) (x2:dD) (x3:dR) (x4:Bool):Option (dR×Bool):=(bif x4 then fI x3 else(bif(p1==16)then fI {x3 with n:=x2}else(some ((⟨⟨0,0⟩,⟨0,0⟩,⟨0,0⟩,⟨0,0⟩,⟨0,0⟩,⟨0,0⟩⟩:dR),false))))
def xM (p1:Int) (p2:fG) (x5 x6 x7 x2:dD) (x3:dR) (x8:Bool):Option (dR×Bool):=(bif x8 then fI {x3 with cell:=x5,n:=x6}else(bif(p1==12)then fI {x3 with n:=x6}else(bif(p1==13)then((Bv p2.regions).bind λx9=>fI {x3 with other:=x9,n:=x7})else(bif(p1==14)then xL p1 x2 x3 (p1==14)else xL p1 x2 x3 (p1==15)))))
def xO (p1:Int) (p2:fG) (x10 x5 x6 x7 x2:dD) (x3:dR) (x11:Bool):Option (dR×Bool):=(bif x11 then fI {x3 with wX:=x10,cell:=x5}else(bif(p1==7)then fI {x3 with wX:=x10}else(bif(p1==8)then fI {x3 with wX:=x10,n:=x7}else(bif(p1==9)then fI {x3 with cell:=x5,n:=(⟨1,3⟩:dD)}else(bif(p1==10)then xM p1 p2 x5 x6 x7 x2 x3 (p1==10)else xM p1 p2 x5 x6 x7 x2 x3 (p1==11))))))
def KU (p1:Int) (p2:fG):Option (dR×Bool):=((Bv p2.tenants).bind Md=>((Bv p2.cells).bind λx5=>((Bv p2.versions).bind λx6=>(bif(p1==1)then fI (⟨x10,x5,⟨(-1),(w64 (p2.cells - 1))⟩,⟨0,0⟩,⟨0,0⟩,⟨0,0⟩⟩:dR)else(bif(p1==2)then fI (⟨x10,x5,⟨(-1),(-1)⟩,⟨1,1048576⟩,⟨0,1073741824⟩,x6⟩:dR)else(bif(p1==3)then fI (⟨x10,⟨(-1),(-1)⟩,⟨(-1),(-1)⟩,⟨1,1048576⟩,⟨0,0⟩,⟨0,0⟩⟩:dR)else(bif(p1==4)then fI (⟨x10,⟨(-1),(w64 (p2.cells - 1))⟩,⟨(-1),(-1)⟩,⟨0,0⟩,⟨0,0⟩,⟨0,0⟩⟩:dR)else(bif(p1==5)then xO p1 p2 x10 x5 x6 (⟨0,1⟩:dD) (⟨0,1073741824⟩:dD) (⟨⟨(-1),(-1)⟩,⟨(-1),(-1)⟩,⟨(-1),(-1)⟩,⟨0,0⟩,⟨0,0⟩,⟨0,0⟩⟩:dR) (p1==5)else xO p1 p2 x10 x5 x6 (⟨0,1⟩:dD) (⟨0,1073741824⟩:dD) (⟨⟨(-1),(-1)⟩,⟨(-1),(-1)⟩,⟨(-1),(-1)⟩,⟨0,0⟩,⟨0,0⟩,⟨0,0⟩⟩:dR) (p1==6)))))))))
def kZ (p1:dD) (p2:Int):Option Bool:=(some ((decide (p1.low<=p2))&&(decide (p2<=p1.high))))
def Ji (p1:aA) (p2:fG):Option Bool:=((KU p1.Kind p2).bind λx1=>(bif((!x1.2)||((p1.Kind==1)&&(p1.Other==p1.Cell)))then(some false)else(((bif((decide (0<=p1.Tick))&&(decide (p1.Tick<=1073741824)))then kZ x1.1.wX p1.aD else some default)).bind λx2=>(((bif(((decide (0<=p1.Tick))&&(decide (p1.Tick<=1073741824)))&&x2)then kZ x1.1.cell p1.Cell else some default)).bind λx3=>(((bif((((decide (0<=p1.Tick))&&(decide (p1.Tick<=1073741824)))&&x2)&&x3)then kZ x1.1.other p1.Other else some default)).bind λx4=>(((bif(((((decide (0<=p1.Tick))&&(decide (p1.Tick<=1073741824)))&&x2)&&x3)&&x4)then kZ x1.1.epoch p1.Epoch else some default)).bind λx5=>(((bif((((((decide (0<=p1.Tick))&&(decide (p1.Tick<=1073741824)))&&x2)&&x3)&&x4)&&x5)then kZ x1.1.ticks p1.From else some default)).bind λx6=>(((bif(((((((decide (0<=p1.Tick))&&(decide (p1.Tick<=1073741824)))&&x2)&&x3)&&x4)&&x5)&&x6)then kZ x1.1.ticks p1.Until else some default)).bind λx7=>(((bif((((((((decide (0<=p1.Tick))&&(decide (p1.Tick<=1073741824)))&&x2)&&x3)&&x4)&&x5)&&x6)&&x7)then kZ x1.1.n p1.N else some default)).bind λx8=>(some (((((((((decide (0<=p1.Tick))&&(decide (p1.Tick<=1073741824)))&&x2)&&x3)&&x4)&&x5)&&x6)&&x7)&&x8)))))))))))
def Js (p1:aA):Option Bool:=((Ji p1 (⟨32,16,4,30⟩:fG)).bind λx1=>(some x1))
def NJ (p1:ak) (p2:aA):Option Bool:=((Js p2).bind λx1=>(((bif x1 then Ji p2 (⟨((p1.ah.length:Nat):Int),((p1.Cells.length:Nat):Int),p1.bK,((p1.bf.length:Nat):Int)⟩:fG)else some default)).bind λx2=>(some (x1&&x2))))
def qY (p1:aB) (p2:Int):Option Int:=(bif((decide (p2<0))||(decide (((p1.Cells.length:Nat):Int)<=p2)))then(some 0)else(ixL p1.Cells p2 λx1=>(some x1.Mode)))
def Bw (p1:ak) (p2:Int):Option Int:=((dH p2 0 (w64 (((p1.Cells.length:Nat):Int) - 1))).bind λx1=>(bif(!x1)then(some (-1))else(ixL p1.Cells p2 λx2=>(some x2.Zone))))
def Fh (p1:ak) (p2:Int):Option Int:=((dH p2 0 (w64 (((p1.kT.length:Nat):Int) - 1))).bind λx1=>(bif(!x1)then(some (-1))else(ixL p1.kT p2 λx2=>(some x2.Region))))
def j6 (p1:ak) (p2:Int):Option Int:=((Bw p1 p2).bind λx1=>((Fh p1 x1).bind λx2=>(some x2)))
def Ak (p1 p2:Int):Option Bool:=(chk (!((decide (0<=p2))&&(decide (p2<64)))||decide ((0:Int)<=p2)) (some (((decide (0<=p2))&&(decide (p2<64)))&&((jK .i64 (oI .i64 p1 p2) 1)==1))))
def xP (p1:ak) (p2:aB) (p3:Int):Option Bool:=((j6 p1 p3).bind λx1=>((Ak p2.bg x1).bind λx2=>(some x2)))
def wu (p1:ak) (p2 p3:Int):Option Bool:=((j6 p1 p3).bind λx1=>((lg p2 0 (w64 (((p1.ah.length:Nat):Int) - 1))).bind λx2=>(ixG (x2&&(decide (0<=x1))) p1.ah p2 λx3=>(chk (!(x2&&(decide (0<=x1)))||decide ((0:Int)<=(IntKind.u64.wrap x1))) (some ((x2&&(decide (0<=x1)))&&((jK .i64 (oI .i64 x3.Allowed (IntKind.u64.wrap x1)) 1)==1)))))))
def Cg (p1:ak) (p2 p3:Int):Option Bool:=((j6 p1 p2).bind λx1=>((j6 p1 p3).bind λx2=>(some (((decide (0<=x1))&&(decide (0<=x2)))&&(x1 !=x2)))))
def Fj (p1:ak) (p2 p3:Int):Option Bool:=(((bif(p3 !=(-1))then Cg p1 p2 p3 else some default)).bind λx1=>(some ((p3 !=(-1))&&(!x1))))
def FX (x1:Bool):Option Int:=(bif x1 then(some 11)else(some 0))
def FY (p1:ak) (p3:aA) (x2 x3:Bool):Option Int:=(bif x3 then(some 12)else((wu p1 p3.aD p3.Cell).bind λx4=>(bif(!x4)then(some 11)else(((bif x2 then wu p1 p3.aD p3.Other else some default)).bind λx5=>(bif(x2&&(!x5))then FX (x2&&(!x5))else((Fj p1 p3.Cell p3.Other).bind λx6=>FX x6))))))
def FZ (p1:ak) (p2:aB) (p3:aA) (x2 x7:Bool):Option Int:=(bif x7 then(some 6)else((xP p1 p2 p3.Cell).bind λx8=>(bif x8 then FY p1 p3 x2 x8 else(((bif x2 then xP p1 p2 p3.Other else some default)).bind λx9=>FY p1 p3 x2 (x2&&x9)))))
def Jt (p1:ak) (p2:aB) (p3:aA):Option Int:=(ixL p2.ah p3.aD Md=>(bif x10.Placed then(some 4)else((qY p2 p3.Cell).bind Vk=>(bif(x11 !=1)then FZ p1 p2 p3 (p3.Other !=(-1)) (x11 !=1)else(((bif(p3.Other !=(-1))then qY p2 p3.Other else some default)).bind UM=>FZ p1 p2 p3 (p3.Other !=(-1)) ((p3.Other !=(-1))&&(x12 !=1)))))))
def vH (x1:Bool):Option Int:=(bif x1 then(some 11)else(some 0))
def vJ (p1:ak) (p2:aB) (p3:aA) (x2:ay) (x3:Bool):Option Int:=(bif x3 then(some 5)else((qY p2 p3.Cell).bind λx4=>(bif(x4 !=1)then(some 6)else((xP p1 p2 p3.Cell).bind λx5=>(bif x5 then(some 12)else((wu p1 p3.aD p3.Cell).bind λx6=>(bif(!x6)then vH (!x6)else((Cg p1 p3.Cell x2.Home).bind λx7=>(bif(!x7)then vH (!x7)else((Fj p1 p3.Cell x2.Target).bind λx8=>vH x8))))))))))
def C8 (p1:ak) (p2:aB) (p3:aA):Option Int:=(ixL p2.ah p3.aD λx2=>(bif(!x2.Placed)then(some 4)else(bif(p3.Cell==(-1))then(some 0)else(bif(p3.Cell==x2.Home)then vJ p1 p2 p3 x2 (p3.Cell==x2.Home)else(bif(p3.Cell==x2.aN)then vJ p1 p2 p3 x2 (p3.Cell==x2.aN)else vJ p1 p2 p3 x2 (p3.Cell==x2.Target))))))
def Ju (p1:aB) (p2:aA):Option Int:=(ixL p1.ah p2.aD λx1=>(bif(!x1.Placed)then(some 4)else(bif(p2.Cell !=x1.Next)then(some 5)else((qY p1 p2.Cell).bind λx2=>(bif(x2==3)then(some 6)else(some 0))))))
def vK (x1:Bool):Option Int:=(bif x1 then(some 11)else(some 0))
def vN (p1:ak) (p2:aB) (p3:aA) (x2:ay) (x3:Bool):Option Int:=(bif x3 then(some 5)else((qY p2 p3.Cell).bind λx4=>(bif(x4 !=1)then(some 6)else((xP p1 p2 p3.Cell).bind λx5=>(bif x5 then(some 12)else((wu p1 p3.aD p3.Cell).bind λx6=>(bif(!x6)then vK (!x6)else((Fj p1 p3.Cell x2.aN).bind λx7=>(bif x7 then vK x7 else((Fj p1 p3.Cell x2.Next).bind λx8=>vK x8))))))))))
def vQ (p1:ak) (p2:aB) (p3:aA) (x2:ay) (x9:Bool):Option Int:=(bif x9 then(some 4)else(bif(p3.Cell==x2.Home)then vN p1 p2 p3 x2 (p3.Cell==x2.Home)else(bif(p3.Cell==x2.aN)then vN p1 p2 p3 x2 (p3.Cell==x2.aN)else vN p1 p2 p3 x2 (p3.Cell==x2.Next))))
def C9 (p1:ak) (p2:aB) (p3:aA):Option Int:=(ixL p2.ah p3.aD λx2=>(bif(!x2.Placed)then vQ p1 p2 p3 x2 (!x2.Placed)else(bif x2.Aa then vQ p1 p2 p3 x2 x2.Aa else vQ p1 p2 p3 x2 (x2.Target !=(-1)))))
def Da (p1:aB) (p2:aA):Option Int:=(ixL p1.ah p2.aD λx1=>(bif((!x1.Placed)||(x1.Target==(-1)))then(some 4)else(some 0)))
def IK (p2:aA) (x1:ay) (x2:Bool):Option Int:=(bif x2 then(some 4)else(bif(decide (p2.Tick<x1.Window.Until))then(some 9)else(some 0)))
def Mj (p1:aB) (p2:aA):Option Int:=(ixL p1.ah p2.aD λx1=>(bif(p2.N==0)then(bif(!x1.Aa)then(some 4)else((qY p1 x1.Home).bind λx3=>(bif(x3==3)then(some 6)else(some 0))))else(bif(!x1.Placed)then IK p2 x1 (!x1.Placed)else IK p2 x1 x1.Aa)))
def F3 (x1:Bool):Option Int:=(bif x1 then(some 9)else(some 0))
def wz (p3:aA) (x2:ay) (x3 x4:Bool):Option Int:=(bif x4 then(some 9)else(bif(decide (p3.From<x2.Window.Until))then F3 (decide (p3.From<x2.Window.Until))else F3 ((!x3)&&(decide (p3.Tick<x2.Window.Until)))))
def F4 (p1:ak) (p3:aA) (x2:ay) (x3 x5:Bool):Option Int:=(bif x5 then(some 8)else(bif(decide (p3.From<p3.Tick))then wz p3 x2 x3 (decide (p3.From<p3.Tick))else(bif(decide ((w64 (p3.Tick+p1.Lease))<p3.From))then wz p3 x2 x3 (decide ((w64 (p3.Tick+p1.Lease))<p3.From))else(bif(decide (p3.Until<=p3.From))then wz p3 x2 x3 (decide (p3.Until<=p3.From))else wz p3 x2 x3 (decide (p1.Lease<(w64 (p3.Until - p3.From))))))))
def F5 (p1:ak) (p3:aA) (x2:ay) (x6:aH) (x3 x7:Bool):Option Int:=(bif x7 then(some 6)else(bif((p3.Epoch !=(w64 (x2.Epoch+1)))&&(!(x3&&(p3.Epoch==x2.Epoch))))then(some 7)else(bif(p3.N !=x6.Running)then F4 p1 p3 x2 x3 (p3.N !=x6.Running)else F4 p1 p3 x2 x3 (x6.Running !=x6.Wanted))))
def Al (p1:ak) (p3:aA) (x2:ay) (x6:aH) (x3 x8:Bool):Option Int:=(bif x8 then(some 4)else(bif(((!x3)&&(p3.Cell !=x2.aN))&&(p3.Cell !=x2.Target))then(some 5)else(bif(x6.Mode==3)then F5 p1 p3 x2 x6 x3 (x6.Mode==3)else F5 p1 p3 x2 x6 x3 ((x6.Mode==2)&&(!x3)))))
def Bz (p1:ak) (p2:aB) (p3:aA):Option Int:=(ixL p2.ah p3.aD λx2=>(ixL p2.Cells p3.Cell λx6=>(bif(!x2.Placed)then Al p1 p3 x2 x6 (p3.Cell==x2.Home) (!x2.Placed)else Al p1 p3 x2 x6 (p3.Cell==x2.Home) (x2.Aa&&(p3.Cell !=x2.aN)))))
def QD (p1:aB) (p2:aA):Option Int:=(ixL p1.ah p2.aD λx1=>(bif(!x1.Placed)then(some 4)else(bif(p2.Epoch !=x1.Epoch)then(some 7)else(some 0))))
def Mk (p1:aB) (p2:aA):Option Int:=(ixL p1.Cells p2.Cell λx1=>(bif(x1.Mode==p2.N)then(some 4)else(some 0)))
def sS (p1:ak) (p2:Int):Option aY:=(bif((decide (p2<0))||(decide (((p1.bf.length:Nat):Int)<=p2)))then(some (⟨0,0⟩:aY))else(ixL p1.bf p2 λx1=>(some x1)))
def yN (Ik:(List Int)->Int->Option (List Int)) (x1:Int) (x2:List Int):Option (List Int):=Ik x2 (w64 (x1+1))
def jD (p1:aB) (x3:List aH) (x4:Int):Nat->(List Int)->Int->Option (List Int)|0,_,_=>none|fu1+1,x5,x1=>(bif(decide (x1<x4))then(ixL x3 x1 λx6=>((Ak p1.jV x6.Running).bind λx7=>(((bif(!(!x7))then Ak p1.jV x6.Wanted else some default)).bind λx8=>(bif((!x7)||(!x8))then(chk (decide ((x5.length+ [x1].length)*8<=room)) (yN (jD p1 x3 x4 fu1) x1 (x5++ [x1])))else yN (jD p1 x3 x4 fu1) x1 x5))))else(some x5))
def F6 [Fuel] (p1:aB):Option (List Int):=jD p1 p1.Cells ((p1.Cells.length:Nat):Int) fuel ([]:List Int) 0
def IL (O4:Int->Int->Option Int) (x1 x2:Int):Option Int:=O4 x2 (w64 (x1+1))
def mZ (p1:ak) (p3:aA) (x3:List Int) (x4:Int):Nat->Int->Int->Option Int|0,_,_=>none|fu1+1,x5,x1=>(bif(decide (x1<x4))then(ixL x3 x1 λx6=>(bif(x6 !=p3.Cell)then IL (mZ p1 p3 x3 x4 fu1) x1 (w64 (x5+1))else IL (mZ p1 p3 x3 x4 fu1) x1 x5))else(bif(decide (p1.Bu<=x5))then(some 14)else(some 0)))
def IQ [Fuel] (p1:ak) (p2:aB) (p3:aA) (x7:Bool):Option Int:=(bif x7 then(some 0)else(bif(p2.bg !=0)then(some 12)else((F6 p2).bind λx3=>mZ p1 p3 x3 ((x3.length:Nat):Int) fuel 0 0)))
def IU [Fuel] (p1:ak) (p2:aB) (p3:aA) (x8:aH) (x9:Bool):Option Int:=(bif x9 then(some 13)else(bif(x8.Running==p3.N)then IQ p1 p2 p3 (x8.Running==p3.N)else((Ak p2.jV p3.N).bind Md=>IQ p1 p2 p3 x10)))
def Ml [Fuel] (p1:ak) (p2:aB) (p3:aA):Option Int:=(ixL p2.Cells p3.Cell λx8=>((sS p1 p3.N).bind Vk=>(bif(x8.Wanted==p3.N)then(some 4)else(bif(decide (p2.Low<x11.Low))then IU p1 p2 p3 x8 (decide (p2.Low<x11.Low))else IU p1 p2 p3 x8 (decide (x11.High<p2.High))))))
def oZ (p2:aA) (x1:List ay) (x2:Int):Nat->Int->Option Int|0,_=>none|fu1+1,x3=>(bif(decide (x3<x2))then(ixL x1 x3 λx4=>(bif((x4.Window.Cell==p2.Cell)&&(decide (p2.Tick<x4.Window.Until)))then(some 9)else(oZ p2 x1 x2 fu1) (w64 (x3+1))))else(some 0))
def IV [Fuel] (p1:aB) (p2:aA) (x5:Bool):Option Int:=(bif x5 then(some 4)else((Ak p1.jV p2.N).bind λx6=>(bif((!x6)&&(p1.bg !=0))then(some 12)else oZ p2 p1.ah ((p1.ah.length:Nat):Int) fuel 0)))
def Mq [Fuel] (p1:aB) (p2:aA):Option Int:=(ixL p1.Cells p2.Cell λx7=>(bif(x7.Wanted !=p2.N)then IV p1 p2 (x7.Wanted !=p2.N)else IV p1 p2 (x7.Running==x7.Wanted)))
def ng (p1:ak) (p3:aA) (x1:List aH) (x2:Int):Nat->Int->Option Int|0,_=>none|fu1+1,x3=>(bif(decide (x3<x2))then(ixL x1 x3 λx4=>(bif((((x4.Mode !=3)&&(x4.Running==p3.N))&&(x4.Wanted==p3.N))&&(decide (p1.UL<=(w64 (p3.Tick - x4.Since)))))then(some 0)else(ng p1 p3 x1 x2 fu1) (w64 (x3+1))))else(some 15))
def Jv [Fuel] (p1:ak) (p2:aB) (p3:aA):Option Int:=((Ak p2.jV p3.N).bind λx5=>(bif x5 then(some 4)else ng p1 p3 p2.Cells ((p2.Cells.length:Nat):Int) fuel 0))
def rV (p1:aB) (p2:aA):Option Int:=((Ak p1.bg p2.Other).bind λx1=>(bif(x1==(p2.N==1))then(some 4)else(some 0)))
def lu (p1:ak) (p2:aB) (x1:List aH) (x2:Int):Nat->Int->Option Int|0,_=>none|fu1+1,x3=>(bif(decide (x3<x2))then(ixL x1 x3 λx4=>((sS p1 x4.Running).bind λx5=>(((bif(!(decide (x5.High<=p2.High)))then sS p1 x4.Wanted else some default)).bind λx6=>(bif((decide (x5.High<=p2.High))||(decide (x6.High<=p2.High)))then(some 13)else(lu p1 p2 x1 x2 fu1) (w64 (x3+1))))))else(some 0))
def GK [Fuel] (p1:ak) (p2:aB):Option Int:=(bif(decide (p2.Low<p2.High))then(some 4)else(bif(decide (30<=p2.High))then(some 2)else lu p1 p2 p2.Cells ((p2.Cells.length:Nat):Int) fuel 0))
def Am (p1:aB):Option Int:=(bif(p1.High==p1.Low)then(some 4)else(some 0))
def jy [Fuel] (p1:ak) (p2:aB) (p3:aA) (x1:Bool):Option Int:=(bif x1 then(some 1)else(bif(decide (4096<=p2.Count))then(some 2)else(bif(decide (p3.Tick<p2.Tick))then(some 3)else(bif(p3.Kind==1)then((Jt p1 p2 p3).bind λx2=>(some x2))else(bif(p3.Kind==4)then((C8 p1 p2 p3).bind λx3=>(some x3))else(bif(p3.Kind==5)then((Ju p2 p3).bind λx4=>(some x4))else(bif(p3.Kind==6)then((C9 p1 p2 p3).bind λx5=>(some x5))else(bif(p3.Kind==7)then((Da p2 p3).bind λx6=>(some x6))else(bif(p3.Kind==8)then((Mj p2 p3).bind λx7=>(some x7))else(bif(p3.Kind==2)then((Bz p1 p2 p3).bind λx8=>(some x8))else(bif(p3.Kind==3)then((QD p2 p3).bind λx9=>(some x9))else(bif(p3.Kind==9)then((Mk p2 p3).bind Md=>(some x10))else(bif(p3.Kind==10)then((Ml p1 p2 p3).bind Vk=>(some x11))else(bif(p3.Kind==11)then((Mq p2 p3).bind UM=>(some x12))else(bif(p3.Kind==12)then((Jv p1 p2 p3).bind abk=>(some x13))else(bif(p3.Kind==13)then((rV p2 p3).bind aem=>(some x14))else(bif(p3.Kind==14)then((GK p1 p2).bind ady=>(some x15))else(bif(p3.Kind==15)then((Am p2).bind agG=>(some x16))else(some 0)))))))))))))))))))
def kg [Fuel] (p1:ak) (p2:aB) (p3:aA):Option Int:=((NJ p1 p3).bind aiZ=>(bif(!x17)then jy p1 p2 p3 (!x17)else(bif(((p2.ah.length:Nat):Int) !=((p1.ah.length:Nat):Int))then jy p1 p2 p3 (((p2.ah.length:Nat):Int) !=((p1.ah.length:Nat):Int))else jy p1 p2 p3 (((p2.Cells.length:Nat):Int) !=((p1.Cells.length:Nat):Int)))))
def Ch (p1:List aH) (p2:Nat) (p3:aA):Option (List aH):=(bif(p3.Kind==9)then(dZ (p1.getD p2 default) λx1=>(dZ (p1.set p2 {x1 with Mode:=p3.N}) λx2=>(dZ (x2.getD p2 default) λx3=>(dZ (x2.set p2 {x3 with Since:=p3.Tick}) λx4=>(some x4)))))else(bif(p3.Kind==10)then(dZ (p1.getD p2 default) λx5=>(dZ (p1.set p2 {x5 with Wanted:=p3.N}) λx6=>(some x6)))else(bif(p3.Kind==11)then(dZ (p1.getD p2 default) λx7=>(dZ (p1.set p2 {x7 with Running:=p3.N}) λx8=>(dZ (x8.getD p2 default) λx9=>(dZ (x8.set p2 {x9 with Since:=p3.Tick}) Md=>(some x10)))))else(some p1))))
def NK (p1:List ay) (p2:Nat) (p3:aA):Option (List ay):=(dZ (p1.getD p2 default) λx1=>(dZ (p1.set p2 {x1 with Window:=(⟨p3.Cell,p3.Epoch,p3.N,p3.From,p3.Until⟩:aT)}) λx2=>(dZ (x2.getD p2 default) λx3=>(dZ (x2.set p2 {x3 with Epoch:=p3.Epoch}) λx4=>(dZ (x4.getD p2 default) λx5=>(bif(p3.Cell==x5.Home)then(some x4)else(bif(p3.Cell==x5.aN)then(dZ (x4.set p2 {x5 with Home:=p3.Cell}) λx6=>(dZ (x6.getD p2 default) λx7=>(dZ (x6.set p2 {x7 with aN:=(-1)}) λx8=>(dZ (x8.getD p2 default) λx9=>(dZ (x8.set p2 {x9 with Next:=(-1)}) Md=>(dZ (x10.getD p2 default) Vk=>(dZ (x10.set p2 {x11 with Target:=(-1)}) UM=>(dZ (x12.getD p2 default) abk=>(dZ (x12.set p2 {x13 with Aa:=false}) aem=>(some x14))))))))))else(bif(p3.Cell==x5.Target)then(dZ (x4.set p2 {x5 with Home:=p3.Cell}) ady=>(dZ (x15.getD p2 default) agG=>(dZ (x15.set p2 {x16 with Target:=(-1)}) aiZ=>(some x17))))else(some x4)))))))))
def jA (p1:List ay) (p2:Nat) (p3:aA):Option (List ay):=(bif(p3.Kind==1)then(dZ (p1.getD p2 default) λx1=>(dZ (p1.set p2 {x1 with Placed:=true}) λx2=>(dZ (x2.getD p2 default) λx3=>(dZ (x2.set p2 {x3 with Home:=p3.Cell}) λx4=>(dZ (x4.getD p2 default) λx5=>(dZ (x4.set p2 {x5 with aN:=p3.Other}) λx6=>(some x6)))))))else(bif(p3.Kind==4)then(dZ (p1.getD p2 default) λx7=>(dZ (p1.set p2 {x7 with Next:=p3.Cell}) λx8=>(some x8)))else(bif(p3.Kind==5)then(dZ (p1.getD p2 default) λx9=>(dZ (p1.set p2 {x9 with aN:=p3.Cell}) Md=>(dZ (x10.getD p2 default) Vk=>(dZ (x10.set p2 {x11 with Next:=(-1)}) UM=>(some x12)))))else(bif(p3.Kind==6)then(dZ (p1.getD p2 default) abk=>(dZ (p1.set p2 {x13 with Target:=p3.Cell}) aem=>(some x14)))else(bif(p3.Kind==7)then(dZ (p1.getD p2 default) ady=>(dZ (p1.set p2 {x15 with Target:=(-1)}) agG=>(some x16)))else(bif(p3.Kind==8)then(dZ (p1.getD p2 default) aiZ=>(dZ (p1.set p2 {x17 with Aa:=(p3.N==1)}) alm=>(dZ (x18.getD p2 default) apX=>(bif x19.Aa then(dZ (x18.set p2 {x19 with Target:=(-1)}) amZ=>(some x20))else(some x18)))))else(bif(p3.Kind==3)then(dZ (p1.getD p2 default) alk=>(dZ (p1.set p2 {x21 with Window:={x21.Window with Until:=(Qq x21.Window.Until (w64 (p3.Tick+1)))}}) aoT=>(dZ (x22.getD p2 default) aoU=>(dZ (x22.set p2 {x23 with Window:={x23.Window with From:=(Qq x23.Window.From x23.Window.Until)}}) apY=>(some x24)))))else(bif(p3.Kind==2)then((NK p1 p2 p3).bind ash=>(some x25))else(some p1)))))))))
def iU (x1:aB):Option aB:=(some x1)
def qb (p2:aA) (x2:aB) (x3:Int) (x4:Bool):Option aB:=(bif x4 then(ixL x2.Cells p2.Cell λx5=>((Ch x2.Cells (Int.toNat p2.Cell) p2).bind λx6=>iU {x2 with Cells:=x6}))else(bif(x3==12)then(chk (decide ((0:Int)<=p2.N)) (iU {x2 with jV:=(orK .i64 x2.jV (CW .i64 1 p2.N))}))else(bif(x3==13)then(bif(p2.N==1)then(chk (decide ((0:Int)<=p2.Other)) (iU {x2 with bg:=(orK .i64 x2.bg (CW .i64 1 p2.Other))}))else(chk (decide ((0:Int)<=p2.Other)) (iU {x2 with bg:=(Np .i64 x2.bg (CW .i64 1 p2.Other))})))else(bif(x3==14)then iU {x2 with High:=(w64 (x2.High+1))}else(bif(x3==15)then iU {x2 with Low:=x2.High}else(bif(x3==16)then iU x2 else(ixL x2.ah p2.aD λx7=>((jA x2.ah (Int.toNat p2.aD) p2).bind λx8=>iU {x2 with ah:=x8}))))))))
def iZ (p1:aB) (p2:aA):Option aB:=((cO p1.ah).bind λx9=>((dG p1.Cells).bind Md=>(bif(p2.Kind==9)then qb p2 {p1 with Tick:=p2.Tick,Count:=(w64 (p1.Count+1)),ah:=x9,Cells:=x10} p2.Kind (p2.Kind==9)else(bif(p2.Kind==10)then qb p2 {p1 with Tick:=p2.Tick,Count:=(w64 (p1.Count+1)),ah:=x9,Cells:=x10} p2.Kind (p2.Kind==10)else qb p2 {p1 with Tick:=p2.Tick,Count:=(w64 (p1.Count+1)),ah:=x9,Cells:=x10} p2.Kind (p2.Kind==11)))))
def dJ (p1:aA) (x1:Int) (x2:Bool):Option Bool:=(bif x2 then(some true)else(bif(x1==4)then(some (p1.Cell !=(-1)))else(bif(x1==8)then(some (p1.N==0))else(some false))))
def fK (p1:aA):Option Bool:=(bif(p1.Kind==1)then dJ p1 p1.Kind (p1.Kind==1)else(bif(p1.Kind==6)then dJ p1 p1.Kind (p1.Kind==6)else dJ p1 p1.Kind (p1.Kind==2)))
def W9 (p1:ak) (p2:aB):Option Int:=(some (Qq ((p1.ah.length:Nat):Int) ((p2.ah.length:Nat):Int)))
def Um (p1:ay):Option Bool:=(some (p1.Placed&&(!p1.Aa)))
def NM (p1:List Int) (p2 p3:Int):Option (List Int):=(bif((decide (0<=p2))&&(decide (p2<((p1.length:Nat):Int))))then(ixL p1 p2 λx1=>(ixL p1 p2 λx2=>(dZ (p1.set (Int.toNat p2) (w64 (x1+p3))) λx3=>(some x3))))else(some p1))
def F7 (sU:(List Int)->Int->Option (List Int)) (x1:Int) (x2:List Int):Option (List Int):=sU x2 (w64 (x1+1))
def F8 (sU:(List Int)->Int->Option (List Int)) (x1:Int) (x3:aW) (x4:ay) (x5:List Int):Option (List Int):=((NM x5 x4.aN x3.pJ).bind λx6=>((NM x6 x4.Next x3.pJ).bind λx7=>F7 sU x1 x7))
def pO (p1:ak) (p2:aB) (x8:Int):Nat->(List Int)->Int->Option (List Int)|0,_,_=>none|fu1+1,x9,x1=>(bif(decide (x1<x8))then(ixL p1.ah x1 λx3=>(ixL p2.ah x1 λx4=>(bif(!x4.Placed)then F7 (pO p1 p2 x8 fu1) x1 x9 else((Um x4).bind Md=>(bif x10 then((NM x9 x4.Home x3.Load).bind Vk=>((NM x11 x4.Target x3.Load).bind UM=>F8 (pO p1 p2 x8 fu1) x1 x3 x4 x12))else F8 (pO p1 p2 x8 fu1) x1 x3 x4 x9)))))else(some x9))
def NN [Fuel] (p1:ak) (p2:aB):Option (List Int):=(chk (decide ((0:Int)<=((p1.Cells.length:Nat):Int)/\(((p1.Cells.length:Nat):Int):Int)<=((p1.Cells.length:Nat):Int)/\(((p1.Cells.length:Nat):Int):Int)<=9223372036854775807/\(((p1.Cells.length:Nat):Int):Int)*8<=140737488355328)) ((W9 p1 p2).bind λx8=>pO p1 p2 x8 fuel (List.replicate (Int.toNat ((p1.Cells.length:Nat):Int)) (default:Int)) 0))
def KV (QE:(List Int)->Int->Option (List Int)) (x1:Int) (x2:List Int):Option (List Int):=QE x2 (w64 (x1+1))
def xQ (p1:ak) (x3:List Int) (x4:Int):Nat->(List Int)->Int->Option (List Int)|0,_,_=>none|fu1+1,x5,x1=>(bif(decide (x1<x4))then(ixL x3 x1 λx6=>(ixL p1.Cells x1 λx7=>(bif(decide (x7.kS<x6))then(chk (decide ((x5.length+ [x1].length)*8<=room)) (KV (xQ p1 x3 x4 fu1) x1 (x5++ [x1])))else KV (xQ p1 x3 x4 fu1) x1 x5)))else(some x5))
def QF [Fuel] (p1:ak) (p2:aB):Option (List Int):=((NN p1 p2).bind λx3=>xQ p1 x3 ((x3.length:Nat):Int) fuel ([]:List Int) 0)
def Fp [Fuel] (p1:ak) (p2:aB) (p3:aA):Option (aB×Int):=((kg p1 p2 p3).bind λx1=>(bif(x1 !=0)then(some ((⟨0,0,([]:List ay),([]:List aH),0,0,0,0⟩:aB),x1))else((iZ p2 p3).bind λx2=>((fK p3).bind λx3=>(((bif x3 then QF p1 x2 else some default)).bind λx4=>(bif(x3&&(decide (0<((x4.length:Nat):Int))))then(some ((⟨0,0,([]:List ay),([]:List aH),0,0,0,0⟩:aB),10))else(some (x2,0))))))))
def zD (p1:aj):Option (Int×aj):=(some (p1.role,p1))
def qy (p1:aj):Option Int:=(some p1.role)
theorem NP [Fuel] (p1:aj):zD p1=(qy p1).bind λx=>some (x,p1):=by
  simp only [zD,qy,d9,bU,eu,eB,eD,bV,bW,bX]
def zF (p1:aJ):Option (Int×aJ):=(some (p1.term,p1))
def mq (p1:aJ):Option Int:=(some p1.term)
theorem NQ [Fuel] (p1:aJ):zF p1=(mq p1).bind λx=>some (x,p1):=by
  simp only [zF,mq,d9,bU,eu,eB,eD,bV,bW,bX]
def zG (p1:aj):Option (Int×aj):=((mq p1.aQ).bind λx1=>(some (x1,p1)))
def bN (p1:aj):Option Int:=((mq p1.aQ).bind λx1=>(some x1))
theorem NR [Fuel] (p1:aj):zG p1=(bN p1).bind λx=>some (x,p1):=by
  simp only [zG,bN,d9,bU,eu,eB,eD,bV,bW,bX]
def uL (x1 x2 x3:Int) (x4:aL):Option (Int×aL):=(bif(decide ((w64 (x3+1))<x2))then none else(some (x1,x4)))
def Il (p1:aL):Option (Int×aL):=(bif(decide (0<1))then((qy (p1.au.getD 0 default)).bind λx5=>(((bif((x5==3)&&(!(decide ((-1)<0))))then bN (p1.au.getD 0 default)else some default)).bind λx6=>(chk (!((x5==3)&&(!(decide ((-1)<0))))||decide ((0:Int)<=(-1)/\((-1):Int)<((1:Nat):Int))) (((bif((x5==3)&&(!(decide ((-1)<0))))then bN (p1.au.getD 0 default)else some default)).bind λx7=>(bif((x5==3)&&((decide ((-1)<0))||(decide (x7<x6))))then uL 0 1 0 {p1 with au:= [(p1.au.getD 0 default)]}else uL (-1) 1 0 {p1 with au:= [(p1.au.getD 0 default)]})))))else none)
def H6 (p1:aV) (p2:Int):Option (Bool×aV):=(chk (!((decide (0<=p2))&&(decide (p2<((p1.config.bO.length:Nat):Int))))||decide ((0:Int)<=p2)) (some ((((decide (0<=p2))&&(decide (p2<((p1.config.bO.length:Nat):Int))))&&((jK .i64 (oI .i64 p1.up p2) 1)==1)),{p1 with net:={p1.net with au:= [(p1.net.au.getD 0 default)]}})))
def nY (p1:aV) (p2:Int):Option Bool:=(chk (!((decide (0<=p2))&&(decide (p2<((p1.config.bO.length:Nat):Int))))||decide ((0:Int)<=p2)) (some (((decide (0<=p2))&&(decide (p2<((p1.config.bO.length:Nat):Int))))&&((jK .i64 (oI .i64 p1.up p2) 1)==1))))
theorem Un [Fuel] (p1:aV) (p2:Int):H6 p1 p2=(nY p1 p2).bind λx=>some (x,{p1 with net:={p1.net with au:= [(p1.net.au.getD 0 default)]}}):=by
  simp only [H6,nY,d9,bU,eu,eB,eD,bV,bW,bX]
def Fq (p1:aL) (p2:Int):Option (Bool×aL):=(some (((decide (0<=p2))&&(decide (p2<1))),{p1 with au:= [(p1.au.getD 0 default)]}))
def iL (p1:aL) (p2:Int):Option Bool:=(some ((decide (0<=p2))&&(decide (p2<1))))
theorem SQ [Fuel] (p1:aL) (p2:Int):Fq p1 p2=(iL p1 p2).bind λx=>some (x,{p1 with au:= [(p1.au.getD 0 default)]}):=by
  simp only [Fq,iL,d9,bU,eu,eB,eD,bV,bW,bX]
def iI (p2:gD) (x1:Bool) (x2:aL):Option (Bool×aL):=(bif x1 then(some (((decide (0<=p2.N))&&(decide (p2.N<((x2.net.length:Nat):Int)))),x2))else(some (false,x2)))
def gI (p2:gD) (x3:Int) (x4:Bool) (x5:aL):Option (Bool×aL):=(bif x4 then((iL x5 p2.Who).bind λx6=>(some (x6,x5)))else(bif(x3==4)then iI p2 (x3==4) x5 else(bif(x3==5)then iI p2 (x3==5) x5 else iI p2 (x3==6) x5)))
def uM (p1:aL) (p2:gD):Option (Bool×aL):=(bif(p2.Kind==1)then gI p2 p2.Kind (p2.Kind==1) {p1 with au:= [(p1.au.getD 0 default)]}else(bif(p2.Kind==2)then gI p2 p2.Kind (p2.Kind==2) {p1 with au:= [(p1.au.getD 0 default)]}else(bif(p2.Kind==3)then gI p2 p2.Kind (p2.Kind==3) {p1 with au:= [(p1.au.getD 0 default)]}else gI p2 p2.Kind (p2.Kind==7) {p1 with au:= [(p1.au.getD 0 default)]})))
def jf (p2:gD) (x1:Bool) (x2:aL):Option Bool:=(bif x1 then(some ((decide (0<=p2.N))&&(decide (p2.N<((x2.net.length:Nat):Int)))))else(some false))
theorem vR [Fuel] (p2:gD) (x1:Bool) (x2:aL):iI p2 x1 x2=(jf p2 x1 x2).bind (λx=>some (x,x2)):=by
  simp only [iI,jf,d9,bU,eu,eB,eD,bV,bW,bX]
def gU (p2:gD) (x3:Int) (x4:Bool) (x5:aL):Option Bool:=(bif x4 then((iL x5 p2.Who).bind λx6=>(some x6))else(bif(x3==4)then jf p2 (x3==4) x5 else(bif(x3==5)then jf p2 (x3==5) x5 else jf p2 (x3==6) x5)))
theorem H7 [Fuel] (p2:gD) (x3:Int) (x4:Bool) (x5:aL):gI p2 x3 x4 x5=(gU p2 x3 x4 x5).bind (λx=>some (x,x5)):=by
  simp only [gI,gU,d9,bU,eu,eB,eD,bV,bW,bX,vR]
def ni (p1:aL) (p2:gD):Option Bool:=(bif(p2.Kind==1)then gU p2 p2.Kind (p2.Kind==1) {p1 with au:= [(p1.au.getD 0 default)]}else(bif(p2.Kind==2)then gU p2 p2.Kind (p2.Kind==2) {p1 with au:= [(p1.au.getD 0 default)]}else(bif(p2.Kind==3)then gU p2 p2.Kind (p2.Kind==3) {p1 with au:= [(p1.au.getD 0 default)]}else gU p2 p2.Kind (p2.Kind==7) {p1 with au:= [(p1.au.getD 0 default)]})))
theorem Kz [Fuel] (p1:aL) (p2:gD):uM p1 p2=(ni p1 p2).bind λx=>some (x,{p1 with au:= [(p1.au.getD 0 default)]}):=by
  simp only [uM,ni,d9,bU,eu,eB,eD,bV,bW,bX,vR,H7]
def Db (p1:aJ) (p2 p3:Int):Option (Int×aJ):=(bif((((decide (p2<0))||(decide (1073741824<p2)))||(decide (p3<(-1))))||(decide (5<=p3)))then(some (1,p1))else(bif((decide (p2<p1.term))||(((p2==p1.term)&&(p1.RU !=(-1)))&&(p1.RU !=p3)))then(some (20,p1))else(some (0,{p1 with term:=p2,RU:=p3}))))
def Z7 (p1:List Int) (p2:Int):Option (List Int):=(chk (decide ((0:Int)<=0/\(0:Int)<=(w64 (((p1.length:Nat):Int)+p2))/\((w64 (((p1.length:Nat):Int)+p2)):Int)<=9223372036854775807/\((w64 (((p1.length:Nat):Int)+p2)):Int)*1<=140737488355328)) (chk (decide (((List.replicate (Int.toNat 0) (default:Int)).length+p1.length)*1<=room)) (some ((List.replicate (Int.toNat 0) (default:Int))++p1))))
def afy (p1:Int):Option Int:=(bif(decide (p1<0))then(some (alc .u64 18446744073709551615 (CW .u64 (IntKind.u64.wrap p1) 1)))else(some (CW .u64 (IntKind.u64.wrap p1) 1)))
def Uo:Nat->(List Int)->Int->Option (List Int)|0,_,_=>none|fu1+1,x1,x2=>(bif(decide (128<=x2))then(chk (decide ((x1.length+ [(orK .u8 (IntKind.u8.wrap x2) 128)].length)*1<=room)) ((Uo fu1) (x1++ [(orK .u8 (IntKind.u8.wrap x2) 128)]) (oI .u64 x2 7)))else(chk (decide ((x1.length+ [(IntKind.u8.wrap x2)].length)*1<=room)) (some (x1++ [(IntKind.u8.wrap x2)]))))
def ai0 [Fuel] (p1:List Int) (p2:Int):Option (List Int):=((afy p2).bind λx3=>Uo fuel p1 x3)
def Bg [Fuel] (p1:List Int) (p2:Int):Option (List Int):=((Z7 p1 10).bind λx1=>((ai0 x1 p2).bind λx2=>(some x2)))
def Jw [Fuel] (p1:List Int) (x1:Int):Nat->(List Int)->Int->Option (List Int)|0,_,_=>none|fu1+1,x2,x3=>(bif(decide (x3<x1))then(ixL p1 x3 λx4=>((Bg x2 x4).bind λx5=>(Jw p1 x1 fu1) x5 (w64 (x3+1))))else(some x2))
def QG [Fuel] (p1:(List Int)):Option (List Int):=Jw p1 ((p1.length:Nat):Int) fuel ([]:List Int) 0
def Sb (p1 p2:Int):Option Int:=(some (alc .u64 (IntKind.u64.wrap ((alc .u64 p1 (IntKind.u64.wrap p2))*1099511628211)) (oI .u64 (IntKind.u64.wrap ((alc .u64 p1 (IntKind.u64.wrap p2))*1099511628211)) 29)))
def Jy (p2 x1:List Int) (x2:Int):Nat->Int->Int->Option Int|0,_,_=>none|fu1+1,x3,x4=>(bif(decide (x4<x2))then(ixL x1 x4 λx5=>((Sb x3 (IntKind.i64.wrap x5)).bind λx6=>(Jy p2 x1 x2 fu1) x6 (w64 (x4+1))))else((Sb x3 ((p2.length:Nat):Int)).bind λx7=>(some x7)))
def XT [Fuel] (p1:Int) (p2:List Int):Option Int:=Jy p2 p2 ((p2.length:Nat):Int) fuel p1 0
def acD [Fuel] (p1:Int) (p2:List Int):Option Int:=((Sb 14695981039346656037 p1).bind λx1=>((XT x1 p2).bind λx2=>(some x2)))
def QH (p3:(List Int)):Nat->(List Int)->Int->Int->Option (List Int)|0,_,_,_=>none|fu1+1,x1,x2,x3=>(bif(decide (x3<8))then(chk (decide ((x1.length+ [(IntKind.u8.wrap x2)].length)*1<=room)) ((QH p3 fu1) (x1++ [(IntKind.u8.wrap x2)]) (oI .u64 x2 8) (w64 (x3+1))))else(chk (decide ((x1.length+p3.length)*1<=room)) (some (x1++p3))))
def afz [Fuel] (p1:List Int) (p2:Int) (p3:List Int):Option (List Int):=(bif(decide (65536<((p3.length:Nat):Int)))then(chk (decide ((0+p1.length)*1<=room)) (some p1))else((Bg p1 ((p3.length:Nat):Int)).bind λx4=>((acD p2 p3).bind λx5=>QH p3 fuel x4 x5 0)))
def O5 (p1:aZ) (p2:List Int):Option aZ:=(chk (decide ((p1.data.length+p2.length)*1<=room)) (some {p1 with data:=(p1.data++p2)}))
def xR [Fuel] (p1:aJ) (p2:List Int):Option aJ:=((afz ([]:List Int) 8 p2).bind λx1=>((O5 p1.tZ x1).bind λx2=>(some {p1 with tZ:=x2})))
def Dc [Fuel] (p1:aJ) (p2 p3:Int):Option (Int×aJ):=((Db p1 p2 p3).bind λx1=>(bif(x1.1 !=0)then(some (x1.1,x1.2))else((QG [1,p2,p3]).bind λx2=>((xR x1.2 x2).bind λx3=>(some (0,x3))))))
def Tx (p1:aZ):Option aZ:=(some {p1 with agO:=((p1.data.length:Nat):Int)})
def sI (p1:aJ):Option aJ:=((Tx p1.tZ).bind λx1=>(some {p1 with tZ:=x1}))
def nZ [Fuel] (p1:aj) (p2 p3:Int):Option aj:=((Dc p1.aQ p2 p3).bind λx1=>((sI x1.2).bind λx2=>(some {p1 with aQ:=x2})))
def BA (p1:aJ):Option (Int×aJ):=(some (((p1.log.length:Nat):Int),p1))
def nJ (p1:aJ):Option Int:=(some ((p1.log.length:Nat):Int))
theorem PW [Fuel] (p1:aJ):BA p1=(nJ p1).bind λx=>some (x,p1):=by
  simp only [BA,nJ,d9,bU,eu,eB,eD,bV,bW,bX]
def BD (p1:aj):Option (Int×aj):=((nJ p1.aQ).bind λx1=>(some (x1,p1)))
def bG (p1:aj):Option Int:=((nJ p1.aQ).bind λx1=>(some x1))
theorem PX [Fuel] (p1:aj):BD p1=(bG p1).bind λx=>some (x,p1):=by
  simp only [BD,bG,d9,bU,eu,eB,eD,bV,bW,bX]
def jE (zi:Int->Int->Int->Int->Int->Int->Int->Int->Int->Int->Int->Option aj) (x1:Int) (x2:aj):Option aj:=zi x2.next.e0 x2.next.e1 x2.next.e2 x2.next.e3 x2.next.e4 x2.match_.e0 x2.match_.e1 x2.match_.e2 x2.match_.e3 x2.match_.e4 (w64 (x1+1))
def iM (x3 x4 x5 x6 x7 x8:Int) (x9:aJ):Nat->Int->Int->Int->Int->Int->Int->Int->Int->Int->Int->Int->Option aj|0,_,_,_,_,_,_,_,_,_,_,_=>none|fu1+1,x10,x11,x12,x13,x14,x15,x16,x17,x18,x19,x1=>(bif(decide (x1<x8))then(bif(x1==4)then((bG (⟨x9,x3,x4,x5,x6,x7,⟨x10,x11,x12,x13,x14⟩,⟨x15,x16,x17,x18,x19⟩⟩:aj)).bind amZ=>jE (iM x3 x4 x5 x6 x7 x8 x9 fu1) x1 (⟨x9,x3,x4,x5,x6,x7,⟨x10,x11,x12,x13,x20⟩,⟨x15,x16,x17,x18,0⟩⟩:aj))else(bif(x1==3)then((bG (⟨x9,x3,x4,x5,x6,x7,⟨x10,x11,x12,x13,x14⟩,⟨x15,x16,x17,x18,x19⟩⟩:aj)).bind alk=>jE (iM x3 x4 x5 x6 x7 x8 x9 fu1) x1 (⟨x9,x3,x4,x5,x6,x7,⟨x10,x11,x12,x21,x14⟩,⟨x15,x16,x17,0,x19⟩⟩:aj))else(bif(x1==2)then((bG (⟨x9,x3,x4,x5,x6,x7,⟨x10,x11,x12,x13,x14⟩,⟨x15,x16,x17,x18,x19⟩⟩:aj)).bind aoT=>jE (iM x3 x4 x5 x6 x7 x8 x9 fu1) x1 (⟨x9,x3,x4,x5,x6,x7,⟨x10,x11,x22,x13,x14⟩,⟨x15,x16,0,x18,x19⟩⟩:aj))else(bif(x1==1)then((bG (⟨x9,x3,x4,x5,x6,x7,⟨x10,x11,x12,x13,x14⟩,⟨x15,x16,x17,x18,x19⟩⟩:aj)).bind aoU=>jE (iM x3 x4 x5 x6 x7 x8 x9 fu1) x1 (⟨x9,x3,x4,x5,x6,x7,⟨x10,x23,x12,x13,x14⟩,⟨x15,0,x17,x18,x19⟩⟩:aj))else(bif(x1==0)then((bG (⟨x9,x3,x4,x5,x6,x7,⟨x10,x11,x12,x13,x14⟩,⟨x15,x16,x17,x18,x19⟩⟩:aj)).bind apY=>jE (iM x3 x4 x5 x6 x7 x8 x9 fu1) x1 (⟨x9,x3,x4,x5,x6,x7,⟨x24,x11,x12,x13,x14⟩,⟨0,x16,x17,x18,x19⟩⟩:aj))else none)))))else(some (⟨x9,x3,x4,x5,x6,x7,⟨x10,x11,x12,x13,x14⟩,⟨x15,x16,x17,x18,x19⟩⟩:aj)))
def zH [Fuel] (p1:aj):Option aj:=iM p1.id p1.n 3 p1.commit p1.CR p1.n p1.aQ fuel p1.next.e0 p1.next.e1 p1.next.e2 p1.next.e3 p1.next.e4 p1.match_.e0 p1.match_.e1 p1.match_.e2 p1.match_.e3 p1.match_.e4 0
def uN (p1:aj) (p2 p3:Int):Option (aC×aj):=((bN p1).bind λx1=>(some ((⟨p2,p1.id,p3,x1,0,0,0,false,([]:List aG)⟩:aC),p1)))
def dP (p1:aj) (p2 p3:Int):Option aC:=((bN p1).bind λx1=>(some (⟨p2,p1.id,p3,x1,0,0,0,false,([]:List aG)⟩:aC)))
theorem KA [Fuel] (p1:aj) (p2 p3:Int):uN p1 p2 p3=(dP p1 p2 p3).bind λx=>some (x,p1):=by
  simp only [uN,dP,d9,bU,eu,eB,eD,bV,bW,bX]
def Dh (p1:aJ) (p2:Int):Option (aG×Bool×aJ):=(bif((decide (p2<0))||(decide (((p1.log.length:Nat):Int)<=p2)))then(some ((⟨0,⟨0,0,0,0,0,0,0,0,0⟩⟩:aG),false,p1))else(ixL p1.log p2 λx1=>(some (x1,true,p1))))
def jM (p1:aJ) (p2:Int):Option (aG×Bool):=(bif((decide (p2<0))||(decide (((p1.log.length:Nat):Int)<=p2)))then(some ((⟨0,⟨0,0,0,0,0,0,0,0,0⟩⟩:aG),false))else(ixL p1.log p2 λx1=>(some (x1,true))))
theorem QI [Fuel] (p1:aJ) (p2:Int):Dh p1 p2=(jM p1 p2).bind λx=>some (x.1,x.2,p1):=by
  simp only [Dh,jM,d9,bU,eu,eB,eD,bV,bW,bX]
def wH (p1:aJ) (p2:Int):Option (Int×aJ):=((jM p1 p2).bind λx1=>(some (x1.1.Term,p1)))
def dK (p1:aJ) (p2:Int):Option Int:=((jM p1 p2).bind λx1=>(some x1.1.Term))
theorem LB [Fuel] (p1:aJ) (p2:Int):wH p1 p2=(dK p1 p2).bind λx=>some (x,p1):=by
  simp only [wH,dK,d9,bU,eu,eB,eD,bV,bW,bX]
def sV (p1:aj):Option (Int×aj):=((bG p1).bind λx1=>((dK p1.aQ (w64 (x1 - 1))).bind λx2=>(some (x2,p1))))
def iJ (p1:aj):Option Int:=((bG p1).bind λx1=>((dK p1.aQ (w64 (x1 - 1))).bind λx2=>(some x2)))
theorem Jz [Fuel] (p1:aj):sV p1=(iJ p1).bind λx=>some (x,p1):=by
  simp only [sV,iJ,d9,bU,eu,eB,eD,bV,bW,bX]
def qL (p1:Int) (p2:aj):Option (aC×aj):=((dP p2 1 p1).bind λx1=>((bG p2).bind λx2=>((iJ p2).bind λx3=>(some ({x1 with Index:=x2,qW:=x3},p2)))))
def jg (p1:Int) (p2:aj):Option aC:=((dP p2 1 p1).bind λx1=>((bG p2).bind λx2=>((iJ p2).bind λx3=>(some {x1 with Index:=x2,qW:=x3}))))
theorem H8 [Fuel] (p1:Int) (p2:aj):qL p1 p2=(jg p1 p2).bind λx=>some (x,p2):=by
  simp only [qL,jg,d9,bU,eu,eB,eD,bV,bW,bX]
def jr (uq:(List aC)->Int->Option ((List aC)×aj)) (x1:Int) (x2:List aC):Option ((List aC)×aj):=uq x2 (w64 (x1+1))
def iw (x3:Int) (x4:aj):Nat->(List aC)->Int->Option ((List aC)×aj)|0,_,_=>none|fu1+1,x5,x1=>(bif(decide (x1<x3))then(bif(x1 !=x4.id)then((jg x1 x4).bind λx6=>(chk (decide ((x5.length+ [x6].length)*88<=room)) (jr (iw x3 x4 fu1) x1 (x5++ [x6]))))else jr (iw x3 x4 fu1) x1 x5)else(some (x5,x4)))
def sW [Fuel] (p1:aj):Option ((List aC)×aj):=iw p1.n p1 fuel ([]:List aC) 0
def ku (jm:(List aC)->Int->Option (List aC)) (x1:Int) (x2:List aC):Option (List aC):=jm x2 (w64 (x1+1))
theorem uw [Fuel] (G:(List aC)->Option ((List aC)×aj)) (jm:(List aC)->Int->Option (List aC)) (x1:Int) (x2:List aC):jr (λy1 y2=>(jm y1 y2).bind G) x1 x2=(ku jm x1 x2).bind G:=by
  simp only [jr,ku,d9,bU,eu,eB,eD,bV,bW,bX]
def iV (x3:Int) (x4:aj):Nat->(List aC)->Int->Option (List aC)|0,_,_=>none|fu1+1,x5,x1=>(bif(decide (x1<x3))then(bif(x1 !=x4.id)then((jg x1 x4).bind λx6=>(chk (decide ((x5.length+ [x6].length)*88<=room)) (ku (iV x3 x4 fu1) x1 (x5++ [x6]))))else ku (iV x3 x4 fu1) x1 x5)else(some x5))
theorem uz [Fuel] (x3:Int) (x4:aj):∀n:Nat,iw x3 x4 n=λx5 x1=>(iV x3 x4 n x5 x1).bind (λx=>some (x,x4))
  |0=>rfl
  | n+1=>by
    funext x5 x1
    simp only [iw,iV,uz x3 x4 n,d9,bU,eu,eB,eD,bV,bW,bX,uw]
def l5 [Fuel] (p1:aj):Option (List aC):=iV p1.n p1 fuel ([]:List aC) 0
theorem JA [Fuel] (p1:aj):sW p1=(l5 p1).bind λx=>some (x,p1):=by
  simp only [sW,l5,d9,bU,eu,eB,eD,bV,bW,bX,uw,uz]
def Ci [Fuel] (p1:aj):Option ((List aC)×aj):=((bN p1).bind λx1=>(bif(decide (1073741824<=x1))then(some (([]:List aC),p1))else((bN p1).bind λx2=>((nZ p1 (w64 (x2+1)) p1.id).bind λx3=>(chk (decide ((0:Int)<=(IntKind.u64.wrap x3.id))) (bif(x3.n==1)then((zH {x3 with role:=2,CR:=(CW .i64 1 (IntKind.u64.wrap x3.id))}).bind λx4=>(some (([]:List aC),x4)))else((l5 {x3 with role:=2,CR:=(CW .i64 1 (IntKind.u64.wrap x3.id))}).bind λx5=>(some (x5,{x3 with role:=2,CR:=(CW .i64 1 (IntKind.u64.wrap x3.id))})))))))))
def jN (p1:List aC) (p2 p3:Int):Option (List aC):=none
def xS (Cj:(List aC)->Int->Option aL) (x1:Int) (x2:aC) (x3:List aC):Option aL:=(chk (decide ((x3.length+ [x2].length)*88<=room)) (Cj (x3++ [x2]) (w64 (x1+1))))
def qZ (p2:List aC) (x4:List aA) (x5:Int) (x6:aj):Nat->(List aC)->Int->Option aL|0,_,_=>none|fu1+1,x7,x1=>(bif(decide (x1<x5))then(ixL p2 x1 λx2=>(bif(decide (256<=((x7.length:Nat):Int)))then((jN x7 0 1).bind λx8=>xS (qZ p2 x4 x5 x6 fu1) x1 x2 x8)else xS (qZ p2 x4 x5 x6 fu1) x1 x2 x7))else(some (⟨[x6],x7,x4⟩:aL)))
def lC [Fuel] (p1:aL) (p2:List aC):Option aL:=qZ p2 p1.committed ((p2.length:Nat):Int) (p1.au.getD 0 default) fuel p1.net 0
def JB (p1:aJ) (p2:Int) (p3:aA):Option (Int×aJ):=(((bif(!((decide (p2<1))||(decide (1073741824<p2))))then Js p3 else some default)).bind λx1=>(bif(((decide (p2<1))||(decide (1073741824<p2)))||(!x1))then(some (1,p1))else(((bif(!(decide (p1.term<p2)))then dK p1 (w64 (((p1.log.length:Nat):Int) - 1))else some default)).bind λx2=>(bif((decide (p1.term<p2))||(decide (p2<x2)))then(some (20,p1))else(bif(decide (4096<=((p1.log.length:Nat):Int)))then(some (2,p1))else(chk (decide ((p1.log.length+ [(⟨p2,p3⟩:aG)].length)*80<=room)) (some (0,{p1 with log:=(p1.log++ [(⟨p2,p3⟩:aG)])}))))))))
def Z8 [Fuel] (p1:aA):Option (List Int):=(bif(decide (0<9))then((Bg ([]:List Int) p1.Kind).bind λx1=>(bif(decide (1<9))then((Bg x1 p1.Tick).bind λx2=>(bif(decide (2<9))then((Bg x2 p1.aD).bind λx3=>(bif(decide (3<9))then((Bg x3 p1.Cell).bind λx4=>(bif(decide (4<9))then((Bg x4 p1.Other).bind λx5=>(bif(decide (5<9))then((Bg x5 p1.Epoch).bind λx6=>(bif(decide (6<9))then((Bg x6 p1.From).bind λx7=>(bif(decide (7<9))then((Bg x7 p1.Until).bind λx8=>(bif(decide (8<9))then((Bg x8 p1.N).bind λx9=>(bif(decide (9<9))then none else(some x9)))else none))else none))else none))else none))else none))else none))else none))else none))else none)
def wJ [Fuel] (p1:aJ) (p2:Int) (p3:aA):Option (Int×aJ):=((JB p1 p2 p3).bind λx1=>(bif(x1.1 !=0)then(some (x1.1,x1.2))else((QG [2,p2]).bind λx2=>((Z8 p3).bind λx3=>(chk (decide ((x2.length+x3.length)*1<=room)) ((xR x1.2 (x2++x3)).bind λx4=>(some (0,x4))))))))
def qM (cZ:Int->Option aj) (x1:Int):Option aj:=cZ (w64 (x1 - 1))
def qN (gL:Int->Int->Option aj) (x2 x3:Int):Option aj:=gL x3 (w64 (x2+1))
def iK (gL:Int->Int->Option aj) (x4 x2:Int) (x5:Bool):Option aj:=(bif x5 then qN gL x2 (w64 (x4+1))else qN gL x2 x4)
def gJ (cZ:Int->Option aj) (x1 x6:Int) (x7:aj):Nat->Int->Int->Option aj|0,_,_=>none|fu1+1,x4,x2=>(bif(decide (x2<x6))then(bif(x2==4)then(chk (!(4 !=x7.id)||decide ((0:Int)<=4/\(4:Int)<((5:Nat):Int))) (iK (gJ cZ x1 x6 x7 fu1) x4 x2 ((4 !=x7.id)&&(decide (x1<=x7.match_.e4)))))else(bif(x2==3)then(chk (!(3 !=x7.id)||decide ((0:Int)<=3/\(3:Int)<((5:Nat):Int))) (iK (gJ cZ x1 x6 x7 fu1) x4 x2 ((3 !=x7.id)&&(decide (x1<=x7.match_.e3)))))else(bif(x2==2)then(chk (!(2 !=x7.id)||decide ((0:Int)<=2/\(2:Int)<((5:Nat):Int))) (iK (gJ cZ x1 x6 x7 fu1) x4 x2 ((2 !=x7.id)&&(decide (x1<=x7.match_.e2)))))else(bif(x2==1)then(chk (!(1 !=x7.id)||decide ((0:Int)<=1/\(1:Int)<((5:Nat):Int))) (iK (gJ cZ x1 x6 x7 fu1) x4 x2 ((1 !=x7.id)&&(decide (x1<=x7.match_.e1)))))else(bif(x2==0)then(chk (!(0 !=x7.id)||decide ((0:Int)<=0/\(0:Int)<((5:Nat):Int))) (iK (gJ cZ x1 x6 x7 fu1) x4 x2 ((0 !=x7.id)&&(decide (x1<=x7.match_.e0)))))else none)))))else(bif(decide (x7.n<(w64 (2*x4))))then(some (⟨x7.aQ,x7.id,x7.n,x7.role,x1,x7.CR,x7.next,x7.match_⟩:aj))else qM cZ x1))
def l6 [Fuel] (x8:aj):Nat->Int->Option aj|0,_=>none|fu2+1,x1=>(bif(decide (x8.commit<x1))then((dK x8.aQ (w64 (x1 - 1))).bind λx9=>((bN x8).bind Md=>(bif(x9 !=x10)then qM (l6 x8 fu2) x1 else gJ (l6 x8 fu2) x1 x8.n x8 fuel 1 0)))else(some x8))
def uO [Fuel] (p1:aj):Option aj:=((bG p1).bind Vk=>l6 p1 fuel x11)
def Di (p1:aj) (p2:Int):Option (aG×Bool×aj):=((jM p1.aQ p2).bind λx1=>(some (x1.1,x1.2,p1)))
def oK (p1:aj) (p2:Int):Option (aG×Bool):=((jM p1.aQ p2).bind λx1=>(some (x1.1,x1.2)))
theorem QJ [Fuel] (p1:aj) (p2:Int):Di p1 p2=(oK p1 p2).bind λx=>some (x.1,x.2,p1):=by
  simp only [Di,oK,d9,bU,eu,eB,eD,bV,bW,bX]
def lD (x1:aj):Nat->Int->(List aG)->Option ((List aG)×aj)|0,_,_=>none|fu1+1,x2,x3=>((bG x1).bind λx4=>(bif(decide (x2<x4))then((oK x1 x2).bind λx5=>(chk (decide ((x3.length+ [x5.1].length)*80<=room)) ((lD x1 fu1) (w64 (x2+1)) (x3++ [x5.1]))))else(some (x3,x1))))
def zI [Fuel] (p1:aj) (p2:Int):Option ((List aG)×aj):=lD p1 fuel p2 ([]:List aG)
def nk (x1:aj):Nat->Int->(List aG)->Option (List aG)|0,_,_=>none|fu1+1,x2,x3=>((bG x1).bind λx4=>(bif(decide (x2<x4))then((oK x1 x2).bind λx5=>(chk (decide ((x3.length+ [x5.1].length)*80<=room)) ((nk x1 fu1) (w64 (x2+1)) (x3++ [x5.1]))))else(some x3)))
theorem zk [Fuel] (x1:aj):∀n:Nat,lD x1 n=λx2 x3=>(nk x1 n x2 x3).bind (λx=>some (x,x1))
  |0=>rfl
  | n+1=>by
    funext x2 x3
    simp only [lD,nk,zk x1 n,d9,bU,eu,eB,eD,bV,bW,bX]
def jd [Fuel] (p1:aj) (p2:Int):Option (List aG):=nk p1 fuel p2 ([]:List aG)
theorem NS [Fuel] (p1:aj) (p2:Int):zI p1 p2=(jd p1 p2).bind λx=>some (x,p1):=by
  simp only [zI,jd,d9,bU,eu,eB,eD,bV,bW,bX,zk]
def eU [Fuel] (x1:aC) (x2:aj):Option (aC×aj):=((dK x2.aQ (w64 (x1.Index - 1))).bind λx3=>((jd x2 x1.Index).bind λx4=>(some ({x1 with qW:=x3,Tv:=x2.commit,Entries:=x4},x2))))
def rW [Fuel] (p1:aj) (p2:Int):Option (aC×aj):=((dP p1 3 p2).bind λx5=>(bif(p2==4)then eU {x5 with Index:=p1.next.e4} p1 else(bif(p2==3)then eU {x5 with Index:=p1.next.e3} p1 else(bif(p2==2)then eU {x5 with Index:=p1.next.e2} p1 else(bif(p2==1)then eU {x5 with Index:=p1.next.e1} p1 else(bif(p2==0)then eU {x5 with Index:=p1.next.e0} p1 else none))))))
def fu [Fuel] (x1:aC) (x2:aj):Option aC:=((dK x2.aQ (w64 (x1.Index - 1))).bind λx3=>((jd x2 x1.Index).bind λx4=>(some {x1 with qW:=x3,Tv:=x2.commit,Entries:=x4})))
theorem Fu [Fuel] (x1:aC) (x2:aj):eU x1 x2=(fu x1 x2).bind (λx=>some (x,x2)):=by
  simp only [eU,fu,d9,bU,eu,eB,eD,bV,bW,bX]
def iy [Fuel] (p1:aj) (p2:Int):Option aC:=((dP p1 3 p2).bind λx5=>(bif(p2==4)then fu {x5 with Index:=p1.next.e4} p1 else(bif(p2==3)then fu {x5 with Index:=p1.next.e3} p1 else(bif(p2==2)then fu {x5 with Index:=p1.next.e2} p1 else(bif(p2==1)then fu {x5 with Index:=p1.next.e1} p1 else(bif(p2==0)then fu {x5 with Index:=p1.next.e0} p1 else none))))))
theorem IW [Fuel] (p1:aj) (p2:Int):rW p1 p2=(iy p1 p2).bind λx=>some (x,p1):=by
  simp only [rW,iy,d9,bU,eu,eB,eD,bV,bW,bX,Fu]
def iF (ru:(List aC)->Int->Option ((List aC)×aj)) (x1:Int) (x2:List aC):Option ((List aC)×aj):=ru x2 (w64 (x1+1))
def gy [Fuel] (x3:Int) (x4:aj):Nat->(List aC)->Int->Option ((List aC)×aj)|0,_,_=>none|fu1+1,x5,x1=>(bif(decide (x1<x3))then(bif(x1 !=x4.id)then((iy x4 x1).bind λx6=>(chk (decide ((x5.length+ [x6].length)*88<=room)) (iF (gy x3 x4 fu1) x1 (x5++ [x6]))))else iF (gy x3 x4 fu1) x1 x5)else(some (x5,x4)))
def qc [Fuel] (p1:aj):Option ((List aC)×aj):=gy p1.n p1 fuel ([]:List aC) 0
def jo (iN:(List aC)->Int->Option (List aC)) (x1:Int) (x2:List aC):Option (List aC):=iN x2 (w64 (x1+1))
theorem rz [Fuel] (G:(List aC)->Option ((List aC)×aj)) (iN:(List aC)->Int->Option (List aC)) (x1:Int) (x2:List aC):iF (λy1 y2=>(iN y1 y2).bind G) x1 x2=(jo iN x1 x2).bind G:=by
  simp only [iF,jo,d9,bU,eu,eB,eD,bV,bW,bX]
def gX [Fuel] (x3:Int) (x4:aj):Nat->(List aC)->Int->Option (List aC)|0,_,_=>none|fu1+1,x5,x1=>(bif(decide (x1<x3))then(bif(x1 !=x4.id)then((iy x4 x1).bind λx6=>(chk (decide ((x5.length+ [x6].length)*88<=room)) (jo (gX x3 x4 fu1) x1 (x5++ [x6]))))else jo (gX x3 x4 fu1) x1 x5)else(some x5))
theorem rA [Fuel] (x3:Int) (x4:aj):∀n:Nat,gy x3 x4 n=λx5 x1=>(gX x3 x4 n x5 x1).bind (λx=>some (x,x4))
  |0=>rfl
  | n+1=>by
    funext x5 x1
    simp only [gy,gX,rA x3 x4 n,d9,bU,eu,eB,eD,bV,bW,bX,rz]
def fH [Fuel] (p1:aj):Option (List aC):=gX p1.n p1 fuel ([]:List aC) 0
theorem GL [Fuel] (p1:aj):qc p1=(fH p1).bind λx=>some (x,p1):=by
  simp only [qc,fH,d9,bU,eu,eB,eD,bV,bW,bX,rz,rA]
def Dj [Fuel] (p1:aj) (p2:aA):Option ((List aC)×Int×aj):=(bif(p1.role !=3)then(some (([]:List aC),4,p1))else((bN p1).bind λx1=>((wJ p1.aQ x1 p2).bind λx2=>(bif(x2.1 !=0)then(some (([]:List aC),x2.1,{p1 with aQ:=x2.2}))else((sI x2.2).bind λx3=>((uO {p1 with aQ:=x3}).bind λx4=>((fH x4).bind λx5=>(some (x5,0,x4)))))))))
def zJ [Fuel] (p1:aj):Option ((List aC)×aj):=(bif(p1.role !=3)then(some (([]:List aC),p1))else((fH p1).bind λx1=>(some (x1,p1))))
def qz [Fuel] (p1:aj):Option (List aC):=(bif(p1.role !=3)then(some ([]:List aC))else((fH p1).bind λx1=>(some x1)))
theorem NT [Fuel] (p1:aj):zJ p1=(qz p1).bind λx=>some (x,p1):=by
  simp only [zJ,qz,d9,bU,eu,eB,eD,bV,bW,bX]
def sJ (p1:aL) (p2:Int):Option aL:=((jN p1.net p2 (w64 (p2+1))).bind λx1=>(some (⟨[(p1.au.getD 0 default)],x1,p1.committed⟩:aL)))
def uP (p1:aC) (x1:List aG) (x2:Int):Nat->Int->Int->Option Bool|0,_,_=>none|fu1+1,x3,x4=>(bif(decide (x4<x2))then(ixL x1 x4 λx5=>((Js x5.Entry).bind λx6=>(bif(((!x6)||(decide (x5.Term<x3)))||(decide (p1.Term<x5.Term)))then(some false)else(uP p1 x1 x2 fu1) x5.Term (w64 (x4+1)))))else(some true))
def zK [Fuel] (p1:aC):Option Bool:=(bif((!((p1.qW==0)==(p1.Index==0)))||(decide (4096<(w64 (p1.Index+((p1.Entries.length:Nat):Int))))))then(some false)else uP p1 p1.Entries ((p1.Entries.length:Nat):Int) fuel (UU 1 p1.qW) 0)
def iY [Fuel] (p2:aC) (x1:Int) (x2:Bool) (x3:aj):Option (Bool×aj):=(bif x2 then(some (true,x3))else(bif(x1==3)then((zK p2).bind λx4=>(some (x4,x3)))else(some (false,x3))))
def wK [Fuel] (p1:aj) (p2:aC):Option (Bool×aj):=(bif((((((((((((p2.To !=p1.id)||(p2.From==p1.id))||(decide (p2.From<0)))||(decide (p1.n<=p2.From)))||(decide (p2.Term<1)))||(decide (1073741824<p2.Term)))||(decide (p2.Index<0)))||(decide (4096<p2.Index)))||(decide (p2.qW<0)))||(decide (p2.Term<p2.qW)))||(decide (p2.Tv<0)))||(decide (4096<p2.Tv)))then(some (false,p1))else(bif(p2.Kind==1)then iY p2 p2.Kind (p2.Kind==1) p1 else(bif(p2.Kind==2)then iY p2 p2.Kind (p2.Kind==2) p1 else iY p2 p2.Kind (p2.Kind==4) p1)))
def jv [Fuel] (p2:aC) (x1:Int) (x2:Bool):Option Bool:=(bif x2 then(some true)else(bif(x1==3)then((zK p2).bind λx4=>(some x4))else(some false)))
theorem IX [Fuel] (p2:aC) (x1:Int) (x2:Bool) (x3:aj):iY p2 x1 x2 x3=(jv p2 x1 x2).bind (λx=>some (x,x3)):=by
  simp only [iY,jv,d9,bU,eu,eB,eD,bV,bW,bX]
def og [Fuel] (p1:aj) (p2:aC):Option Bool:=(bif((((((((((((p2.To !=p1.id)||(p2.From==p1.id))||(decide (p2.From<0)))||(decide (p1.n<=p2.From)))||(decide (p2.Term<1)))||(decide (1073741824<p2.Term)))||(decide (p2.Index<0)))||(decide (4096<p2.Index)))||(decide (p2.qW<0)))||(decide (p2.Term<p2.qW)))||(decide (p2.Tv<0)))||(decide (4096<p2.Tv)))then(some false)else(bif(p2.Kind==1)then jv p2 p2.Kind (p2.Kind==1)else(bif(p2.Kind==2)then jv p2 p2.Kind (p2.Kind==2)else jv p2 p2.Kind (p2.Kind==4))))
theorem LC [Fuel] (p1:aj) (p2:aC):wK p1 p2=(og p1 p2).bind λx=>some (x,p1):=by
  simp only [wK,og,d9,bU,eu,eB,eD,bV,bW,bX,IX]
def zL (p1:aJ):Option (Int×aJ):=(some (p1.RU,p1))
def mD (p1:aJ):Option Int:=(some p1.RU)
theorem NU [Fuel] (p1:aJ):zL p1=(mD p1).bind λx=>some (x,p1):=by
  simp only [zL,mD,d9,bU,eu,eB,eD,bV,bW,bX]
def zM (p1:aj):Option (Int×aj):=((mD p1.aQ).bind λx1=>(some (x1,p1)))
def mE (p1:aj):Option Int:=((mD p1.aQ).bind λx1=>(some x1))
theorem NV [Fuel] (p1:aj):zM p1=(mE p1).bind λx=>some (x,p1):=by
  simp only [zM,mE,d9,bU,eu,eB,eD,bV,bW,bX]
def oG (x1:aC) (x2:aj):Option ((List aC)×aj):=(some ([x1],x2))
def zm [Fuel] (p1:aj) (p2:aC):Option ((List aC)×aj):=((iJ p1).bind λx3=>((mE p1).bind λx4=>(((bif(!(x4==(-1)))then mE p1 else some default)).bind λx5=>(((bif((!(decide (x3<p2.qW)))&&(p2.qW==x3))then bG p1 else some default)).bind λx6=>((dP p1 2 p2.From).bind λx7=>((bN p1).bind λx8=>(bif(((p2.Term==x8)&&((x4==(-1))||(x5==p2.From)))&&((decide (x3<p2.qW))||((p2.qW==x3)&&(decide (x6<=p2.Index)))))then((nZ p1 p2.Term p2.From).bind λx9=>oG {x7 with OK:=true} x9)else oG x7 p1)))))))
def nK [Fuel] (x1:Int) (x2:aj):Nat->Int->Int->Option ((List aC)×aj)|0,_,_=>none|fu1+1,x3,x4=>(bif(decide (x4<x1))then(chk (decide ((0:Int)<=(IntKind.u64.wrap x4))) ((nK x1 x2 fu1) (w64 (x3+(jK .i64 (oI .i64 x2.CR (IntKind.u64.wrap x4)) 1))) (w64 (x4+1))))else(bif(decide ((w64 (2*x3))<=x2.n))then(some (([]:List aC),x2))else((zH x2).bind λx5=>((fH x5).bind λx6=>(some (x6,x5))))))
def xU [Fuel] (p1:aj) (p2:aC):Option ((List aC)×aj):=(((bif(!(p1.role !=2))then bN p1 else some default)).bind λx7=>(bif(((p1.role !=2)||(p2.Term !=x7))||(!p2.OK))then(some (([]:List aC),p1))else(chk (decide ((0:Int)<=(IntKind.u64.wrap p2.From))) (nK p1.n {p1 with CR:=(orK .i64 p1.CR (CW .i64 1 (IntKind.u64.wrap p2.From)))} fuel 0 0))))
def wL (p1:aj) (p2 p3:Int) (p4:Bool):Option ((List aC)×aj):=((dP p1 4 p2).bind λx1=>(some ([{x1 with Index:=p3,OK:=p4}],p1)))
def jk (p1:aj) (p2 p3:Int) (p4:Bool):Option (List aC):=((dP p1 4 p2).bind λx1=>(some [{x1 with Index:=p3,OK:=p4}]))
theorem LD [Fuel] (p1:aj) (p2 p3:Int) (p4:Bool):wL p1 p2 p3 p4=(jk p1 p2 p3 p4).bind λx=>some (x,p1):=by
  simp only [wL,jk,d9,bU,eu,eB,eD,bV,bW,bX]
def BF (p1:aJ) (p2:Int):Option (Int×aJ):=none
def rC (p1:aJ) (p2:Int):Option Int:=none
theorem PY [Fuel] (p1:aJ) (p2:Int):BF p1 p2=(rC p1 p2).bind λx=>some (x,p1):=by
  simp only [BF,rC,d9,bU,eu,eB,eD,bV,bW,bX]
def qO [Fuel] (p3:List aG) (x1 x2 x3 x4 x5 x6 x7 x8 x9 x10 x11 x12 x13 x14 x15 x16:Int):Nat->Int->Int->(List aG)->aZ->Int->Option aj|0,_,_,_,_,_=>none|fu1+1,x17,x18,x19,x20,x21=>(bif(decide (x21<x16))then(ixL p3 x21 aoT=>((wJ (⟨x20,x17,x18,x19⟩:aJ) x22.Term x22.Entry).bind aoU=>(qO p3 x1 x2 x3 x4 x5 x6 x7 x8 x9 x10 x11 x12 x13 x14 x15 x16 fu1) x23.2.term x23.2.RU x23.2.log x23.2.tZ (w64 (x21+1))))else((sI (⟨x20,x17,x18,x19⟩:aJ)).bind apY=>(some (⟨x24,x1,x2,x3,x4,x5,⟨x6,x7,x8,x9,x10⟩,⟨x11,x12,x13,x14,x15⟩⟩:aj))))
def qP [Fuel] (p3:List aG) (x25:aj):Option aj:=qO p3 x25.id x25.n x25.role x25.commit x25.CR x25.next.e0 x25.next.e1 x25.next.e2 x25.next.e3 x25.next.e4 x25.match_.e0 x25.match_.e1 x25.match_.e2 x25.match_.e3 x25.match_.e4 ((p3.length:Nat):Int) fuel x25.aQ.term x25.aQ.RU x25.aQ.log x25.aQ.tZ 0
def Dk [Fuel] (p1:aj) (p2:Int) (p3:List aG):Option aj:=((bG p1).bind asi=>(bif(decide (p2<x26))then((rC p1.aQ p2).bind auD=>qP p3 p1)else qP p3 p1))
def mI (p2:aC) (x1:aj):Option ((List aC)×aj):=((jk (⟨x1.aQ,x1.id,x1.n,x1.role,(UU x1.commit (Qq p2.Tv (w64 (p2.Index+((p2.Entries.length:Nat):Int))))),x1.CR,x1.next,x1.match_⟩:aj) p2.From (w64 (p2.Index+((p2.Entries.length:Nat):Int))) true).bind λx2=>(some (x2,(⟨x1.aQ,x1.id,x1.n,x1.role,(UU x1.commit (Qq p2.Tv (w64 (p2.Index+((p2.Entries.length:Nat):Int))))),x1.CR,x1.next,x1.match_⟩:aj))))
def mJ [Fuel] (p2:aC) (x3:aj):Nat->Int->Option ((List aC)×aj)|0,_=>none|fu1+1,x4=>(((bif(decide (x4<((p2.Entries.length:Nat):Int)))then dK x3.aQ (w64 (p2.Index+x4))else some default)).bind λx5=>(ixG (decide (x4<((p2.Entries.length:Nat):Int))) p2.Entries x4 λx6=>(bif((decide (x4<((p2.Entries.length:Nat):Int)))&&(x5==x6.Term))then(mJ p2 x3 fu1) (w64 (x4+1))else(bif(decide (x4<((p2.Entries.length:Nat):Int)))then(bif(decide ((w64 (p2.Index+x4))<x3.commit))then(some (([]:List aC),x3))else(chk (decide (0<=x4/\x4<=((p2.Entries.length:Nat):Int)/\((p2.Entries.length:Nat):Int)<=((p2.Entries.length:Nat):Int))) ((Dk x3 (w64 (p2.Index+x4)) (p2.Entries.drop (Int.toNat x4))).bind λx7=>mI p2 x7)))else mI p2 x3))))
def wY [Fuel] (p1:aj) (p2:aC):Option ((List aC)×aj):=((bN p1).bind λx8=>(bif(decide (p2.Term<x8))then((jk p1 p2.From 0 false).bind λx9=>(some (x9,p1)))else(bif(p1.role==3)then(some (([]:List aC),p1))else((bG {p1 with role:=1}).bind Md=>(((bif((!(decide (x10<p2.Index)))&&(decide (0<p2.Index)))then dK p1.aQ (w64 (p2.Index - 1))else some default)).bind Vk=>(bif((decide (x10<p2.Index))||((decide (0<p2.Index))&&(x11 !=p2.qW)))then((bG {p1 with role:=1}).bind UM=>((jk {p1 with role:=1} p2.From (Qq x12 (w64 (p2.Index - 1))) false).bind abk=>(some (x13,{p1 with role:=1}))))else mJ p2 {p1 with role:=1} fuel 0))))))
def fQ [Fuel] (x1:aC) (x2:aj):Option ((List aC)×aj):=((iy x2 x1.From).bind λx3=>(some ([x3],x2)))
def mK (x4:aj):Option ((List aC)×aj):=(some (([]:List aC),x4))
def fT [Fuel] (x5:aj):Option ((List aC)×aj):=((uO x5).bind λx6=>mK x6)
def fU [Fuel] (x7:aC) (x8:aj):Option ((List aC)×aj):=(bif(x7.From==4)then fT (⟨x8.aQ,x8.id,x8.n,x8.role,x8.commit,x8.CR,⟨x8.next.e0,x8.next.e1,x8.next.e2,x8.next.e3,x8.match_.e4⟩,x8.match_⟩:aj)else(bif(x7.From==3)then fT (⟨x8.aQ,x8.id,x8.n,x8.role,x8.commit,x8.CR,⟨x8.next.e0,x8.next.e1,x8.next.e2,x8.match_.e3,x8.next.e4⟩,x8.match_⟩:aj)else(bif(x7.From==2)then fT (⟨x8.aQ,x8.id,x8.n,x8.role,x8.commit,x8.CR,⟨x8.next.e0,x8.next.e1,x8.match_.e2,x8.next.e3,x8.next.e4⟩,x8.match_⟩:aj)else(bif(x7.From==1)then fT (⟨x8.aQ,x8.id,x8.n,x8.role,x8.commit,x8.CR,⟨x8.next.e0,x8.match_.e1,x8.next.e2,x8.next.e3,x8.next.e4⟩,x8.match_⟩:aj)else(bif(x7.From==0)then fT (⟨x8.aQ,x8.id,x8.n,x8.role,x8.commit,x8.CR,⟨x8.match_.e0,x8.next.e1,x8.next.e2,x8.next.e3,x8.next.e4⟩,x8.match_⟩:aj)else none)))))
def wZ [Fuel] (p1:aj) (p2:aC):Option ((List aC)×aj):=(((bif(!(p1.role !=3))then bN p1 else some default)).bind λx9=>(bif((p1.role !=3)||(p2.Term !=x9))then(some (([]:List aC),p1))else(bif(!p2.OK)then(bif(p2.From==4)then fQ {p2 with From:=4} {p1 with next:={p1.next with e4:=(UU 0 (Qq (w64 (p1.next.e4 - 1)) p2.Index))}}else(bif(p2.From==3)then fQ {p2 with From:=3} {p1 with next:={p1.next with e3:=(UU 0 (Qq (w64 (p1.next.e3 - 1)) p2.Index))}}else(bif(p2.From==2)then fQ {p2 with From:=2} {p1 with next:={p1.next with e2:=(UU 0 (Qq (w64 (p1.next.e2 - 1)) p2.Index))}}else(bif(p2.From==1)then fQ {p2 with From:=1} {p1 with next:={p1.next with e1:=(UU 0 (Qq (w64 (p1.next.e1 - 1)) p2.Index))}}else(bif(p2.From==0)then fQ {p2 with From:=0} {p1 with next:={p1.next with e0:=(UU 0 (Qq (w64 (p1.next.e0 - 1)) p2.Index))}}else none)))))else((bG p1).bind Md=>(bif(decide (p2.Index<=x10))then(bif(p2.From==4)then fU {p2 with From:=4} {p1 with match_:={p1.match_ with e4:=(UU p1.match_.e4 p2.Index)}}else(bif(p2.From==3)then fU {p2 with From:=3} {p1 with match_:={p1.match_ with e3:=(UU p1.match_.e3 p2.Index)}}else(bif(p2.From==2)then fU {p2 with From:=2} {p1 with match_:={p1.match_ with e2:=(UU p1.match_.e2 p2.Index)}}else(bif(p2.From==1)then fU {p2 with From:=1} {p1 with match_:={p1.match_ with e1:=(UU p1.match_.e1 p2.Index)}}else(bif(p2.From==0)then fU {p2 with From:=0} {p1 with match_:={p1.match_ with e0:=(UU p1.match_.e0 p2.Index)}}else none)))))else mK p1)))))
def rX [Fuel] (p2:aC) (x1:aj):Option ((List aC)×aj):=(bif(p2.Kind==1)then((zm x1 p2).bind λx2=>(some (x2.1,x2.2)))else(bif(p2.Kind==2)then((xU x1 p2).bind λx3=>(some (x3.1,x3.2)))else(bif(p2.Kind==3)then((wY x1 p2).bind λx4=>(some (x4.1,x4.2)))else(bif(p2.Kind==4)then((wZ x1 p2).bind λx5=>(some (x5.1,x5.2)))else(some (([]:List aC),x1))))))
def qA [Fuel] (p1:aj) (p2:aC):Option ((List aC)×aj):=((og p1 p2).bind λx6=>(bif(!x6)then(some (([]:List aC),p1))else((bN p1).bind λx7=>(bif(decide (x7<p2.Term))then((nZ p1 p2.Term (-1)).bind λx8=>rX p2 {x8 with role:=1})else rX p2 p1))))
def xV (p1:aJ) (p2:Int):Option aJ:=none
def pq (p1:aJ) (p2:Int):Option Unit:=none
theorem Mr [Fuel] (p1:aJ) (p2:Int):xV p1 p2=(pq p1 p2).bind λx=>some p1:=by
  simp only [xV,pq,d9,bU,eu,eB,eD,bV,bW,bX]
def GN (p1:aj) (p2:Int):Option aj:=((pq p1.aQ p2).bind λx1=>(some {p1 with role:=1,commit:=0}))
def wM (p1:aj):Option (Int×aj):=(some (p1.commit,p1))
def gB (p1:aj):Option Int:=(some p1.commit)
theorem LG [Fuel] (p1:aj):wM p1=(gB p1).bind λx=>some (x,p1):=by
  simp only [wM,gB,d9,bU,eu,eB,eD,bV,bW,bX]
def BG [Fuel] (p1:aj):Option ((List aG)×aj):=((jd p1 0).bind λx1=>(some (x1,p1)))
def kL [Fuel] (p1:aj):Option (List aG):=((jd p1 0).bind λx1=>(some x1))
theorem PZ [Fuel] (p1:aj):BG p1=(kL p1).bind λx=>some (x,p1):=by
  simp only [BG,kL,d9,bU,eu,eB,eD,bV,bW,bX]
def xW (x1 x2:Int) (x3:aL):Option aL:=(bif(decide ((w64 (x2+1))<x1))then none else(some x3))
def xX (x4 x5:Int) (x6:List aG) (x7:Int) (x8:aL):Nat->(List aA)->Int->Option aL|0,_,_=>none|fu1+1,x9,x10=>(bif(decide (x10<x7))then(ixL x6 x10 Vk=>(chk (decide ((x9.length+ [x11.Entry].length)*72<=room)) ((xX x4 x5 x6 x7 x8 fu1) (x9++ [x11.Entry]) (w64 (x10+1)))))else xW x4 x5 (⟨[(x8.au.getD 0 default)],x8.net,x9⟩:aL))
def Dl [Fuel] (p1:aL):Option aL:=(bif(decide (0<1))then((gB (p1.au.getD 0 default)).bind UM=>(bif(decide (x12<=((p1.committed.length:Nat):Int)))then xW 1 0 {p1 with au:= [(p1.au.getD 0 default)]}else((gB (p1.au.getD 0 default)).bind abk=>(chk (decide ((0:Int)<=0/\(0:Int)<=x13/\(x13:Int)<=9223372036854775807/\(x13:Int)*72<=140737488355328)) ((kL (p1.au.getD 0 default)).bind aem=>((gB (p1.au.getD 0 default)).bind ady=>(chk (decide (0<=x15/\x15<=((x14.length:Nat):Int))) (xX 1 0 (x14.take (Int.toNat x15)) (((x14.take (Int.toNat x15)).length:Nat):Int) {p1 with au:= [(p1.au.getD 0 default)]} fuel (List.replicate (Int.toNat 0) (default:aA)) 0))))))))else none)
def iO [Fuel] (x1:aL):Option (Int×aL):=((Dl x1).bind λx2=>(some (0,{x2 with au:= [(x2.au.getD 0 default)]})))
def H9 [Fuel] (p1:aL) (p2:gD):Option (Int×aL):=((ni {p1 with au:= [(p1.au.getD 0 default)]} p2).bind λx3=>(bif(!x3)then(some (1,{p1 with au:= [(p1.au.getD 0 default)]}))else(bif(p2.Kind==1)then(bif(p2.Who==0)then((Ci (p1.au.getD 0 default)).bind λx4=>((lC {p1 with au:= [x4.2]} x4.1).bind λx5=>iO {x5 with au:= [(x5.au.getD 0 default)]}))else none)else(bif(p2.Kind==2)then(bif(p2.Who==0)then((Dj (p1.au.getD 0 default) p2.Entry).bind λx6=>(bif(x6.2.1 !=0)then(some (x6.2.1,{p1 with au:= [x6.2.2]}))else((lC {p1 with au:= [x6.2.2]} x6.1).bind λx7=>iO {x7 with au:= [(x7.au.getD 0 default)]})))else none)else(bif(p2.Kind==3)then(bif(p2.Who==0)then((qz (p1.au.getD 0 default)).bind λx8=>((lC {p1 with au:= [(p1.au.getD 0 default)]} x8).bind λx9=>iO {x9 with au:= [(x9.au.getD 0 default)]}))else none)else(bif(p2.Kind==4)then(ixL p1.net p2.N Md=>((sJ {p1 with au:= [(p1.au.getD 0 default)]} p2.N).bind Vk=>(bif(x10.To==0)then((qA (x11.au.getD 0 default) {x10 with To:=0}).bind UM=>((lC {x11 with au:= [x12.2]} x12.1).bind abk=>iO {x13 with au:= [(x13.au.getD 0 default)]}))else none)))else(bif(p2.Kind==5)then(ixL p1.net p2.N aem=>(bif(x14.To==0)then((qA (p1.au.getD 0 default) {x14 with To:=0}).bind ady=>((lC {p1 with au:= [x15.2]} x15.1).bind agG=>iO {x16 with au:= [(x16.au.getD 0 default)]}))else none))else(bif(p2.Kind==6)then((sJ {p1 with au:= [(p1.au.getD 0 default)]} p2.N).bind aiZ=>iO {x17 with au:= [(x17.au.getD 0 default)]})else(bif(p2.Kind==7)then(bif(p2.Who==0)then((GN (p1.au.getD 0 default) p2.N).bind alm=>iO {p1 with au:= [x18]})else none)else iO {p1 with au:= [(p1.au.getD 0 default)]})))))))))
def qB [Fuel] (p2:Int):Nat->(List aC)->(List aA)->Int->Int->Int->Int->Int->Int->Int->Int->Int->Int->Int->Int->Int->Int->Int->Int->Int->(List aG)->aZ->Int->Option (Int×aL)|0,_,_,_,_,_,_,_,_,_,_,_,_,_,_,_,_,_,_,_,_,_,_=>none|fu1+1,x1,x2,x3,x4,x5,x6,x7,x8,x9,x10,x11,x12,x13,x14,x15,x16,x17,x18,x19,x20,x21,x22=>(bif((decide (0<((x1.length:Nat):Int)))&&(decide (x22<5000)))then(ixL x1 0 aoU=>((sJ (⟨[⟨⟨x21,x18,x19,x20⟩,x3,x4,x5,x6,x7,⟨x8,x9,x10,x11,x12⟩,⟨x13,x14,x15,x16,x17⟩⟩],x1,x2⟩:aL) 0).bind apY=>(chk (decide ((0:Int)<=(IntKind.u64.wrap x23.From))) (chk (!(!((jK .i64 (oI .i64 p2 (IntKind.u64.wrap x23.From)) 1)==0))||decide ((0:Int)<=(IntKind.u64.wrap x23.To))) (bif(((jK .i64 (oI .i64 p2 (IntKind.u64.wrap x23.From)) 1)==0)||((jK .i64 (oI .i64 p2 (IntKind.u64.wrap x23.To)) 1)==0))then(qB p2 fu1) x24.net x24.committed ((x24.au.getD 0 default).id) ((x24.au.getD 0 default).n) ((x24.au.getD 0 default).role) ((x24.au.getD 0 default).commit) ((x24.au.getD 0 default).CR) ((x24.au.getD 0 default).next.e0) ((x24.au.getD 0 default).next.e1) ((x24.au.getD 0 default).next.e2) ((x24.au.getD 0 default).next.e3) ((x24.au.getD 0 default).next.e4) ((x24.au.getD 0 default).match_.e0) ((x24.au.getD 0 default).match_.e1) ((x24.au.getD 0 default).match_.e2) ((x24.au.getD 0 default).match_.e3) ((x24.au.getD 0 default).match_.e4) ((x24.au.getD 0 default).aQ.term) ((x24.au.getD 0 default).aQ.RU) ((x24.au.getD 0 default).aQ.log) ((x24.au.getD 0 default).aQ.tZ) x22 else(bif(x23.To==0)then((qA (x24.au.getD 0 default) {x23 with To:=0}).bind ash=>((lC {x24 with au:= [x25.2]} x25.1).bind asi=>((Dl {x26 with au:= [(x26.au.getD 0 default)]}).bind auD=>(qB p2 fu1) x27.net x27.committed ((x27.au.getD 0 default).id) ((x27.au.getD 0 default).n) ((x27.au.getD 0 default).role) ((x27.au.getD 0 default).commit) ((x27.au.getD 0 default).CR) ((x27.au.getD 0 default).next.e0) ((x27.au.getD 0 default).next.e1) ((x27.au.getD 0 default).next.e2) ((x27.au.getD 0 default).next.e3) ((x27.au.getD 0 default).next.e4) ((x27.au.getD 0 default).match_.e0) ((x27.au.getD 0 default).match_.e1) ((x27.au.getD 0 default).match_.e2) ((x27.au.getD 0 default).match_.e3) ((x27.au.getD 0 default).match_.e4) ((x27.au.getD 0 default).aQ.term) ((x27.au.getD 0 default).aQ.RU) ((x27.au.getD 0 default).aQ.log) ((x27.au.getD 0 default).aQ.tZ) (w64 (x22+1)))))else none))))))else(some (x22,(⟨[⟨⟨x21,x18,x19,x20⟩,x3,x4,x5,x6,x7,⟨x8,x9,x10,x11,x12⟩,⟨x13,x14,x15,x16,x17⟩⟩],x1,x2⟩:aL))))
def BH [Fuel] (p1:aL) (p2:Int):Option (Int×aL):=qB p2 fuel p1.net p1.committed ((p1.au.getD 0 default).id) ((p1.au.getD 0 default).n) ((p1.au.getD 0 default).role) ((p1.au.getD 0 default).commit) ((p1.au.getD 0 default).CR) ((p1.au.getD 0 default).next.e0) ((p1.au.getD 0 default).next.e1) ((p1.au.getD 0 default).next.e2) ((p1.au.getD 0 default).next.e3) ((p1.au.getD 0 default).next.e4) ((p1.au.getD 0 default).match_.e0) ((p1.au.getD 0 default).match_.e1) ((p1.au.getD 0 default).match_.e2) ((p1.au.getD 0 default).match_.e3) ((p1.au.getD 0 default).match_.e4) ((p1.au.getD 0 default).aQ.term) ((p1.au.getD 0 default).aQ.RU) ((p1.au.getD 0 default).aQ.log) ((p1.au.getD 0 default).aQ.tZ) 0
def zN (p1:aL) (p2:Int):Option (Int×aL):=((iL {p1 with au:= [(p1.au.getD 0 default)]} p2).bind λx1=>(bif(!x1)then(some (0,{p1 with au:= [(p1.au.getD 0 default)]}))else(bif(p2==0)then((gB (p1.au.getD 0 default)).bind λx2=>(some (x2,{p1 with au:= [(p1.au.getD 0 default)]})))else none)))
def qC (p1:aL) (p2:Int):Option Int:=((iL {p1 with au:= [(p1.au.getD 0 default)]} p2).bind λx1=>(bif(!x1)then(some 0)else(bif(p2==0)then((gB (p1.au.getD 0 default)).bind λx2=>(some x2))else none)))
theorem NW [Fuel] (p1:aL) (p2:Int):zN p1 p2=(qC p1 p2).bind λx=>some (x,{p1 with au:= [(p1.au.getD 0 default)]}):=by
  simp only [zN,qC,d9,bU,eu,eB,eD,bV,bW,bX]
def Fv [Fuel] (p1:aL) (p2:Int):Option ((List aG)×aL):=((iL {p1 with au:= [(p1.au.getD 0 default)]} p2).bind λx1=>(bif(!x1)then(some (([]:List aG),{p1 with au:= [(p1.au.getD 0 default)]}))else(bif(p2==0)then((kL (p1.au.getD 0 default)).bind λx2=>(some (x2,{p1 with au:= [(p1.au.getD 0 default)]})))else none)))
def qd [Fuel] (p1:aL) (p2:Int):Option (List aG):=((iL {p1 with au:= [(p1.au.getD 0 default)]} p2).bind λx1=>(bif(!x1)then(some ([]:List aG))else(bif(p2==0)then((kL (p1.au.getD 0 default)).bind λx2=>(some x2))else none)))
theorem SX [Fuel] (p1:aL) (p2:Int):Fv p1 p2=(qd p1 p2).bind λx=>some (x,{p1 with au:= [(p1.au.getD 0 default)]}):=by
  simp only [Fv,qd,d9,bU,eu,eB,eD,bV,bW,bX]
def mM (jS:Int->Int->Int->Int->Option (Int×aV)) (x1 x2 x3 x4:Int):Option (Int×aV):=jS x1 x2 x3 (w64 (x4+1))
def qg (jS:Int->Int->Int->Int->Option (Int×aV)) (x5 x6 x7 x8:Int) (x9:List aG) (x10 x11:Int):Option (Int×aV):=(bif((decide (x6<x10))||((x10==x6)&&(decide (x7<((x9.length:Nat):Int)))))then mM jS x8 x10 ((x9.length:Nat):Int) x11 else mM jS x5 x6 x7 x11)
def kJ [Fuel] (x12:Int) (x13:aV):Nat->Int->Int->Int->Int->Option (Int×aV)|0,_,_,_,_=>none|fu1+1,x5,x6,x7,x8=>(bif(decide (x8<x12))then((nY x13 x8).bind aem=>(bif(!x14)then mM (kJ x12 x13 fu1) x5 x6 x7 x8 else((qd x13.net x8).bind λx9=>(bif(decide (0<((x9.length:Nat):Int)))then(ixL x9 (w64 (((x9.length:Nat):Int) - 1)) ady=>qg (kJ x12 x13 fu1) x5 x6 x7 x8 x9 x15.Term x8)else qg (kJ x12 x13 fu1) x5 x6 x7 x8 x9 0 x8))))else(some (x5,x13)))
def Ia [Fuel] (p1:aV):Option (Int×aV):=kJ ((p1.config.bO.length:Nat):Int) {p1 with net:={p1.net with au:= [(p1.net.au.getD 0 default)]}} fuel (-1) (-1) (-1) 0
def nL (eF:Int->Int->Int->Int->Option Int) (x1 x2 x3 x4:Int):Option Int:=eF x1 x2 x3 (w64 (x4+1))
theorem wN [Fuel] (G:Int->Option (Int×aV)) (eF:Int->Int->Int->Int->Option Int) (x1 x2 x3 x4:Int):mM (λy1 y2 y3 y4=>(eF y1 y2 y3 y4).bind G) x1 x2 x3 x4=(nL eF x1 x2 x3 x4).bind G:=by
  simp only [mM,nL,d9,bU,eu,eB,eD,bV,bW,bX]
def rD (eF:Int->Int->Int->Int->Option Int) (x5 x6 x7 x8:Int) (x9:List aG) (x10 x11:Int):Option Int:=(bif((decide (x6<x10))||((x10==x6)&&(decide (x7<((x9.length:Nat):Int)))))then nL eF x8 x10 ((x9.length:Nat):Int) x11 else nL eF x5 x6 x7 x11)
theorem ED [Fuel] (G:Int->Option (Int×aV)) (eF:Int->Int->Int->Int->Option Int) (x5 x6 x7 x8:Int) (x9:List aG) (x10 x11:Int):qg (λy1 y2 y3 y4=>(eF y1 y2 y3 y4).bind G) x5 x6 x7 x8 x9 x10 x11=(rD eF x5 x6 x7 x8 x9 x10 x11).bind G:=by
  simp only [qg,rD,d9,bU,eu,eB,eD,bV,bW,bX,wN]
def kM [Fuel] (x12:Int) (x13:aV):Nat->Int->Int->Int->Int->Option Int|0,_,_,_,_=>none|fu1+1,x5,x6,x7,x8=>(bif(decide (x8<x12))then((nY x13 x8).bind aem=>(bif(!x14)then nL (kM x12 x13 fu1) x5 x6 x7 x8 else((qd x13.net x8).bind λx9=>(bif(decide (0<((x9.length:Nat):Int)))then(ixL x9 (w64 (((x9.length:Nat):Int) - 1)) ady=>rD (kM x12 x13 fu1) x5 x6 x7 x8 x9 x15.Term x8)else rD (kM x12 x13 fu1) x5 x6 x7 x8 x9 0 x8))))else(some x5))
theorem EF [Fuel] (x12:Int) (x13:aV):∀n:Nat,kJ x12 x13 n=λx5 x6 x7 x8=>(kM x12 x13 n x5 x6 x7 x8).bind (λx=>some (x,x13))
  |0=>rfl
  | n+1=>by
    funext x5 x6 x7 x8
    simp only [kJ,kM,EF x12 x13 n,d9,bU,eu,eB,eD,bV,bW,bX,ED,wN]
def w9 [Fuel] (p1:aV):Option Int:=kM ((p1.config.bO.length:Nat):Int) {p1 with net:={p1.net with au:= [(p1.net.au.getD 0 default)]}} fuel (-1) (-1) (-1) 0
theorem Uq [Fuel] (p1:aV):Ia p1=(w9 p1).bind λx=>some (x,{p1 with net:={p1.net with au:= [(p1.net.au.getD 0 default)]}}):=by
  simp only [Ia,w9,d9,bU,eu,eB,eD,bV,bW,bX,ED,wN,EF]
def xY [Fuel] (Ck:(List aC)->(List aA)->Int->Int->Int->Int->Int->Int->Int->Int->Int->Int->Int->Int->Int->Int->Int->Int->Int->(List aG)->aZ->Int->Option (Bool×aV)) (x1 x2:Int) (x3:Bool) (x4:aV):Option (Bool×aV):=(bif x3 then((BH x4.net x4.up).bind λx5=>((qC {x5.2 with au:= [(x5.2.au.getD 0 default)]} x2).bind λx6=>(some ((decide (x4.state.Count<x6)),(⟨x4.config,{x5.2 with au:= [(x5.2.au.getD 0 default)]},x4.up,x4.state⟩:aV)))))else((w9 x4).bind λx7=>((H9 x4.net (⟨1,x7,0,⟨0,0,0,0,0,0,0,0,0⟩⟩:gD)).bind λx8=>((BH {x8.2 with au:= [(x8.2.au.getD 0 default)]} x4.up).bind λx9=>Ck x9.2.net x9.2.committed ((x9.2.au.getD 0 default).id) ((x9.2.au.getD 0 default).n) ((x9.2.au.getD 0 default).role) ((x9.2.au.getD 0 default).commit) ((x9.2.au.getD 0 default).CR) ((x9.2.au.getD 0 default).next.e0) ((x9.2.au.getD 0 default).next.e1) ((x9.2.au.getD 0 default).next.e2) ((x9.2.au.getD 0 default).next.e3) ((x9.2.au.getD 0 default).next.e4) ((x9.2.au.getD 0 default).match_.e0) ((x9.2.au.getD 0 default).match_.e1) ((x9.2.au.getD 0 default).match_.e2) ((x9.2.au.getD 0 default).match_.e3) ((x9.2.au.getD 0 default).match_.e4) ((x9.2.au.getD 0 default).aQ.term) ((x9.2.au.getD 0 default).aQ.RU) ((x9.2.au.getD 0 default).aQ.log) ((x9.2.au.getD 0 default).aQ.tZ) (w64 (x1+1))))))
def rE [Fuel] (p2:aA) (x10:Int) (x11:List dn) (x12:List bZ) (x13:List aW) (x14:List aY) (x15 x16:List Int) (x17 x18 x19 x20 x21 x22:Int) (x23:List ay) (x24:List aH) (x25 x26 x27 x28:Int):Nat->(List aC)->(List aA)->Int->Int->Int->Int->Int->Int->Int->Int->Int->Int->Int->Int->Int->Int->Int->Int->Int->(List aG)->aZ->Int->Option (Bool×aV)|0,_,_,_,_,_,_,_,_,_,_,_,_,_,_,_,_,_,_,_,_,_,_=>none|fu1+1,x29,x30,x31,x32,x33,x34,x35,x36,x37,x38,x39,x40,x41,x42,x43,x44,x45,x46,x47,x48,x49,x1=>(bif(decide (x1<4))then((Il (⟨[⟨⟨x49,x46,x47,x48⟩,x31,x32,x33,x34,x35,⟨x36,x37,x38,x39,x40⟩,⟨x41,x42,x43,x44,x45⟩⟩],x29,x30⟩:aL)).bind aCD=>((nY (⟨⟨x10,x11,x12,x13,x14,x15,x16,x17,x18,x19⟩,{x50.2 with au:= [(x50.2.au.getD 0 default)]},x20,⟨x21,x22,x23,x24,x25,x26,x27,x28⟩⟩:aV) x50.1).bind aCE=>(bif x51 then((H9 {x50.2 with au:= [(x50.2.au.getD 0 default)]} (⟨2,x50.1,0,p2⟩:gD)).bind aCF=>xY (rE p2 x10 x11 x12 x13 x14 x15 x16 x17 x18 x19 x20 x21 x22 x23 x24 x25 x26 x27 x28 fu1) x1 x50.1 (x52.1==0) (⟨⟨x10,x11,x12,x13,x14,x15,x16,x17,x18,x19⟩,{x52.2 with au:= [(x52.2.au.getD 0 default)]},x20,⟨x21,x22,x23,x24,x25,x26,x27,x28⟩⟩:aV))else xY (rE p2 x10 x11 x12 x13 x14 x15 x16 x17 x18 x19 x20 x21 x22 x23 x24 x25 x26 x27 x28 fu1) x1 x50.1 false (⟨⟨x10,x11,x12,x13,x14,x15,x16,x17,x18,x19⟩,{x50.2 with au:= [(x50.2.au.getD 0 default)]},x20,⟨x21,x22,x23,x24,x25,x26,x27,x28⟩⟩:aV))))else(some (false,(⟨⟨x10,x11,x12,x13,x14,x15,x16,x17,x18,x19⟩,⟨[⟨⟨x49,x46,x47,x48⟩,x31,x32,x33,x34,x35,⟨x36,x37,x38,x39,x40⟩,⟨x41,x42,x43,x44,x45⟩⟩],x29,x30⟩,x20,⟨x21,x22,x23,x24,x25,x26,x27,x28⟩⟩:aV))))
def KW [Fuel] (p1:aV) (p2:aA):Option (Bool×aV):=rE p2 p1.config.bK p1.config.kT p1.config.Cells p1.config.ah p1.config.bf p1.config.bO p1.config.cB p1.config.Bu p1.config.Lease p1.config.UL p1.up p1.state.Tick p1.state.Count p1.state.ah p1.state.Cells p1.state.jV p1.state.bg p1.state.Low p1.state.High fuel p1.net.net p1.net.committed ((p1.net.au.getD 0 default).id) ((p1.net.au.getD 0 default).n) ((p1.net.au.getD 0 default).role) ((p1.net.au.getD 0 default).commit) ((p1.net.au.getD 0 default).CR) ((p1.net.au.getD 0 default).next.e0) ((p1.net.au.getD 0 default).next.e1) ((p1.net.au.getD 0 default).next.e2) ((p1.net.au.getD 0 default).next.e3) ((p1.net.au.getD 0 default).next.e4) ((p1.net.au.getD 0 default).match_.e0) ((p1.net.au.getD 0 default).match_.e1) ((p1.net.au.getD 0 default).match_.e2) ((p1.net.au.getD 0 default).match_.e3) ((p1.net.au.getD 0 default).match_.e4) ((p1.net.au.getD 0 default).aQ.term) ((p1.net.au.getD 0 default).aQ.RU) ((p1.net.au.getD 0 default).aQ.log) ((p1.net.au.getD 0 default).aQ.tZ) 0
def JC [Fuel] (p1:aV) (p2:aA):Option (Int×Int×aV):=((uK {p1 with net:={p1.net with au:= [(p1.net.au.getD 0 default)]}}).bind λx1=>(bif(!x1)then(some (0,16,{p1 with net:={p1.net with au:= [(p1.net.au.getD 0 default)]}}))else((Fp p1.config p1.state p2).bind λx2=>(bif(x2.2 !=0)then(some (0,x2.2,{p1 with net:={p1.net with au:= [(p1.net.au.getD 0 default)]}}))else((KW {p1 with net:={p1.net with au:= [(p1.net.au.getD 0 default)]}} p2).bind λx3=>(bif(!x3.1)then(some (0,16,{x3.2 with net:={x3.2.net with au:= [(x3.2.net.au.getD 0 default)]}}))else(some (x3.2.state.Count,0,{x3.2 with net:={x3.2.net with au:= [(x3.2.net.au.getD 0 default)]},state:=x2.1}))))))))
def Dm (x1:xJ):Option (Bool×xJ):=(some (true,x1))
def Dn [Fuel] (p1:xJ) (p2:aA):Option (Bool×xJ):=((JC {p1.p with net:={p1.p.net with au:= [(p1.p.net.au.getD 0 default)]}} p2).bind λx2=>(bif(x2.2.1 !=0)then(some (false,{p1 with p:={x2.2.2 with net:={x2.2.2.net with au:= [(x2.2.2.net.au.getD 0 default)]}},copies:= [[((p1.copies.getD 0 default).getD 0 default),((p1.copies.getD 0 default).getD 1 default)]]}))else(bif(p2.Kind==2)then(chk (decide ((p1.granted.length+ [(⟨p2.aD,x2.1,{p2 with Version:=p2.N}⟩:bE)].length)*56<=room)) (Dm {p1 with p:={x2.2.2 with net:={x2.2.2.net with au:= [(x2.2.2.net.au.getD 0 default)]}},copies:= [[((p1.copies.getD 0 default).getD 0 default),((p1.copies.getD 0 default).getD 1 default)]],granted:=(p1.granted++ [(⟨p2.aD,x2.1,{p2 with Version:=p2.N}⟩:bE)])}))else Dm {p1 with p:={x2.2.2 with net:={x2.2.2.net with au:= [(x2.2.2.net.au.getD 0 default)]}},copies:= [[((p1.copies.getD 0 default).getD 0 default),((p1.copies.getD 0 default).getD 1 default)]]})))
def NY (p1 p2:Int):Option Int:=(chk (decide (p2≠(0:Int))) (chk (decide (p2≠(0:Int))) (some (Int.tmod (w64 ((Int.tmod p1 p2)+p2)) p2))))
def acE (p1:aT):Option Bool:=(some ((((((((decide (1<=p1.Epoch))&&(decide (p1.Epoch<=1048576)))&&(decide (0<=p1.Version)))&&(decide (p1.Version<30)))&&(decide (0<=p1.From)))&&(decide (p1.From<=1073741824)))&&(decide (p1.From<p1.Until)))&&(decide (p1.Until<=1073743824))))
def cmp_isNaN_int (p1:Int):Option Bool:=(some (p1 !=p1))
def cmp_Compare_int (p1 p2:Int):Option Int:=((cmp_isNaN_int p1).bind λx1=>((cmp_isNaN_int p2).bind λx2=>(bif x1 then(bif x2 then(some 0)else(some (-1)))else(bif x2 then(some 1)else(bif(decide (p1<p2))then(some (-1))else(bif(decide (p2<p1))then(some 1)else(some 0)))))))
def uQ (p1:List Int) (x1 x2:Int):Nat->Int->Option Int|0,_=>none|fu1+1,x3=>(bif(decide (x3<x2))then(ixL p1 x3 λx4=>(bif(x4 !=x1)then(some x4)else(uQ p1 x1 x2 fu1) (w64 (x3+1))))else(some x1))
def Jj [Fuel] (p1:(List Int)):Option Int:=uQ p1 0 ((p1.length:Nat):Int) fuel 0
def QK [Fuel] (p1 p2:aT):Option Int:=((cmp_Compare_int p1.From p2.From).bind λx1=>((cmp_Compare_int p1.Epoch p2.Epoch).bind λx2=>((cmp_Compare_int p1.Until p2.Until).bind λx3=>((cmp_Compare_int p1.Version p2.Version).bind λx4=>((Jj [x1,x2,x3,x4]).bind λx5=>(some x5))))))
def dh [Fuel] (p1:List aT) (p2:aT) (x1:Int):Nat->Int->Int->Option (Int×Bool)|0,_,_=>none|fu1+1,x2,x3=>(bif(decide (x2<x3))then(ixL p1 (IntKind.i64.wrap (oI .u64 (IntKind.u64.wrap (w64 (x2+x3))) 1)) λx4=>((QK x4 p2).bind λx5=>(bif(decide (x5<0))then(dh p1 p2 x1 fu1) (w64 ((IntKind.i64.wrap (oI .u64 (IntKind.u64.wrap (w64 (x2+x3))) 1))+1)) x3 else(dh p1 p2 x1 fu1) x2 (IntKind.i64.wrap (oI .u64 (IntKind.u64.wrap (w64 (x2+x3))) 1)))))else(ixG (decide (x2<x1)) p1 x2 λx6=>(((bif(decide (x2<x1))then QK x6 p2 else some default)).bind λx7=>(some (x2,((decide (x2<x1))&&(x7==0)))))))
def iR [Fuel] (p1:List aT) (p2:aT):Option (Int×Bool):=dh p1 p2 ((p1.length:Nat):Int) fuel 0 ((p1.length:Nat):Int)
def qh (p1:List aT) (p2:Int) (p3:List aT):Option (List aT):=(chk (decide (0<=p2/\p2<=((p1.length:Nat):Int)/\((p1.length:Nat):Int)<=((p1.length:Nat):Int))) (bif(((p3.length:Nat):Int)==0)then(some p1)else(bif(p2==((p1.length:Nat):Int))then(chk (decide ((p1.length+p3.length)*40<=room)) (some (p1++p3)))else none)))
def Fw (x1:bT):Option (Int×bT):=(some (0,x1))
def LH [Fuel] (p1:bT) (p2:aT):Option (Int×bT):=((acE p2).bind λx2=>(bif(!x2)then(some (1,p1))else(bif(p2.Cell !=p1.cell)then(some (5,p1))else(bif(decide (p2.Epoch<=p1.closed))then(some (7,p1))else((iR p1.windows p2).bind λx3=>(bif(!x3.2)then((qh p1.windows x3.1 [p2]).bind λx4=>Fw {p1 with windows:=x4})else Fw p1))))))
def QL [Fuel] (p1:xJ) (p2:Int):Option xJ:=(bif(((p1.granted.length:Nat):Int)==0)then(some {p1 with p:={p1.p with net:={p1.p.net with au:= [(p1.p.net.au.getD 0 default)]}},copies:= [[((p1.copies.getD 0 default).getD 0 default),((p1.copies.getD 0 default).getD 1 default)]]})else((NY p2 ((p1.granted.length:Nat):Int)).bind λx1=>(ixL p1.granted x1 λx2=>(bif(x2.aD==0)then(bif(x2.Window.Cell==1)then((oF ((p1.copies.getD 0 default).getD 1 default)).bind λx3=>((LH (((p1.copies.getD 0 default).getD 1 default).gate) {x2.Window with Cell:=1}).bind λx4=>(some {p1 with p:={p1.p with net:={p1.p.net with au:= [(p1.p.net.au.getD 0 default)]}},copies:= [[((p1.copies.getD 0 default).getD 0 default),{((p1.copies.getD 0 default).getD 1 default)with gate:=x4.2}]]})))else(bif(x2.Window.Cell==0)then((oF ((p1.copies.getD 0 default).getD 0 default)).bind λx5=>((LH (((p1.copies.getD 0 default).getD 0 default).gate) {x2.Window with Cell:=0}).bind λx6=>(some {p1 with p:={p1.p with net:={p1.p.net with au:= [(p1.p.net.au.getD 0 default)]}},copies:= [[{((p1.copies.getD 0 default).getD 0 default)with gate:=x6.2},((p1.copies.getD 0 default).getD 1 default)]]})))else none))else none))))
def Sc (p1:ByteArray):Option Bool:=(some ((decide (1<=((p1.size:Nat):Int)))&&(decide (((p1.size:Nat):Int)<=16))))
def QM (p1:ByteArray):Option Bool:=(some (decide (((p1.size:Nat):Int)<=64)))
def acF (p1:bJ):Option Bool:=(bif((((decide (p1.aD<0))||(decide (32<=p1.aD)))||(decide (p1.Client<1)))||(decide (8<p1.Client)))then(some false)else(bif(p1.Op==1)then(((bif((p1.Number==0)&&(p1.Item==0))then Sc p1.Key else some default)).bind λx1=>(some ((((p1.Number==0)&&(p1.Item==0))&&x1)&&(p1.Value.toList==ByteArray.empty.toList))))else(bif(p1.Op==2)then(((bif(((decide (1<=p1.Number))&&(decide (p1.Number<=1048576)))&&(p1.Item==0))then Sc p1.Key else some default)).bind λx2=>(((bif((((decide (1<=p1.Number))&&(decide (p1.Number<=1048576)))&&(p1.Item==0))&&x2)then QM p1.Value else some default)).bind λx3=>(some (((((decide (1<=p1.Number))&&(decide (p1.Number<=1048576)))&&(p1.Item==0))&&x2)&&x3))))else(bif(p1.Op==3)then(((bif(((decide (1<=p1.Number))&&(decide (p1.Number<=1048576)))&&(p1.Item==0))then Sc p1.Key else some default)).bind λx4=>(some (((((decide (1<=p1.Number))&&(decide (p1.Number<=1048576)))&&(p1.Item==0))&&x4)&&(p1.Value.toList==ByteArray.empty.toList))))else(bif(p1.Op==4)then(((bif((((decide (1<=p1.Number))&&(decide (p1.Number<=1048576)))&&(p1.Item==0))&&(p1.Key.toList==ByteArray.empty.toList))then QM p1.Value else some default)).bind λx5=>(some (((((decide (1<=p1.Number))&&(decide (p1.Number<=1048576)))&&(p1.Item==0))&&(p1.Key.toList==ByteArray.empty.toList))&&x5)))else(bif(p1.Op==5)then(some ((((p1.Number==0)&&(p1.Item==0))&&(p1.Key.toList==ByteArray.empty.toList))&&(p1.Value.toList==ByteArray.empty.toList)))else(bif(p1.Op==6)then(some ((((((decide (1<=p1.Number))&&(decide (p1.Number<=1048576)))&&(decide (1<=p1.Item)))&&(decide (p1.Item<=4096)))&&(p1.Key.toList==ByteArray.empty.toList))&&(p1.Value.toList==ByteArray.empty.toList)))else(some false))))))))
def oL (Dp:Int->Int->Option (Int×Bool×bT)) (x1 x2:Int):Option (Int×Bool×bT):=Dp x2 (w64 (x1+1))
def lN (p1:bT) (p2 p3 x3:Int):Nat->Int->Int->Option (Int×Bool×bT)|0,_,_=>none|fu1+1,x4,x1=>(bif(decide (x1<x3))then(ixL p1.windows x1 λx5=>(bif(((x5.Version==p2)&&(decide (x5.From<=p3)))&&(decide (p3<x5.Until)))then oL (lN p1 p2 p3 x3 fu1) x1 (UU x4 x5.Epoch)else oL (lN p1 p2 p3 x3 fu1) x1 x4))else(some (x4,(decide (0<x4)),p1)))
def Fx [Fuel] (p1:bT) (p2 p3:Int):Option (Int×Bool×bT):=lN p1 p2 p3 ((p1.windows.length:Nat):Int) fuel 0 0
def qD (nu:Int->Int->Option (Int×Bool)) (x1 x2:Int):Option (Int×Bool):=nu x2 (w64 (x1+1))
theorem Dq [Fuel] (G:(Int×Bool)->Option (Int×Bool×bT)) (nu:Int->Int->Option (Int×Bool)) (x1 x2:Int):oL (λy1 y2=>(nu y1 y2).bind G) x1 x2=(qD nu x1 x2).bind G:=by
  simp only [oL,qD,d9,bU,eu,eB,eD,bV,bW,bX]
def mF (p1:bT) (p2 p3 x3:Int):Nat->Int->Int->Option (Int×Bool)|0,_,_=>none|fu1+1,x4,x1=>(bif(decide (x1<x3))then(ixL p1.windows x1 λx5=>(bif(((x5.Version==p2)&&(decide (x5.From<=p3)))&&(decide (p3<x5.Until)))then qD (mF p1 p2 p3 x3 fu1) x1 (UU x4 x5.Epoch)else qD (mF p1 p2 p3 x3 fu1) x1 x4))else(some (x4,(decide (0<x4)))))
theorem Dt [Fuel] (p1:bT) (p2 p3 x3:Int):∀n:Nat,lN p1 p2 p3 x3 n=λx4 x1=>(mF p1 p2 p3 x3 n x4 x1).bind (λx=>some (x.1,x.2,p1))
  |0=>rfl
  | n+1=>by
    funext x4 x1
    simp only [lN,mF,Dt p1 p2 p3 x3 n,d9,bU,eu,eB,eD,bV,bW,bX,Dq]
def uR [Fuel] (p1:bT) (p2 p3:Int):Option (Int×Bool):=mF p1 p2 p3 ((p1.windows.length:Nat):Int) fuel 0 0
theorem SY [Fuel] (p1:bT) (p2 p3:Int):Fx p1 p2 p3=(uR p1 p2 p3).bind λx=>some (x.1,x.2,p1):=by
  simp only [Fx,uR,d9,bU,eu,eB,eD,bV,bW,bX,Dq,Dt]
def JD (p1:dN):Option (Int×dN):=(bif(((p1.history.length:Nat):Int)==0)then(some (0,p1))else(ixL p1.history (w64 (((p1.history.length:Nat):Int) - 1)) λx1=>(some (x1.Epoch,p1))))
def sZ (p1:dN):Option Int:=(bif(((p1.history.length:Nat):Int)==0)then(some 0)else(ixL p1.history (w64 (((p1.history.length:Nat):Int) - 1)) λx1=>(some x1.Epoch)))
theorem Vl [Fuel] (p1:dN):JD p1=(sZ p1).bind λx=>some (x,p1):=by
  simp only [JD,sZ,d9,bU,eu,eB,eD,bV,bW,bX]
def JE (p1:dM) (p2:ByteArray):Option (ByteArray×Int×Bool×dM):=(chk (p1.values.isEmpty) (some (ByteArray.empty,0,false,p1)))
def pY (p1:dM) (p2:ByteArray):Option (ByteArray×Int×Bool):=(chk (p1.values.isEmpty) (some (ByteArray.empty,0,false)))
theorem Vm [Fuel] (p1:dM) (p2:ByteArray):JE p1 p2=(pY p1 p2).bind λx=>some (x.1,x.2.1,x.2.2,p1):=by
  simp only [JE,pY,d9,bU,eu,eB,eD,bV,bW,bX]
def fA (p1:aM) (p3:Int) (x1:bQ):Option (eP×Int×aM):=(bif(p3==(w64 (x1.number+1)))then(some ((⟨0,0,0,ByteArray.empty⟩:eP),34,p1))else(bif(p3==x1.number)then(some (x1.reply,0,p1))else(some ((⟨0,0,0,ByteArray.empty⟩:eP),32,p1))))
def Du (p1:aM) (p2 p3:Int):Option (eP×Int×aM):=(bif((((decide (p2<1))||(decide (8<p2)))||(decide (p3<1)))||(decide (1048576<p3)))then(some ((⟨0,0,0,ByteArray.empty⟩:eP),1,p1))else(bif(p2==8)then fA p1 p3 p1.sessions.e7 else(bif(p2==7)then fA p1 p3 p1.sessions.e6 else(bif(p2==6)then fA p1 p3 p1.sessions.e5 else(bif(p2==5)then fA p1 p3 p1.sessions.e4 else(bif(p2==4)then fA p1 p3 p1.sessions.e3 else(bif(p2==3)then fA p1 p3 p1.sessions.e2 else(bif(p2==2)then fA p1 p3 p1.sessions.e1 else(bif(p2==1)then fA p1 p3 p1.sessions.e0 else(bif(p2==0)then none else none))))))))))
def eY (p3:Int) (x1:bQ):Option (eP×Int):=(bif(p3==(w64 (x1.number+1)))then(some ((⟨0,0,0,ByteArray.empty⟩:eP),34))else(bif(p3==x1.number)then(some (x1.reply,0))else(some ((⟨0,0,0,ByteArray.empty⟩:eP),32))))
theorem Ms [Fuel] (p1:aM) (p3:Int) (x1:bQ):fA p1 p3 x1=(eY p3 x1).bind (λx=>some (x.1,x.2,p1)):=by
  simp only [fA,eY,d9,bU,eu,eB,eD,bV,bW,bX]
def oM (p1:aM) (p2 p3:Int):Option (eP×Int):=(bif((((decide (p2<1))||(decide (8<p2)))||(decide (p3<1)))||(decide (1048576<p3)))then(some ((⟨0,0,0,ByteArray.empty⟩:eP),1))else(bif(p2==8)then eY p3 p1.sessions.e7 else(bif(p2==7)then eY p3 p1.sessions.e6 else(bif(p2==6)then eY p3 p1.sessions.e5 else(bif(p2==5)then eY p3 p1.sessions.e4 else(bif(p2==4)then eY p3 p1.sessions.e3 else(bif(p2==3)then eY p3 p1.sessions.e2 else(bif(p2==2)then eY p3 p1.sessions.e1 else(bif(p2==1)then eY p3 p1.sessions.e0 else(bif(p2==0)then none else none))))))))))
theorem QN [Fuel] (p1:aM) (p2 p3:Int):Du p1 p2 p3=(oM p1 p2 p3).bind λx=>some (x.1,x.2,p1):=by
  simp only [Du,oM,d9,bU,eu,eB,eD,bV,bW,bX,Ms]
def NZ (p1:dN):Option (Int×dN):=(some (((p1.history.length:Nat):Int),p1))
def tq (p1:dN):Option Int:=(some ((p1.history.length:Nat):Int))
theorem YJ [Fuel] (p1:dN):NZ p1=(tq p1).bind λx=>some (x,p1):=by
  simp only [NZ,tq,d9,bU,eu,eB,eD,bV,bW,bX]
def Ib (p1:dM):Option ((List ByteArray)×dM):=(chk (p1.values.isEmpty) (some ([],p1)))
def rF (p1:dM):Option (List ByteArray):=(chk (p1.values.isEmpty) (some []))
theorem Ur [Fuel] (p1:dM):Ib p1=(rF p1).bind λx=>some (x,p1):=by
  simp only [Ib,rF,d9,bU,eu,eB,eD,bV,bW,bX]
def jR (p1:(List bP)):Option (List bP):=(chk (decide ((([]:List bP).length+p1.length)*24<=room)) (some (([]:List bP)++p1)))
def Fy (p1:aO):Option ((List bP)×aO):=((jR p1.items).bind λx1=>(some (x1,p1)))
def kK (p1:aO):Option (List bP):=((jR p1.items).bind λx1=>(some x1))
theorem S9 [Fuel] (p1:aO):Fy p1=(kK p1).bind λx=>some (x,p1):=by
  simp only [Fy,kK,d9,bU,eu,eB,eD,bV,bW,bX]
def xZ (p1:bP) (p2:bJ):Option (Bool×bJ):=(some ((p1.Number==p2.Item),p2))
def lF (p1:bP) (p2:bJ):Option Bool:=(some (p1.Number==p2.Item))
theorem Mt [Fuel] (p1:bP) (p2:bJ):xZ p1 p2=(lF p1 p2).bind λx=>some (x,p2):=by
  simp only [xZ,lF,d9,bU,eu,eB,eD,bV,bW,bX]
def fJ (p1:List bP) (p2:bJ) (x1:Int):Nat->Int->Option (Int×bJ)|0,_=>none|fu1+1,x2=>(bif(decide (x2<x1))then(ixL p1 x2 λx3=>((lF x3 p2).bind λx4=>(bif x4 then(some (x2,p2))else(fJ p1 p2 x1 fu1) (w64 (x2+1)))))else(some ((-1),p2)))
def kU [Fuel] (p1:List bP) (p2:bJ):Option (Int×bJ):=fJ p1 p2 ((p1.length:Nat):Int) fuel 0
def gM (p1:List bP) (p2:bJ) (x1:Int):Nat->Int->Option Int|0,_=>none|fu1+1,x2=>(bif(decide (x2<x1))then(ixL p1 x2 λx3=>((lF x3 p2).bind λx4=>(bif x4 then(some x2)else(gM p1 p2 x1 fu1) (w64 (x2+1)))))else(some (-1)))
theorem mR [Fuel] (p1:List bP) (p2:bJ) (x1:Int):∀n:Nat,fJ p1 p2 x1 n=λx2=>(gM p1 p2 x1 n x2).bind (λx=>some (x,p2))
  |0=>rfl
  | n+1=>by
    funext x2
    simp only [fJ,gM,mR p1 p2 x1 n,d9,bU,eu,eB,eD,bV,bW,bX]
def fO [Fuel] (p1:List bP) (p2:bJ):Option Int:=gM p1 p2 ((p1.length:Nat):Int) fuel 0
theorem zO [Fuel] (p1:List bP) (p2:bJ):kU p1 p2=(fO p1 p2).bind λx=>some (x,p2):=by
  simp only [kU,fO,d9,bU,eu,eB,eD,bV,bW,bX,mR]
def jO [Fuel] (p1:List bP) (p2:bJ):Option (Bool×bJ):=((fO p1 p2).bind λx1=>(some ((decide (0<=x1)),p2)))
def fC [Fuel] (p1:List bP) (p2:bJ):Option Bool:=((fO p1 p2).bind λx1=>(some (decide (0<=x1))))
theorem xB [Fuel] (p1:List bP) (p2:bJ):jO p1 p2=(fC p1 p2).bind λx=>some (x,p2):=by
  simp only [jO,fC,d9,bU,eu,eB,eD,bV,bW,bX]
def Xa (p1:bH) (p2 p3:Int):Option Bool:=(some ((p1.Epoch==p2)&&(decide (p3<p1.Until))))
def oP (p1:aO) (p2 p3 p4 p5:Int) (x1:List bH) (x2:Int):Nat->Int->Option (Bool×aO)|0,_=>none|fu1+1,x3=>(bif(decide (x3<x2))then(ixL x1 x3 λx4=>(((bif((x4.Item==p4)&&(x4.Client==p2))then Xa x4 p3 p5 else some default)).bind λx5=>(bif(((x4.Item==p4)&&(x4.Client==p2))&&x5)then(some (true,p1))else(oP p1 p2 p3 p4 p5 x1 x2 fu1) (w64 (x3+1)))))else(some (false,p1)))
def Fz [Fuel] (p1:aO) (p2 p3 p4 p5:Int):Option (Bool×aO):=oP p1 p2 p3 p4 p5 p1.CX ((p1.CX.length:Nat):Int) fuel 0
def qE (p2 p3 p4 p5:Int) (x1:List bH) (x2:Int):Nat->Int->Option Bool|0,_=>none|fu1+1,x3=>(bif(decide (x3<x2))then(ixL x1 x3 λx4=>(((bif((x4.Item==p4)&&(x4.Client==p2))then Xa x4 p3 p5 else some default)).bind λx5=>(bif(((x4.Item==p4)&&(x4.Client==p2))&&x5)then(some true)else(qE p2 p3 p4 p5 x1 x2 fu1) (w64 (x3+1)))))else(some false))
theorem Dv [Fuel] (p1:aO) (p2 p3 p4 p5:Int) (x1:List bH) (x2:Int):∀n:Nat,oP p1 p2 p3 p4 p5 x1 x2 n=λx3=>(qE p2 p3 p4 p5 x1 x2 n x3).bind (λx=>some (x,p1))
  |0=>rfl
  | n+1=>by
    funext x3
    simp only [oP,qE,Dv p1 p2 p3 p4 p5 x1 x2 n,d9,bU,eu,eB,eD,bV,bW,bX]
def qj [Fuel] (p1:aO) (p2 p3 p4 p5:Int):Option Bool:=qE p2 p3 p4 p5 p1.CX ((p1.CX.length:Nat):Int) fuel 0
theorem Ta [Fuel] (p1:aO) (p2 p3 p4 p5:Int):Fz p1 p2 p3 p4 p5=(qj p1 p2 p3 p4 p5).bind λx=>some (x,p1):=by
  simp only [Fz,qj,d9,bU,eu,eB,eD,bV,bW,bX,Dv]
def BI [Fuel] (p1:dN) (p2 p3:Int) (p4:bJ):Option (Int×Int×dN):=((pY p1.now.Store p4.Key).bind λx1=>(bif(p4.Op==2)then(((bif(!x1.2.2)then rF p1.now.Store else some default)).bind λx2=>(bif((!x1.2.2)&&(decide (32<=((x2.length:Nat):Int))))then(some (0,33,p1))else(some (1,0,p1))))else(bif(p4.Op==3)then(bif(!x1.2.2)then(some (0,34,p1))else(some (2,0,p1)))else(bif(p4.Op==4)then((kK p1.now.Queue).bind λx3=>(bif(decide (16<=((x3.length:Nat):Int)))then(some (0,33,p1))else(some (3,0,p1))))else((kK p1.now.Queue).bind λx4=>((fC x4 p4).bind λx5=>(bif(!x5)then(some (0,34,p1))else((qj p1.now.Queue p4.Client p2 p4.Item p3).bind λx6=>(bif(!x6)then(some (0,35,p1))else(some (4,0,p1)))))))))))
def rG [Fuel] (p1:dN) (p2 p3:Int) (p4:bJ):Option (Int×Int):=((pY p1.now.Store p4.Key).bind λx1=>(bif(p4.Op==2)then(((bif(!x1.2.2)then rF p1.now.Store else some default)).bind λx2=>(bif((!x1.2.2)&&(decide (32<=((x2.length:Nat):Int))))then(some (0,33))else(some (1,0))))else(bif(p4.Op==3)then(bif(!x1.2.2)then(some (0,34))else(some (2,0)))else(bif(p4.Op==4)then((kK p1.now.Queue).bind λx3=>(bif(decide (16<=((x3.length:Nat):Int)))then(some (0,33))else(some (3,0))))else((kK p1.now.Queue).bind λx4=>((fC x4 p4).bind λx5=>(bif(!x5)then(some (0,34))else((qj p1.now.Queue p4.Client p2 p4.Item p3).bind λx6=>(bif(!x6)then(some (0,35))else(some (4,0)))))))))))
theorem P5 [Fuel] (p1:dN) (p2 p3:Int) (p4:bJ):BI p1 p2 p3 p4=(rG p1 p2 p3 p4).bind λx=>some (x.1,x.2,p1):=by
  simp only [BI,rG,d9,bU,eu,eB,eD,bV,bW,bX]
def Us (p1:ByteArray):Option Bool:=(some ((decide (1<=((p1.size:Nat):Int)))&&(decide (((p1.size:Nat):Int)<=16))))
def N7 (p1:ByteArray):Option Bool:=(some (decide (((p1.size:Nat):Int)<=64)))
def JF (p1:aU):Option Bool:=(bif((((((((decide (p1.Epoch<1))||(decide (1048576<p1.Epoch)))||(decide (p1.Seq<1)))||(decide (4096<p1.Seq)))||(decide (p1.Client<1)))||(decide (8<p1.Client)))||(decide (p1.Number<1)))||(decide (1048576<p1.Number)))then(some false)else(bif(p1.Kind==1)then((Us p1.Key).bind λx1=>(((bif x1 then N7 p1.Value else some default)).bind λx2=>(some ((x1&&x2)&&(p1.Item==0)))))else(bif(p1.Kind==2)then((Us p1.Key).bind λx3=>(some ((x3&&(p1.Value.toList==ByteArray.empty.toList))&&(p1.Item==0))))else(bif(p1.Kind==3)then(((bif(p1.Key.toList==ByteArray.empty.toList)then N7 p1.Value else some default)).bind λx4=>(some (((p1.Key.toList==ByteArray.empty.toList)&&x4)&&(p1.Item==0))))else(bif(p1.Kind==4)then(some ((((p1.Key.toList==ByteArray.empty.toList)&&(p1.Value.toList==ByteArray.empty.toList))&&(decide (1<=p1.Item)))&&(decide (p1.Item<p1.Seq))))else(some false))))))
def iT (p1:(List (Value×Value))):Option ((List (Value×Value))×(List (Value×Value))):=(some (p1,p1))
def O6 (p1:dM):Option (dM×dM):=((iT p1.values).bind λx1=>(some ((⟨x1.1⟩:dM),(⟨x1.2⟩:dM))))
def sD (p1:(List bH)):Option (List bH):=(chk (decide ((([]:List bH).length+p1.length)*32<=room)) (some (([]:List bH)++p1)))
def O7 (p1:aO):Option (aO×aO):=((jR p1.items).bind λx1=>((sD p1.CX).bind λx2=>(some ((⟨x1,x2,p1.greatest⟩:aO),p1))))
def Dw (p1:aM):Option (aM×aM):=(some (p1,p1))
def sK (p1:aM):Option aM:=(some p1)
theorem QO [Fuel] (p1:aM):Dw p1=(sK p1).bind λx=>some (x,p1):=by
  simp only [Dw,sK,d9,bU,eu,eB,eD,bV,bW,bX]
def QS (p1:oJ):Option (oJ×dM×aO×aM):=((O6 p1.Store).bind λx1=>((O7 p1.Queue).bind λx2=>((sK p1.Table).bind λx3=>(some ((⟨x1.1,x2.1,x3⟩:oJ),x1.2,x2.2,p1.Table)))))
def qF (x1:aM):Option (Int×aM):=(some (0,x1))
def JG (p1:aM) (p2:aU):Option (Int×aM):=((JF p2).bind λx2=>(bif(!x2)then(some (1,p1))else(bif(p2.Client==1)then(bif(p2.Number !=(w64 (p1.sessions.e0.number+1)))then(some (32,p1))else(bif(p2.Kind==3)then qF (⟨{p1.sessions with e0:=(⟨p2.Number,⟨0,p2.Seq,p2.Seq,ByteArray.empty⟩⟩:bQ)}⟩:aM)else(bif(p2.Kind==4)then qF (⟨{p1.sessions with e0:=(⟨p2.Number,⟨0,p2.Seq,p2.Item,ByteArray.empty⟩⟩:bQ)}⟩:aM)else qF (⟨{p1.sessions with e0:=(⟨p2.Number,⟨0,p2.Seq,0,ByteArray.empty⟩⟩:bQ)}⟩:aM))))else none)))
def zP (x1:(List (Value×Value))):Option (Int×dM):=(some (0,(⟨x1⟩:dM)))
def Mv (p1:dM) (p2:aU):Option (Int×dM):=((JF p2).bind λx2=>(bif(!x2)then(some (1,p1))else(chk (p1.values.isEmpty) (bif(p2.Kind==1)then(bif((!false)&&(decide (32<=((p1.values.length:Nat):Int))))then(some (33,p1))else(chk (p1.values.isEmpty) (zP [(Value.string p2.Key,Value.agg #[Value.string p2.Value,Value.int .i64 p2.Seq])])))else(bif(p2.Kind==2)then(bif(!false)then(some (34,p1))else none)else zP p1.values)))))
def BJ (p1:bP) (p2:aU):Option (Bool×aU):=(some ((p1.Number==p2.Item),p2))
def nM (p1:bP) (p2:aU):Option Bool:=(some (p1.Number==p2.Item))
theorem P6 [Fuel] (p1:bP) (p2:aU):BJ p1 p2=(nM p1 p2).bind λx=>some (x,p2):=by
  simp only [BJ,nM,d9,bU,eu,eB,eD,bV,bW,bX]
def eX (p1:List bP) (p2:aU) (x1:Int):Nat->Int->Option (Int×aU)|0,_=>none|fu1+1,x2=>(bif(decide (x2<x1))then(ixL p1 x2 λx3=>((nM x3 p2).bind λx4=>(bif x4 then(some (x2,p2))else(eX p1 p2 x1 fu1) (w64 (x2+1)))))else(some ((-1),p2)))
def jP [Fuel] (p1:List bP) (p2:aU):Option (Int×aU):=eX p1 p2 ((p1.length:Nat):Int) fuel 0
def fZ (p1:List bP) (p2:aU) (x1:Int):Nat->Int->Option Int|0,_=>none|fu1+1,x2=>(bif(decide (x2<x1))then(ixL p1 x2 λx3=>((nM x3 p2).bind λx4=>(bif x4 then(some x2)else(fZ p1 p2 x1 fu1) (w64 (x2+1)))))else(some (-1)))
theorem lG [Fuel] (p1:List bP) (p2:aU) (x1:Int):∀n:Nat,eX p1 p2 x1 n=λx2=>(fZ p1 p2 x1 n x2).bind (λx=>some (x,p2))
  |0=>rfl
  | n+1=>by
    funext x2
    simp only [eX,fZ,lG p1 p2 x1 n,d9,bU,eu,eB,eD,bV,bW,bX]
def gN [Fuel] (p1:List bP) (p2:aU):Option Int:=fZ p1 p2 ((p1.length:Nat):Int) fuel 0
theorem xC [Fuel] (p1:List bP) (p2:aU):jP p1 p2=(gN p1 p2).bind λx=>some (x,p2):=by
  simp only [jP,gN,d9,bU,eu,eB,eD,bV,bW,bX,lG]
def tu (p1:List bP) (p2 p3:Int):Option (List bP):=none
def BK (p1:bH) (p2:aU):Option (Bool×aU):=(some ((p1.Item==p2.Item),p2))
def kN (p1:bH) (p2:aU):Option Bool:=(some (p1.Item==p2.Item))
theorem P7 [Fuel] (p1:bH) (p2:aU):BK p1 p2=(kN p1 p2).bind λx=>some (x,p2):=by
  simp only [BK,kN,d9,bU,eu,eB,eD,bV,bW,bX]
def fD (p1:List bH) (p2:aU) (x1:Int):Nat->Int->Option (Int×aU)|0,_=>none|fu1+1,x2=>(bif(decide (x2<x1))then(ixL p1 x2 λx3=>((kN x3 p2).bind λx4=>(bif x4 then(some (x2,p2))else(fD p1 p2 x1 fu1) (w64 (x2+1)))))else(some ((-1),p2)))
def jW [Fuel] (p1:List bH) (p2:aU):Option (Int×aU):=fD p1 p2 ((p1.length:Nat):Int) fuel 0
def gq (p1:List bH) (p2:aU) (x1:Int):Nat->Int->Option Int|0,_=>none|fu1+1,x2=>(bif(decide (x2<x1))then(ixL p1 x2 λx3=>((kN x3 p2).bind λx4=>(bif x4 then(some x2)else(gq p1 p2 x1 fu1) (w64 (x2+1)))))else(some (-1)))
theorem lT [Fuel] (p1:List bH) (p2:aU) (x1:Int):∀n:Nat,fD p1 p2 x1 n=λx2=>(gq p1 p2 x1 n x2).bind (λx=>some (x,p2))
  |0=>rfl
  | n+1=>by
    funext x2
    simp only [fD,gq,lT p1 p2 x1 n,d9,bU,eu,eB,eD,bV,bW,bX]
def gV [Fuel] (p1:List bH) (p2:aU):Option Int:=gq p1 p2 ((p1.length:Nat):Int) fuel 0
theorem yc [Fuel] (p1:List bH) (p2:aU):jW p1 p2=(gV p1 p2).bind λx=>some (x,p2):=by
  simp only [jW,gV,d9,bU,eu,eB,eD,bV,bW,bX,lT]
def ji (lH:(List bH)->Int->Int->Option ((List bH)×aU)) (x1:Int) (x2:List bH) (x3:Int):Option ((List bH)×aU):=lH x2 x3 (w64 (x1+1))
def gH (p2:aU):Nat->(List bH)->Int->Int->Option ((List bH)×aU)|0,_,_,_=>none|fu1+1,x4,x5,x1=>(bif(decide (x1<((x4.length:Nat):Int)))then(ixL x4 x1 λx6=>((kN x6 p2).bind λx7=>(bif(!x7)then(ixL x4 x5 λx8=>(dZ (x4.set (Int.toNat x5) x6) λx9=>ji (gH p2 fu1) x1 x9 (w64 (x5+1))))else ji (gH p2 fu1) x1 x4 x5)))else(chk (decide (0<=x5/\x5<=((x4.length:Nat):Int)/\((x4.length:Nat):Int)<=((x4.length:Nat):Int))) (chk (decide ((0+Int.toNat x5)+(Int.toNat ((x4.length:Nat):Int) - Int.toNat x5)<=x4.length)) (chk (decide (0<=x5/\x5<=(((ald (0+Int.toNat x5) (Int.toNat ((x4.length:Nat):Int) - Int.toNat x5) x4 (List.replicate (Int.toNat ((x4.length:Nat):Int) - Int.toNat x5) (default:bH))).length:Nat):Int))) (chk (decide ((Int.toNat x5)<=(ald (0+Int.toNat x5) (Int.toNat ((x4.length:Nat):Int) - Int.toNat x5) x4 (List.replicate (Int.toNat ((x4.length:Nat):Int) - Int.toNat x5) (default:bH))).length)) (some (((ald (0+Int.toNat x5) (Int.toNat ((x4.length:Nat):Int) - Int.toNat x5) x4 (List.replicate (Int.toNat ((x4.length:Nat):Int) - Int.toNat x5) (default:bH))).take (Int.toNat x5)),p2)))))))
def oQ [Fuel] (p1:List bH) (p2:aU):Option ((List bH)×aU):=((gV p1 p2).bind Md=>(bif(x10==(-1))then(some (p1,p2))else gH p2 fuel p1 x10 (w64 (x10+1))))
def sM (x1:aO):Option (Int×aO):=(some (0,x1))
def Mw [Fuel] (p1:aO) (p2:aU):Option (Int×aO):=((JF p2).bind λx2=>(bif(!x2)then(some (1,p1))else(bif(p2.Kind==3)then(bif(decide (p2.Seq<=p1.greatest))then(some (36,p1))else(bif(decide (16<=((p1.items.length:Nat):Int)))then(some (33,p1))else(chk (decide ((p1.items.length+ [(⟨p2.Seq,p2.Value⟩:bP)].length)*24<=room)) (sM (⟨(p1.items++ [(⟨p2.Seq,p2.Value⟩:bP)]),p1.CX,p2.Seq⟩:aO)))))else(bif(p2.Kind==4)then((gN p1.items p2).bind λx3=>(bif(decide (x3<0))then(some (34,p1))else((tu p1.items x3 (w64 (x3+1))).bind λx4=>((oQ p1.CX p2).bind λx5=>sM (⟨x4,x5.1,p1.greatest⟩:aO)))))else sM p1))))
def Tz [Fuel] (p1:oJ) (p2:aU):Option (Int×dM×aO×aM):=((JG p1.Table p2).bind λx1=>(bif(x1.1 !=0)then(some (x1.1,p1.Store,p1.Queue,x1.2))else((Mv p1.Store p2).bind λx2=>(bif(x2.1 !=0)then(some (x2.1,x2.2,p1.Queue,x1.2))else((Mw p1.Queue p2).bind λx3=>(some (x3.1,x2.2,x3.2,x1.2)))))))
def QT [Fuel] (p1:dN) (p2:aU):Option (Int×dN):=((JF p2).bind λx1=>(bif(!x1)then(some (1,p1))else((tq p1).bind λx2=>(((bif(!(p2.Seq !=(w64 (x2+1))))then sZ p1 else some default)).bind λx3=>(bif((p2.Seq !=(w64 (x2+1)))||(decide (p2.Epoch<x3)))then(some (36,p1))else((QS p1.now).bind λx4=>((Tz x4.1 p2).bind λx5=>(bif(x5.1 !=0)then(some (x5.1,{p1 with now:=(⟨x4.2.1,x4.2.2.1,x4.2.2.2⟩:oJ)}))else(chk (decide ((p1.history.length+ [p2].length)*80<=room)) (some (0,{p1 with history:=(p1.history++ [p2]),now:=(⟨x5.2.1,x5.2.2.1,x5.2.2.2⟩:oJ)})))))))))))
def Dx (p4:bJ) (x1:Int) (x2:dN):Option (eP×dN):=(bif(x1 !=0)then(some ((⟨x1,0,0,ByteArray.empty⟩:eP),x2))else((oM x2.now.Table p4.Client p4.Number).bind λx3=>(some (x3.1,x2))))
def QU [Fuel] (p1:dN) (p2 p3:Int) (p4:bJ):Option (eP×dN):=((oM p1.now.Table p4.Client p4.Number).bind λx4=>(bif(x4.2==0)then(some (x4.1,p1))else(bif(x4.2 !=34)then(some ((⟨x4.2,0,0,ByteArray.empty⟩:eP),p1))else((tq p1).bind λx5=>(bif(decide (4096<=x5))then(some ((⟨2,0,0,ByteArray.empty⟩:eP),p1))else((rG p1 p2 p3 p4).bind λx6=>(bif(x6.2==0)then((tq p1).bind λx7=>((QT p1 (⟨p2,(w64 (x7+1)),x6.1,p4.Client,p4.Number,p4.Item,p4.Key,p4.Value⟩:aU)).bind λx8=>Dx p4 x8.1 x8.2))else Dx p4 x6.2 p1)))))))
def Mx [Fuel] (p1:dN) (p2 p3:Int) (p4:bJ):Option (eP×dN):=((acF p4).bind λx1=>(bif((((!x1)||(p4.aD !=p1.wX))||(decide (p3<0)))||(decide (1073741824<p3)))then(some ((⟨1,0,0,ByteArray.empty⟩:eP),p1))else((uR p1.gate p2 p3).bind λx2=>(((bif(!(!x2.2))then sZ p1 else some default)).bind λx3=>(bif((!x2.2)||(decide (x2.1<x3)))then(some ((⟨30,0,0,ByteArray.empty⟩:eP),p1))else(bif(p4.Op==1)then((pY p1.now.Store p4.Key).bind λx4=>(bif(!x4.2.2)then(some ((⟨34,0,0,ByteArray.empty⟩:eP),p1))else(some ((⟨0,x4.2.1,0,x4.1⟩:eP),p1))))else(bif(p4.Op==5)then none else((QU p1 x2.1 p3 p4).bind λx5=>(some (x5.1,x5.2))))))))))
def lZ (p1:(List aA)):Option (List aA):=(chk (decide ((([]:List aA).length+p1.length)*72<=room)) (some (([]:List aA)++p1)))
def uS (p1:aL):Option ((List aA)×aL):=((lZ p1.committed).bind λx1=>(some (x1,{p1 with au:= [(p1.au.getD 0 default)]})))
def jX (p1:aL):Option (List aA):=((lZ p1.committed).bind λx1=>(some x1))
theorem KC [Fuel] (p1:aL):uS p1=(jX p1).bind λx=>some (x,{p1 with au:= [(p1.au.getD 0 default)]}):=by
  simp only [uS,jX,d9,bU,eu,eB,eD,bV,bW,bX]
def BL (p1:aV):Option ((List aA)×aV):=((jX {p1.net with au:= [(p1.net.au.getD 0 default)]}).bind λx1=>(some (x1,{p1 with net:={p1.net with au:= [(p1.net.au.getD 0 default)]}})))
def rH (p1:aV):Option (List aA):=((jX {p1.net with au:= [(p1.net.au.getD 0 default)]}).bind λx1=>(some x1))
theorem P8 [Fuel] (p1:aV):BL p1=(rH p1).bind λx=>some (x,{p1 with net:={p1.net with au:= [(p1.net.au.getD 0 default)]}}):=by
  simp only [BL,rH,d9,bU,eu,eB,eD,bV,bW,bX]
def Dy [Fuel] (p1:ak) (p2 x1:List aA) (x2:Int):Nat->aB->Int->Option (aB×Int×Int)|0,_,_=>none|fu1+1,x3,x4=>(bif(decide (x4<x2))then(ixL x1 x4 λx5=>((Fp p1 x3 x5).bind λx6=>(bif(x6.2 !=0)then(some (x3,x4,x6.2))else(Dy p1 p2 x1 x2 fu1) x6.1 (w64 (x4+1)))))else(some (x3,((p2.length:Nat):Int),0)))
def MB [Fuel] (p1:ak) (p2:List aA):Option (aB×Int×Int):=((QB p1).bind λx7=>Dy p1 p2 p2 ((p2.length:Nat):Int) fuel x7 0)
def Ic (JH:(List bE)->Int->Option (List bE)) (x1:Int) (x2:List bE):Option (List bE):=JH x2 (w64 (x1+1))
def Bh (p2:aA) (x3:Int):Nat->(List bE)->Int->Option (List bE)|0,_,_=>none|fu1+1,x4,x1=>(bif(decide (x1<x3))then(ixL x4 x1 λx5=>(bif(x5.aD==p2.aD)then(ixL x4 x1 λx6=>(dZ (x4.set (Int.toNat x1) {x6 with Window:={x6.Window with Until:=(Qq x6.Window.Until (w64 (p2.Tick+1)))}}) λx7=>(dZ (x7.getD (Int.toNat x1) default) λx8=>(dZ (x7.set (Int.toNat x1) {x8 with Window:={x8.Window with From:=(Qq x8.Window.From x8.Window.Until)}}) λx9=>Ic (Bh p2 x3 fu1) x1 x9))))else Ic (Bh p2 x3 fu1) x1 x4))else(some x4))
def Vn [Fuel] (p1:List bE) (p2:aA):Option (List bE):=Bh p2 ((p1.length:Nat):Int) fuel p1 0
def BM (p1:bE):Option Bool:=(some (p1.Window.From==p1.Window.Until))
def jQ (p1:List bE) (x1:Int):Nat->Int->Option Int|0,_=>none|fu1+1,x2=>(bif(decide (x2<x1))then(ixL p1 x2 λx3=>((BM x3).bind λx4=>(bif x4 then(some x2)else(jQ p1 x1 fu1) (w64 (x2+1)))))else(some (-1)))
def qI [Fuel] (p1:(List bE)):Option Int:=jQ p1 ((p1.length:Nat):Int) fuel 0
def jF (mG:(List bE)->Int->Int->Option (List bE)) (x1:Int) (x2:List bE) (x3:Int):Option (List bE):=mG x2 x3 (w64 (x1+1))
def gW:Nat->(List bE)->Int->Int->Option (List bE)|0,_,_,_=>none|fu1+1,x4,x5,x1=>(bif(decide (x1<((x4.length:Nat):Int)))then(ixL x4 x1 λx6=>((BM x6).bind λx7=>(bif(!x7)then(ixL x4 x5 λx8=>(dZ (x4.set (Int.toNat x5) x6) λx9=>jF (gW fu1) x1 x9 (w64 (x5+1))))else jF (gW fu1) x1 x4 x5)))else(chk (decide (0<=x5/\x5<=((x4.length:Nat):Int)/\((x4.length:Nat):Int)<=((x4.length:Nat):Int))) (chk (decide ((0+Int.toNat x5)+(Int.toNat ((x4.length:Nat):Int) - Int.toNat x5)<=x4.length)) (chk (decide (0<=x5/\x5<=(((ald (0+Int.toNat x5) (Int.toNat ((x4.length:Nat):Int) - Int.toNat x5) x4 (List.replicate (Int.toNat ((x4.length:Nat):Int) - Int.toNat x5) (default:bE))).length:Nat):Int))) (chk (decide ((Int.toNat x5)<=(ald (0+Int.toNat x5) (Int.toNat ((x4.length:Nat):Int) - Int.toNat x5) x4 (List.replicate (Int.toNat ((x4.length:Nat):Int) - Int.toNat x5) (default:bE))).length)) (some ((ald (0+Int.toNat x5) (Int.toNat ((x4.length:Nat):Int) - Int.toNat x5) x4 (List.replicate (Int.toNat ((x4.length:Nat):Int) - Int.toNat x5) (default:bE))).take (Int.toNat x5))))))))
def ql [Fuel] (p1:(List bE)):Option (List bE):=((qI p1).bind Md=>(bif(x10==(-1))then(some p1)else gW fuel p1 x10 (w64 (x10+1))))
def BN [Fuel] (p1 p2:bE):Option Int:=((cmp_Compare_int p1.aD p2.aD).bind λx1=>((cmp_Compare_int p1.Index p2.Index).bind λx2=>((Jj [x1,x2]).bind λx3=>(some x3))))
def Cm [Fuel] (p1:(List bE)):Option (List bE):=(aly (λx y=>BN x y) p1)
def sN (Dz:(List bE)->Int->Option (List bE)) (x1:Int) (x2:List bE):Option (List bE):=Dz x2 (w64 (x1+1))
def oU [Fuel] (x3:List aA) (x4:Int):Nat->(List bE)->Int->Option (List bE)|0,_,_=>none|fu1+1,x5,x1=>(bif(decide (x1<x4))then(ixL x3 x1 λx6=>(bif(x6.Kind==2)then(chk (decide ((x5.length+ [(⟨x6.aD,x1,⟨x6.Cell,x6.Epoch,x6.N,x6.From,x6.Until⟩⟩:bE)].length)*56<=room)) (sN (oU x3 x4 fu1) x1 (x5++ [(⟨x6.aD,x1,⟨x6.Cell,x6.Epoch,x6.N,x6.From,x6.Until⟩⟩:bE)])))else(bif(x6.Kind==3)then((Vn x5 x6).bind λx7=>sN (oU x3 x4 fu1) x1 x7)else sN (oU x3 x4 fu1) x1 x5)))else((ql x5).bind λx8=>((Cm x8).bind λx9=>(some x9))))
def MC [Fuel] (p1:ak) (p2:List aA):Option (List bE):=((MB p1 p2).bind Md=>(chk (decide (0<=x10.2.1/\x10.2.1<=((p2.length:Nat):Int))) (oU (p2.take (Int.toNat x10.2.1)) (((p2.take (Int.toNat x10.2.1)).length:Nat):Int) fuel ([]:List bE) 0)))
def KX (p1:aT) (p2:Int):Option Bool:=(some ((decide (p1.From<=p2))&&(decide (p2<p1.Until))))
def BO (p3 p4:Int) (x1:List bE) (x2:Int):Nat->Int->Option (bE×Bool)|0,_=>none|fu1+1,x3=>(bif(decide (x3<x2))then(ixL x1 x3 λx4=>(((bif(x4.aD==p3)then KX x4.Window p4 else some default)).bind λx5=>(bif((x4.aD==p3)&&x5)then(some (x4,true))else(BO p3 p4 x1 x2 fu1) (w64 (x3+1)))))else(some ((⟨0,0,⟨0,0,0,0,0⟩⟩:bE),false)))
def O8 [Fuel] (p1:ak) (p2:List aA) (p3 p4:Int):Option (bE×Bool):=((MC p1 p2).bind λx1=>BO p3 p4 x1 ((x1.length:Nat):Int) fuel 0)
def GQ [Fuel] (x1:Bool) (x2:xJ):Option Bool:=(bif x1 then(some false)else((QL x2 0).bind λx3=>((Mx ((x3.copies.getD 0 default).getD 0 default) 0 3 (⟨0,1,1,2,0,(ByteArray.mk #[97]),(ByteArray.mk #[98])⟩:bJ)).bind λx4=>((rH {x3.p with net:={x3.p.net with au:= [(x3.p.net.au.getD 0 default)]}}).bind λx5=>((O8 x3.c x5 0 3).bind λx6=>(some ((((x4.1.Err==0)&&(x4.1.Seq==1))&&x6.2)&&(x6.1.Window.Cell==0))))))))
def Vo [Fuel]:Option Bool:=((amY).bind λx7=>((afx x7).bind λx8=>(bif false then(bif true then GQ true {x8 with p:={x8.p with net:={x8.p.net with au:= [(x8.p.net.au.getD 0 default)]}},copies:= [[((x8.copies.getD 0 default).getD 0 default),((x8.copies.getD 0 default).getD 1 default)]]}else((Dn {x8 with p:={x8.p with net:={x8.p.net with au:= [(x8.p.net.au.getD 0 default)]}},copies:= [[((x8.copies.getD 0 default).getD 0 default),((x8.copies.getD 0 default).getD 1 default)]]} (⟨2,0,0,0,(-1),1,0,20,0⟩:aA)).bind λx9=>GQ (!x9.1) {x9.2 with p:={x9.2.p with net:={x9.2.p.net with au:= [(x9.2.p.net.au.getD 0 default)]}},copies:= [[((x9.2.copies.getD 0 default).getD 0 default),((x9.2.copies.getD 0 default).getD 1 default)]]}))else((Dn {x8 with p:={x8.p with net:={x8.p.net with au:= [(x8.p.net.au.getD 0 default)]}},copies:= [[((x8.copies.getD 0 default).getD 0 default),((x8.copies.getD 0 default).getD 1 default)]]} (⟨1,0,0,0,1,0,0,0,0⟩:aA)).bind Md=>(bif(!x10.1)then GQ true {x10.2 with p:={x10.2.p with net:={x10.2.p.net with au:= [(x10.2.p.net.au.getD 0 default)]}},copies:= [[((x10.2.copies.getD 0 default).getD 0 default),((x10.2.copies.getD 0 default).getD 1 default)]]}else((Dn {x10.2 with p:={x10.2.p with net:={x10.2.p.net with au:= [(x10.2.p.net.au.getD 0 default)]}},copies:= [[((x10.2.copies.getD 0 default).getD 0 default),((x10.2.copies.getD 0 default).getD 1 default)]]} (⟨2,0,0,0,(-1),1,0,20,0⟩:aA)).bind Vk=>GQ (!x11.1) {x11.2 with p:={x11.2.p with net:={x11.2.p.net with au:= [(x11.2.p.net.au.getD 0 default)]}},copies:= [[((x11.2.copies.getD 0 default).getD 0 default),((x11.2.copies.getD 0 default).getD 1 default)]]}))))))
def Sd (p1:(List Int)):Option Bool:=(some (decide (((p1.length:Nat):Int)<=200)))
def Vp (p1:(List Int)):Option aP:=(some (⟨p1,0⟩:aP))
def bC (p1:aP) (p2:Int):Option (Int×aP):=(bif(((p1.L.length:Nat):Int)==0)then(some (0,p1))else(chk (decide (((p1.L.length:Nat):Int)≠(0:Int))) (ixL p1.L (Int.tmod p1.At ((p1.L.length:Nat):Int)) λx1=>(chk (decide (((p1.L.length:Nat):Int)≠(0:Int))) ((NY x1 1073741824).bind λx2=>((NY (w64 (x2+(w64 ((w64 (Int.tdiv p1.At ((p1.L.length:Nat):Int)))*7)))) p2).bind λx3=>(some (x3,{p1 with At:=(w64 (p1.At+1))}))))))))
def KY (p1 p2 p3:Int):Option Int:=((NY p1 (w64 ((w64 (p3 - p2))+1))).bind λx1=>(some (w64 (p2+x1))))
def gP (p1:aP) (p2 p3:Int):Option (Int×aP):=((bC p1 (w64 ((w64 (p3 - p2))+1))).bind λx1=>(some ((w64 (p2+x1.1)),x1.2)))
def dV (p1:aP) (p2:Int):Option (Bool×aP):=((bC p1 p2).bind λx1=>(some ((x1.1==0),x1.2)))
def Ao (ME:aP->ak->Int->Option ak) (x1:ak) (x2:Int) (x3:aP) (x4:aW):Option ak:=(chk (decide ((x1.ah.length+ [x4].length)*56<=room)) (ME x3 {x1 with ah:=(x1.ah++ [x4]),bf:=([]:List aY),bO:=([]:List Int),cB:=([]:List Int)} (w64 (x2 - 1))))
def Ap:Nat->aP->ak->Int->Option ak|0,_,_,_=>none|fu1+1,x5,x6,x7=>(bif(decide (0<x7))then((bC x5 ((x6.kT.length:Nat):Int)).bind λx8=>(chk (decide ((x6.cB.length+ [x8.1].length)*8<=room)) ((Ap fu1) x8.2 {x6 with cB:=(x6.cB++ [x8.1])} (w64 (x7 - 1)))))else(some x6))
def Aq [Fuel]:Nat->aP->ak->Int->Option ak|0,_,_,_=>none|fu2+1,x9,x10,x11=>(bif(decide (0<x11))then((bC x9 ((x10.kT.length:Nat):Int)).bind UM=>(chk (decide ((x10.bO.length+ [x12.1].length)*8<=room)) ((Aq fu2) x12.2 {x10 with bO:=(x10.bO++ [x12.1]),cB:=([]:List Int)} (w64 (x11 - 1)))))else((gP x9 1 4).bind abk=>Ap fuel x13.2 {x10 with cB:=([]:List Int)} x13.1))
def Ar [Fuel]:Nat->aP->ak->Int->Option ak|0,_,_,_=>none|fu3+1,x14,x15,x16=>(bif(decide (0<x16))then((bC x14 2).bind aiZ=>((bC x17.2 3).bind alm=>(chk (decide ((x15.bf.length+ [(⟨x17.1,(w64 (x17.1+x18.1))⟩:aY)].length)*16<=room)) ((Ar fu3) x18.2 {x15 with bf:=(x15.bf++ [(⟨x17.1,(w64 (x17.1+x18.1))⟩:aY)]),bO:=([]:List Int),cB:=([]:List Int)} (w64 (x16 - 1))))))else((bC x14 2).bind apX=>Aq fuel x19.2 {x15 with bO:=([]:List Int),cB:=([]:List Int)} (w64 ((w64 (2*x19.1))+1))))
def rY [Fuel]:Nat->aP->ak->Int->Option ak|0,_,_,_=>none|fu4+1,x20,x1,x2=>(bif(decide (0<x2))then((gP x20 1 12).bind alk=>((bC x21.2 (w64 (x21.1+1))).bind aoT=>((bC x22.2 4).bind aoU=>((gP x23.2 (-1) 3).bind apY=>(chk (decide ((0:Int)<=(IntKind.u64.wrap x1.bK))) ((bC x24.2 3).bind ash=>((dV x25.2 4).bind asi=>((dV x26.2 4).bind auD=>(bif x27.1 then(chk (decide ((0:Int)<=(IntKind.u64.wrap x1.bK))) ((gP x27.2 1 (w64 ((CW .i64 1 (IntKind.u64.wrap x1.bK)) - 1))).bind aCp=>Ao (rY fu4) x1 x2 x28.2 (⟨x21.1,x22.1,x23.1,x24.1,x28.1,x25.1,x26.1⟩:aW)))else Ao (rY fu4) x1 x2 x27.2 (⟨x21.1,x22.1,x23.1,x24.1,(w64 ((CW .i64 1 (IntKind.u64.wrap x1.bK)) - 1)),x25.1,x26.1⟩:aW))))))))))else((bC x20 3).bind aCG=>((bC x29.2 3).bind aCH=>Ar fuel x30.2 {x1 with bf:= [(⟨0,x29.1⟩:aY)],bO:=([]:List Int),cB:=([]:List Int)} x30.1)))
def Au [Fuel]:Nat->aP->ak->Int->Option ak|0,_,_,_=>none|fu5+1,x31,x32,x33=>(((bif(!(decide (x33<((x32.kT.length:Nat):Int))))then dV x31 2 else some (default,x31))).bind aCI=>(bif((decide (x33<((x32.kT.length:Nat):Int)))||(x34.1&&(decide (x33<7))))then(chk (decide (((x32.kT.length:Nat):Int)≠(0:Int))) ((gP x34.2 1 4).bind aCJ=>(chk (decide ((x32.Cells.length+ [(⟨(Int.tmod x33 ((x32.kT.length:Nat):Int)),(w64 (x35.1*10))⟩:bZ)].length)*16<=room)) ((Au fu5) x35.2 {x32 with Cells:=(x32.Cells++ [(⟨(Int.tmod x33 ((x32.kT.length:Nat):Int)),(w64 (x35.1*10))⟩:bZ)]),ah:=([]:List aW),bf:=([]:List aY),bO:=([]:List Int),cB:=([]:List Int)} (w64 (x33+1))))))else((bC x34.2 6).bind aCK=>rY fuel x36.2 {x32 with ah:=([]:List aW),bf:=([]:List aY),bO:=([]:List Int),cB:=([]:List Int)} x36.1)))
def Av [Fuel]:Nat->aP->ak->Int->Option ak|0,_,_,_=>none|fu6+1,x37,x38,x39=>(((bif(!(decide (x39<x38.bK)))then dV x37 3 else some (default,x37))).bind aCL=>(bif((decide (x39<x38.bK))||(x40.1&&(decide (x39<6))))then(chk (decide (x38.bK≠(0:Int))) (chk (decide ((x38.kT.length+ [(⟨(Int.tmod x39 x38.bK)⟩:dn)].length)*8<=room)) ((Av fu6) x40.2 (⟨x38.bK,(x38.kT++ [(⟨(Int.tmod x39 x38.bK)⟩:dn)]),([]:List bZ),([]:List aW),([]:List aY),([]:List Int),([]:List Int),x38.Bu,x38.Lease,x38.UL⟩:ak) (w64 (x39+1)))))else Au fuel x40.2 {x38 with Cells:=([]:List bZ),ah:=([]:List aW),bf:=([]:List aY),bO:=([]:List Int),cB:=([]:List Int)} 0))
def N8 [Fuel] (p1:(List Int)):Option ak:=((Vp p1).bind aCM=>((bC x41 5).bind aCN=>((KY (w64 (x42.1+1)) 1 3).bind aCO=>((gP x42.2 1 3).bind aCP=>((gP x44.2 2 12).bind aCQ=>((bC x45.2 9).bind aCR=>Av fuel x46.2 (⟨x43,([]:List dn),([]:List bZ),([]:List aW),([]:List aY),([]:List Int),([]:List Int),x44.1,x45.1,x46.1⟩:ak) 0))))))
def rZ [Fuel] (p1 p2:Int) (p3:ak):Option Int:=(ixL p3.ah p1 λx1=>(ixL p3.ah p2 λx2=>((cmp_Compare_int x2.Priority x1.Priority).bind λx3=>((cmp_Compare_int x2.Load x1.Load).bind λx4=>((cmp_Compare_int p1 p2).bind λx5=>((Jj [x3,x4,x5]).bind λx6=>(some x6)))))))
def BP [Fuel] (p1:List Int) (p2:ak):Option ((List Int)×ak):=((acT (λx y=>rZ x y p2) p1).bind λl=>some (l,p2))
def nN [Fuel] (p1:ak) (x1:Int):Nat->(List Int)->Int->Option (List Int)|0,_,_=>none|fu1+1,x2,x3=>(bif(decide (x3<x1))then(chk (decide ((x2.length+ [x3].length)*8<=room)) ((nN p1 x1 fu1) (x2++ [x3]) (w64 (x3+1))))else((BP x2 p1).bind λx4=>(some x4.1)))
def KZ [Fuel] (p1:ak):Option (List Int):=(chk (decide ((0:Int)<=0/\(0:Int)<=((p1.ah.length:Nat):Int)/\(((p1.ah.length:Nat):Int):Int)<=9223372036854775807/\(((p1.ah.length:Nat):Int):Int)*8<=140737488355328)) (nN p1 ((p1.ah.length:Nat):Int) fuel (List.replicate (Int.toNat 0) (default:Int)) 0))
def pQ (p1:aF) (p2:Int):Option Bool:=(bif((decide (p2<0))||(decide (((p1.Config.ah.length:Nat):Int)<=p2)))then(some false)else(ixL p1.Config.ah p2 λx1=>((uJ (IntKind.u64.wrap x1.Allowed)).bind λx2=>(some (x2==1)))))
def DC (O9:(List Int)->Int->Option (List Int)) (x1:Int) (x2:List Int):Option (List Int):=O9 x2 (w64 (x1+1))
def pz (p1:aF) (x3:List Int) (x4:Int):Nat->(List Int)->Int->Option (List Int)|0,_,_=>none|fu1+1,x5,x1=>(bif(decide (x1<x4))then(ixL x3 x1 λx6=>(chk (decide ((x5.length+ [(w64 (2*x6))].length)*8<=room)) ((pQ p1 x6).bind λx7=>(bif(!x7)then(chk (decide (((x5++ [(w64 (2*x6))]).length+ [(w64 ((w64 (2*x6))+1))].length)*8<=room)) (DC (pz p1 x3 x4 fu1) x1 ((x5++ [(w64 (2*x6))])++ [(w64 ((w64 (2*x6))+1))])))else DC (pz p1 x3 x4 fu1) x1 (x5++ [(w64 (2*x6))])))))else(some x5))
def Sg [Fuel] (p1:aF):Option (List Int):=((ug p1.Config).bind λx8=>(bif(x8 !=0)then(some ([]:List Int))else((KZ p1.Config).bind λx3=>pz p1 x3 ((x3.length:Nat):Int) fuel ([]:List Int) 0)))
def GR (p2:List aK) (x1 x2:Int):Nat->Int->Option Bool|0,_=>none|fu1+1,x3=>(bif(decide (x3<x2))then(ixL p2 x3 λx4=>(bif((((decide (x4.Home<(-1)))||(decide (x1<=x4.Home)))||(decide (x4.aN<(-1))))||(decide (x1<=x4.aN)))then(some false)else(GR p2 x1 x2 fu1) (w64 (x3+1))))else(some true))
def DF [Fuel] (p1:aF) (p2:List aK):Option Bool:=((ug p1.Config).bind λx5=>(bif((x5 !=0)||(((p2.length:Nat):Int) !=((p1.Config.ah.length:Nat):Int)))then(some false)else GR p2 ((p1.Config.Cells.length:Nat):Int) ((p2.length:Nat):Int) fuel 0))
def DI (oh:(List Int)->Int->Option (List Int)) (x1:Int) (x2:List Int):Option (List Int):=oh x2 (w64 (x1+1))
def yg (oh:(List Int)->Int->Option (List Int)) (p1:aF) (x3:Int) (x4:aK) (x5:List Int) (x1:Int):Option (List Int):=(bif(x4.aN !=(-1))then(ixL x5 x4.aN λx6=>(ixL p1.Config.ah x3 λx7=>(ixL x5 x4.aN λx8=>(dZ (x5.set (Int.toNat x4.aN) (w64 (x6+x7.pJ))) λx9=>DI oh x1 x9))))else DI oh x1 x5)
def jY (p1:aF) (p2:List aK) (x10:Int):Nat->(List Int)->Int->Option (List Int)|0,_,_=>none|fu1+1,x11,x3=>(bif(decide (x3<x10))then(ixL p2 x3 λx4=>(bif(x4.Home !=(-1))then(ixL x11 x4.Home UM=>(ixL p1.Config.ah x3 abk=>(ixL x11 x4.Home aem=>(dZ (x11.set (Int.toNat x4.Home) (w64 (x12+x13.Load))) ady=>yg (jY p1 p2 x10 fu1) p1 x3 x4 x15 x3))))else yg (jY p1 p2 x10 fu1) p1 x3 x4 x11 x3))else(some x11))
def GU [Fuel] (p1:aF) (p2:List aK):Option (List Int):=((DF p1 p2).bind agG=>(bif(!x16)then(some ([]:List Int))else(chk (decide ((0:Int)<=((p1.Config.Cells.length:Nat):Int)/\(((p1.Config.Cells.length:Nat):Int):Int)<=((p1.Config.Cells.length:Nat):Int)/\(((p1.Config.Cells.length:Nat):Int):Int)<=9223372036854775807/\(((p1.Config.Cells.length:Nat):Int):Int)*8<=140737488355328)) (jY p1 p2 ((p2.length:Nat):Int) fuel (List.replicate (Int.toNat ((p1.Config.Cells.length:Nat):Int)) (default:Int)) 0))))
def QV (p1 p2:Int):Option Bool:=(chk (!((decide (0<=p2))&&(decide (p2<64)))||decide ((0:Int)<=p2)) (some (((decide (0<=p2))&&(decide (p2<64)))&&((jK .i64 (oI .i64 p1 p2) 1)==1))))
def LJ (p1 p2:Int) (p3:aF):Option (Bool×aF):=((QV p3.Cells p2).bind λx1=>(some ((!x1),p3)))
def qR (p1 p2:Int) (p3:aF):Option Bool:=((QV p3.Cells p2).bind λx1=>(some (!x1)))
theorem Xb [Fuel] (p1 p2:Int) (p3:aF):LJ p1 p2 p3=(qR p1 p2 p3).bind λx=>some (x,p3):=by
  simp only [LJ,qR,d9,bU,eu,eB,eD,bV,bW,bX]
def IY (Pb:(List aI)->Int->Option ((List aI)×aF)) (x1:Int) (x2:List aI):Option ((List aI)×aF):=Pb x2 (w64 (x1+1))
def pE (Bj:(List aI)->Int->Option ((List aI)×aF)) (p1:Int) (p3:aF) (x3 x4:Int) (x5:List Int) (x6:Int):Nat->(List aI)->Int->Option ((List aI)×aF)|0,_,_=>none|fu1+1,x7,x1=>(bif(decide (x1<x6))then(ixL x5 x1 λx8=>(((bif(x8 !=(-1))then qR x3 x8 p3 else some default)).bind λx9=>(bif((x8 !=(-1))&&x9)then(chk (decide ((x7.length+ [(⟨p1,x3,(-1),x8,(-1)⟩:aI)].length)*40<=room)) (IY (pE Bj p1 p3 x3 x4 x5 x6 fu1) x1 (x7++ [(⟨p1,x3,(-1),x8,(-1)⟩:aI)])))else IY (pE Bj p1 p3 x3 x4 x5 x6 fu1) x1 x7)))else Bj x7 (w64 (x4+1)))
def lI [Fuel] (p1:Int) (p2:List aK) (p3:aF) (x10:Int):Nat->(List aI)->Int->Option ((List aI)×aF)|0,_,_=>none|fu2+1,x11,x3=>(bif(decide (x3<x10))then(ixL p2 x3 UM=>pE (lI p1 p2 p3 x10 fu2) p1 p3 x3 x3 [x12.Home,x12.aN] (([x12.Home,x12.aN].length:Nat):Int) fuel x11 0)else(some (x11,p3)))
def Si [Fuel] (p1:Int) (p2:List aK) (p3:aF):Option ((List aI)×aF):=lI p1 p2 p3 ((p2.length:Nat):Int) fuel ([]:List aI) 0
def K3 [Fuel] (p1:aF) (p2:List aK):Option (List aI):=((Si 3 p2 p1).bind λx1=>(some x1.1))
def JI (p1 p2:Int) (p3:aF):Option (Bool×aF):=((wu p3.Config p1 p2).bind λx1=>(some ((!x1),p3)))
def p8 (p1 p2:Int) (p3:aF):Option Bool:=((wu p3.Config p1 p2).bind λx1=>(some (!x1)))
theorem Vq [Fuel] (p1 p2:Int) (p3:aF):JI p1 p2 p3=(p8 p1 p2 p3).bind λx=>some (x,p3):=by
  simp only [JI,p8,d9,bU,eu,eB,eD,bV,bW,bX]
def Bl (JJ:(List aI)->Int->Option ((List aI)×aF)) (x1:Int) (x2:List aI):Option ((List aI)×aF):=JJ x2 (w64 (x1+1))
def kE (uT:(List aI)->Int->Option ((List aI)×aF)) (p1:Int) (p3:aF) (x3 x4:Int) (x5:List Int) (x6:Int):Nat->(List aI)->Int->Option ((List aI)×aF)|0,_,_=>none|fu1+1,x7,x1=>(bif(decide (x1<x6))then(ixL x5 x1 λx8=>(((bif(x8 !=(-1))then p8 x3 x8 p3 else some default)).bind λx9=>(bif((x8 !=(-1))&&x9)then(chk (decide ((x7.length+ [(⟨p1,x3,(-1),x8,(-1)⟩:aI)].length)*40<=room)) (Bl (kE uT p1 p3 x3 x4 x5 x6 fu1) x1 (x7++ [(⟨p1,x3,(-1),x8,(-1)⟩:aI)])))else Bl (kE uT p1 p3 x3 x4 x5 x6 fu1) x1 x7)))else uT x7 (w64 (x4+1)))
def iW [Fuel] (p1:Int) (p2:List aK) (p3:aF) (x10:Int):Nat->(List aI)->Int->Option ((List aI)×aF)|0,_,_=>none|fu2+1,x11,x3=>(bif(decide (x3<x10))then(ixL p2 x3 UM=>kE (iW p1 p2 p3 x10 fu2) p1 p3 x3 x3 [x12.Home,x12.aN] (([x12.Home,x12.aN].length:Nat):Int) fuel x11 0)else(some (x11,p3)))
def N9 [Fuel] (p1:Int) (p2:List aK) (p3:aF):Option ((List aI)×aF):=iW p1 p2 p3 ((p2.length:Nat):Int) fuel ([]:List aI) 0
def IZ [Fuel] (p1:aF) (p2:List aK):Option (List aI):=((N9 4 p2 p1).bind λx1=>(some x1.1))
def F9 (MF:(List aI)->Int->Option (List aI)) (x1:Int) (x2:List aI):Option (List aI):=MF x2 (w64 (x1+1))
def ny (p1:aF) (p2:List aK) (x3:Int):Nat->(List aI)->Int->Option (List aI)|0,_,_=>none|fu1+1,x4,x1=>(bif(decide (x1<x3))then(ixL p2 x1 λx5=>(((bif((x5.Home !=(-1))&&(x5.aN !=(-1)))then Cg p1.Config x5.Home x5.aN else some default)).bind λx6=>(bif(((x5.Home !=(-1))&&(x5.aN !=(-1)))&&(!x6))then(chk (decide ((x4.length+ [(⟨5,x1,(-1),x5.aN,(-1)⟩:aI)].length)*40<=room)) (F9 (ny p1 p2 x3 fu1) x1 (x4++ [(⟨5,x1,(-1),x5.aN,(-1)⟩:aI)])))else F9 (ny p1 p2 x3 fu1) x1 x4)))else(some x4))
def Oa [Fuel] (p1:aF) (p2:List aK):Option (List aI):=ny p1 p2 ((p2.length:Nat):Int) fuel ([]:List aI) 0
def Ob (p1 p2:Int) (p3:aF) (p4:List aK):Option (Bool×aF×(List aK)):=(ixL p3.Config.ah p1 λx1=>(ixG (decide (0<x1.sH)) p3.Config.ah p2 λx2=>(ixG ((decide (0<x1.sH))&&(x1.sH==x2.sH)) p4 p1 λx3=>(((bif((decide (0<x1.sH))&&(x1.sH==x2.sH))then Bw p3.Config x3.Home else some default)).bind λx4=>(ixG ((decide (0<x1.sH))&&(x1.sH==x2.sH)) p4 p2 λx5=>(((bif((decide (0<x1.sH))&&(x1.sH==x2.sH))then Bw p3.Config x5.Home else some default)).bind λx6=>(some ((((decide (0<x1.sH))&&(x1.sH==x2.sH))&&(x4==x6)),p3,p4))))))))
def tC (p1 p2:Int) (p3:aF) (p4:List aK):Option Bool:=(ixL p3.Config.ah p1 λx1=>(ixG (decide (0<x1.sH)) p3.Config.ah p2 λx2=>(ixG ((decide (0<x1.sH))&&(x1.sH==x2.sH)) p4 p1 λx3=>(((bif((decide (0<x1.sH))&&(x1.sH==x2.sH))then Bw p3.Config x3.Home else some default)).bind λx4=>(ixG ((decide (0<x1.sH))&&(x1.sH==x2.sH)) p4 p2 λx5=>(((bif((decide (0<x1.sH))&&(x1.sH==x2.sH))then Bw p3.Config x5.Home else some default)).bind λx6=>(some (((decide (0<x1.sH))&&(x1.sH==x2.sH))&&(x4==x6)))))))))
theorem YK [Fuel] (p1 p2:Int) (p3:aF) (p4:List aK):Ob p1 p2 p3 p4=(tC p1 p2 p3 p4).bind λx=>some (x,p3,p4):=by
  simp only [Ob,tC,d9,bU,eu,eB,eD,bV,bW,bX]
def Ga (MG:(List aI)->Int->Option ((List aI)×aF×(List aK))) (x1:Int) (x2:List aI):Option ((List aI)×aF×(List aK)):=MG x2 (w64 (x1+1))
def nA (yO:(List aI)->Int->Option ((List aI)×aF×(List aK))) (p1:Int) (p2:List aK) (p3:aF) (p4:List aK) (x3 x4 x5:Int):Nat->(List aI)->Int->Option ((List aI)×aF×(List aK))|0,_,_=>none|fu1+1,x6,x1=>(bif(decide (x1<x5))then(ixL p2 x3 λx7=>(ixG (x7.Home !=(-1)) p2 x1 λx8=>(((bif((x7.Home !=(-1))&&(x8.Home !=(-1)))then tC x3 x1 p3 p4 else some default)).bind λx9=>(bif(((x7.Home !=(-1))&&(x8.Home !=(-1)))&&x9)then(ixL p2 x1 Md=>(chk (decide ((x6.length+ [(⟨p1,x3,x1,x10.Home,(-1)⟩:aI)].length)*40<=room)) (Ga (nA yO p1 p2 p3 p4 x3 x4 x5 fu1) x1 (x6++ [(⟨p1,x3,x1,x10.Home,(-1)⟩:aI)]))))else Ga (nA yO p1 p2 p3 p4 x3 x4 x5 fu1) x1 x6))))else yO x6 (w64 (x4+1)))
def jZ [Fuel] (p1:Int) (p2:List aK) (p3:aF) (p4:List aK) (x11:Int):Nat->(List aI)->Int->Option ((List aI)×aF×(List aK))|0,_,_=>none|fu2+1,x12,x3=>(bif(decide (x3<x11))then nA (jZ p1 p2 p3 p4 x11 fu2) p1 p2 p3 p4 x3 x3 x3 fuel x12 0 else(some (x12,p3,p4)))
def Oc [Fuel] (p1:Int) (p2:List aK) (p3:aF) (p4:List aK):Option ((List aI)×aF×(List aK)):=jZ p1 p2 p3 p4 ((p2.length:Nat):Int) fuel ([]:List aI) 0
def Od [Fuel] (p1:aF) (p2:List aK):Option (List aI):=((Oc 6 p2 p1 p2).bind λx1=>(some x1.1))
def Oe (p1 p2:Int) (p3:aF) (p4:List aK):Option (Bool×aF×(List aK)):=(ixL p3.Config.ah p1 λx1=>(ixG x1.Lp p3.Config.ah p2 λx2=>(ixG (x1.Lp&&x2.Lp) p4 p1 λx3=>(ixG (x1.Lp&&x2.Lp) p4 p2 λx4=>(some (((x1.Lp&&x2.Lp)&&(x3.Home==x4.Home)),p3,p4))))))
def tF (p1 p2:Int) (p3:aF) (p4:List aK):Option Bool:=(ixL p3.Config.ah p1 λx1=>(ixG x1.Lp p3.Config.ah p2 λx2=>(ixG (x1.Lp&&x2.Lp) p4 p1 λx3=>(ixG (x1.Lp&&x2.Lp) p4 p2 λx4=>(some ((x1.Lp&&x2.Lp)&&(x3.Home==x4.Home)))))))
theorem YL [Fuel] (p1 p2:Int) (p3:aF) (p4:List aK):Oe p1 p2 p3 p4=(tF p1 p2 p3 p4).bind λx=>some (x,p3,p4):=by
  simp only [Oe,tF,d9,bU,eu,eB,eD,bV,bW,bX]
def yP (Im:(List aI)->Int->Option ((List aI)×aF×(List aK))) (x1:Int) (x2:List aI):Option ((List aI)×aF×(List aK)):=Im x2 (w64 (x1+1))
def jG (sO:(List aI)->Int->Option ((List aI)×aF×(List aK))) (p1:Int) (p2:List aK) (p3:aF) (p4:List aK) (x3 x4 x5:Int):Nat->(List aI)->Int->Option ((List aI)×aF×(List aK))|0,_,_=>none|fu1+1,x6,x1=>(bif(decide (x1<x5))then(ixL p2 x3 λx7=>(ixG (x7.Home !=(-1)) p2 x1 λx8=>(((bif((x7.Home !=(-1))&&(x8.Home !=(-1)))then tF x3 x1 p3 p4 else some default)).bind λx9=>(bif(((x7.Home !=(-1))&&(x8.Home !=(-1)))&&x9)then(ixL p2 x1 Md=>(chk (decide ((x6.length+ [(⟨p1,x3,x1,x10.Home,(-1)⟩:aI)].length)*40<=room)) (yP (jG sO p1 p2 p3 p4 x3 x4 x5 fu1) x1 (x6++ [(⟨p1,x3,x1,x10.Home,(-1)⟩:aI)]))))else yP (jG sO p1 p2 p3 p4 x3 x4 x5 fu1) x1 x6))))else sO x6 (w64 (x4+1)))
def iA [Fuel] (p1:Int) (p2:List aK) (p3:aF) (p4:List aK) (x11:Int):Nat->(List aI)->Int->Option ((List aI)×aF×(List aK))|0,_,_=>none|fu2+1,x12,x3=>(bif(decide (x3<x11))then jG (iA p1 p2 p3 p4 x11 fu2) p1 p2 p3 p4 x3 x3 x3 fuel x12 0 else(some (x12,p3,p4)))
def Gb [Fuel] (p1:Int) (p2:List aK) (p3:aF) (p4:List aK):Option ((List aI)×aF×(List aK)):=iA p1 p2 p3 p4 ((p2.length:Nat):Int) fuel ([]:List aI) 0
def Og [Fuel] (p1:aF) (p2:List aK):Option (List aI):=((Gb 7 p2 p1 p2).bind λx1=>(some x1.1))
def yQ (Io:(List aI)->Int->Option (List aI)) (x1:Int) (x2:List aI):Option (List aI):=Io x2 (w64 (x1+1))
def jH (p2:List Int) (x3:List bZ) (x4:Int):Nat->(List aI)->Int->Option (List aI)|0,_,_=>none|fu1+1,x5,x1=>(bif(decide (x1<x4))then(ixL x3 x1 λx6=>(ixL p2 x1 λx7=>(bif(decide (x6.kS<x7))then(chk (decide ((x5.length+ [(⟨8,(-1),(-1),x1,(-1)⟩:aI)].length)*40<=room)) (yQ (jH p2 x3 x4 fu1) x1 (x5++ [(⟨8,(-1),(-1),x1,(-1)⟩:aI)])))else yQ (jH p2 x3 x4 fu1) x1 x5)))else(some x5))
def Gc [Fuel] (p1:aF) (p2:List Int):Option (List aI):=jH p2 p1.Config.Cells ((p1.Config.Cells.length:Nat):Int) fuel ([]:List aI) 0
def Gd (MH:(List Int)->Int->Option (List Int)) (x1:Int) (x2:List Int):Option (List Int):=MH x2 (w64 (x1+1))
def Aw (p1:aF) (p2:List aK) (p3 x3:Int):Nat->(List Int)->Int->Option (List Int)|0,_,_=>none|fu1+1,x4,x1=>(bif(decide (x1<x3))then(ixL p2 x1 λx5=>(bif((x5.Home==(-1))||(x5.aN==(-1)))then Gd (Aw p1 p2 p3 x3 fu1) x1 x4 else((j6 p1.Config x5.Home).bind λx6=>(((bif(x6==p3)then j6 p1.Config x5.aN else some default)).bind λx7=>(bif((x6==p3)&&(x7 !=p3))then(ixL x4 x5.aN λx8=>(ixL p1.Config.ah x1 λx9=>(ixL p1.Config.ah x1 Md=>(ixL x4 x5.aN Vk=>(dZ (x4.set (Int.toNat x5.aN) (w64 (x8+(w64 (x9.Load - x10.pJ))))) UM=>Gd (Aw p1 p2 p3 x3 fu1) x1 x12)))))else Gd (Aw p1 p2 p3 x3 fu1) x1 x4)))))else(some x4))
def Z9 [Fuel] (p1:aF) (p2:List aK) (p3:Int):Option (List Int):=((DF p1 p2).bind abk=>(bif(!x13)then(some ([]:List Int))else(chk (decide ((0:Int)<=((p1.Config.Cells.length:Nat):Int)/\(((p1.Config.Cells.length:Nat):Int):Int)<=((p1.Config.Cells.length:Nat):Int)/\(((p1.Config.Cells.length:Nat):Int):Int)<=9223372036854775807/\(((p1.Config.Cells.length:Nat):Int):Int)*8<=140737488355328)) (Aw p1 p2 p3 ((p2.length:Nat):Int) fuel (List.replicate (Int.toNat ((p1.Config.Cells.length:Nat):Int)) (default:Int)) 0))))
def FB (Ip:(List aI)->Int->Option (List aI)) (x1:Int) (x2:List aI):Option (List aI):=Ip x2 (w64 (x1+1))
def yR (sP:(List aI)->Int->Option (List aI)) (p1:aF) (p3:List Int) (x3:Int) (x4:List Int) (x5:Int) (x6:List bZ) (x7:Int):Nat->(List aI)->Int->Option (List aI)|0,_,_=>none|fu1+1,x8,x1=>(bif(decide (x1<x7))then(ixL x6 x1 λx9=>((j6 p1.Config x1).bind Md=>(ixG (x10 !=x3) p3 x1 Vk=>(ixG (x10 !=x3) x4 x1 UM=>(bif((x10 !=x3)&&(decide (x9.kS<(w64 (x11+x12)))))then(chk (decide ((x8.length+ [(⟨9,(-1),(-1),x1,x3⟩:aI)].length)*40<=room)) (FB (yR sP p1 p3 x3 x4 x5 x6 x7 fu1) x1 (x8++ [(⟨9,(-1),(-1),x1,x3⟩:aI)])))else FB (yR sP p1 p3 x3 x4 x5 x6 x7 fu1) x1 x8)))))else sP x8 (w64 (x5+1)))
def FC [Fuel] (p1:aF) (p2:List aK) (p3:List Int) (x13:Int):Nat->(List aI)->Int->Option (List aI)|0,_,_=>none|fu2+1,x14,x3=>(bif(decide (x3<x13))then((Z9 p1 p2 x3).bind λx4=>yR (FC p1 p2 p3 x13 fu2) p1 p3 x3 x4 x3 p1.Config.Cells ((p1.Config.Cells.length:Nat):Int) fuel x14 0)else(some x14))
def Gf [Fuel] (p1:aF) (p2:List aK) (p3:List Int):Option (List aI):=(bif(!p1.FW)then(some ([]:List aI))else FC p1 p2 p3 p1.Config.bK fuel ([]:List aI) 0)
def iB (x1:(List aI)):Option (List aI):=(some x1)
def jh (p1:Int):Option (List aI):=(bif(decide (p1<0))then none else(bif(decide (0<(w64 (p1 - (w64 (0 - ((0:Nat):Int)))))))then(chk (decide ((0:Int)<(w64 (p1 - (w64 (0 - ((0:Nat):Int)))))/\((w64 (p1 - (w64 (0 - ((0:Nat):Int))))):Int)*40<=140737488355328)) (chk (decide (0<=((0:Nat):Int)/\((0:Nat):Int)<=(((List.replicate (Int.toNat (w64 (p1 - (w64 (0 - ((0:Nat):Int)))))) (default:aI)).length:Nat):Int))) (chk (decide ((Int.toNat ((0:Nat):Int))<=(List.replicate (Int.toNat (w64 (p1 - (w64 (0 - ((0:Nat):Int)))))) (default:aI)).length)) (iB ((List.replicate (Int.toNat (w64 (p1 - (w64 (0 - ((0:Nat):Int)))))) (default:aI)).take (Int.toNat ((0:Nat):Int)))))))else iB ([]:List aI)))
def bR (p1:(List (List aI))) (x1:Int):Nat->(List aI)->Int->Option (List aI)|0,_,_=>none|fu1+1,x2,x3=>(bif(decide (x3<x1))then(ixL p1 x3 λx4=>(chk (decide ((x2.length+x4.length)*40<=room)) ((bR p1 x1 fu1) (x2++x4) (w64 (x3+1)))))else(some x2))
def bS [Fuel] (p1:(List (List aI))) (x5:(List (List aI))) (x6:Int):Nat->Int->Int->Option (List aI)|0,_,_=>none|fu2+1,x7,x8=>(bif(decide (x8<x6))then(ixL x5 x8 λx9=>(bif(decide ((w64 (x7+((x9.length:Nat):Int)))<0))then none else(bS p1 x5 x6 fu2) (w64 (x7+((x9.length:Nat):Int))) (w64 (x8+1))))else((jh x7).bind Md=>bR p1 ((p1.length:Nat):Int) fuel x10 0))
def iP [Fuel] (p1:(List (List aI))):Option (List aI):=bS p1 p1 ((p1.length:Nat):Int) fuel 0 0
def DJ [Fuel] (p1:aF) (p2:List aK):Option (List aI):=((DF p1 p2).bind λx1=>(bif(!x1)then(some ([]:List aI))else((GU p1 p2).bind λx2=>((K3 p1 p2).bind λx3=>((IZ p1 p2).bind λx4=>((Oa p1 p2).bind λx5=>((Od p1 p2).bind λx6=>((Og p1 p2).bind λx7=>((Gc p1 x2).bind λx8=>((Gf p1 p2 x2).bind λx9=>((iP [x3,x4,x5,x6,x7,x8,x9]).bind Md=>(some x10))))))))))))
def MI (p1 p2:Int):Option Bool:=(chk (!((decide (0<=p2))&&(decide (p2<64)))||decide ((0:Int)<=p2)) (some (((decide (0<=p2))&&(decide (p2<64)))&&((jK .i64 (oI .i64 p1 p2) 1)==1))))
def Gg (MJ:Int->Int->Option Int) (x1 x2:Int):Option Int:=MJ x2 (w64 (x1+1))
def nC (p1:aF) (p2 x3:Int):Nat->Int->Int->Option Int|0,_,_=>none|fu1+1,x4,x1=>(bif(decide (x1<x3))then((j6 p1.Config x1).bind λx5=>(((bif(decide (0<=x5))then MI p1.Cells x1 else some default)).bind λx6=>(((bif((decide (0<=x5))&&x6)then wu p1.Config p2 x1 else some default)).bind λx7=>(bif(((decide (0<=x5))&&x6)&&x7)then(chk (decide ((0:Int)<=x5)) (Gg (nC p1 p2 x3 fu1) x1 (orK .i64 x4 (CW .i64 1 x5))))else Gg (nC p1 p2 x3 fu1) x1 x4))))else(some x4))
def FD [Fuel] (p1:aF) (p2:Int):Option Int:=nC p1 p2 ((p1.Config.Cells.length:Nat):Int) fuel 0 0
def Bn (JK:(List bM)->Int->Option (List bM)) (x1:Int) (x2:List bM):Option (List bM):=JK x2 (w64 (x1+1))
def kF [Fuel] (p1:aF) (p2:List aK) (x3:Int):Nat->(List bM)->Int->Option (List bM)|0,_,_=>none|fu1+1,x4,x1=>(bif(decide (x1<x3))then(ixL p2 x1 λx5=>(bif(x5.Home==(-1))then(ixL p1.Config.ah x1 λx6=>((FD p1 x1).bind λx7=>(chk (decide ((x4.length+ [(⟨x6.Load,x7⟩:bM)].length)*16<=room)) (Bn (kF p1 p2 x3 fu1) x1 (x4++ [(⟨x6.Load,x7⟩:bM)])))))else Bn (kF p1 p2 x3 fu1) x1 x4))else(some x4))
def DK [Fuel] (p1:aF) (p2:List aK):Option (List bM):=kF p1 p2 ((p2.length:Nat):Int) fuel ([]:List bM) 0
def Gh (MK:(List Int)->Int->Option (List Int)) (x1:Int) (x2:List Int):Option (List Int):=MK x2 (w64 (x1+1))
def nD (p1:aF) (x3:List Int) (x4:List bZ) (x5:Int):Nat->(List Int)->Int->Option (List Int)|0,_,_=>none|fu1+1,x6,x1=>(bif(decide (x1<x5))then(ixL x4 x1 λx7=>((MI p1.Cells x1).bind λx8=>(bif x8 then((j6 p1.Config x1).bind λx9=>(ixL x6 x9 Md=>(ixL x3 x1 Vk=>(ixL x6 x9 UM=>(dZ (x6.set (Int.toNat x9) (w64 (x10+(w64 (x7.kS - x11))))) abk=>Gh (nD p1 x3 x4 x5 fu1) x1 x13)))))else Gh (nD p1 x3 x4 x5 fu1) x1 x6)))else(some x6))
def JL [Fuel] (p1:aF) (p2:List aK):Option (List Int):=(chk (decide ((0:Int)<=p1.Config.bK/\(p1.Config.bK:Int)<=p1.Config.bK/\(p1.Config.bK:Int)<=9223372036854775807/\(p1.Config.bK:Int)*8<=140737488355328)) ((GU p1 p2).bind λx3=>nD p1 x3 p1.Config.Cells ((p1.Config.Cells.length:Nat):Int) fuel (List.replicate (Int.toNat p1.Config.bK) (default:Int)) 0))
def I4 (Pf:Int->Int->Option Int) (x1 x2:Int):Option Int:=Pf x2 (w64 (x1+1))
def pF (p1:List bM) (p2 x3:Int):Nat->Int->Int->Option Int|0,_,_=>none|fu1+1,x4,x1=>(bif(decide (x1<x3))then(ixL p1 x1 λx5=>(bif((Np .i64 x5.reach p2)==0)then I4 (pF p1 p2 x3 fu1) x1 (w64 (x4+x5.load))else I4 (pF p1 p2 x3 fu1) x1 x4))else(some x4))
def ML [Fuel] (p1:List bM) (p2:Int):Option Int:=pF p1 p2 ((p1.length:Nat):Int) fuel 0 0
def I5 (Pg:Int->Int->Option Int) (x1 x2:Int):Option Int:=Pg x2 (w64 (x1+1))
def pG (p1:List Int) (p2 x3:Int):Nat->Int->Int->Option Int|0,_,_=>none|fu1+1,x4,x1=>(bif(decide (x1<x3))then(ixL p1 x1 λx5=>((MI p2 x1).bind λx6=>(bif x6 then I5 (pG p1 p2 x3 fu1) x1 (w64 (x4+x5))else I5 (pG p1 p2 x3 fu1) x1 x4)))else(some x4))
def MN [Fuel] (p1:List Int) (p2:Int):Option Int:=pG p1 p2 ((p1.length:Nat):Int) fuel 0 0
def tH [Fuel] (p1:aF) (x1:List bM) (x2:List Int):Nat->Int->Option (Int×Bool)|0,_=>none|fu1+1,x3=>(chk (decide ((0:Int)<=p1.Config.bK)) (bif(decide (x3<(CW .i64 1 p1.Config.bK)))then((ML x1 x3).bind λx4=>((MN x2 x3).bind λx5=>(bif(decide (x5<x4))then(some (x3,true))else(tH p1 x1 x2 fu1) (w64 (x3+1)))))else(some (0,false))))
def Gi [Fuel] (p1:aF) (p2:List aK):Option (Int×Bool):=((DF p1 p2).bind λx6=>(bif(!x6)then(some (0,false))else((DK p1 p2).bind λx1=>((JL p1 p2).bind λx2=>tH p1 x1 x2 fuel 1))))
def uU (EG:bB->Int->Option (Bool×Int×bB)) (x1:Int) (x2:bB):Option (Bool×Int×bB):=EG x2 (w64 (x1+1))
def gQ (eZ:bB->Int->Option (Bool×Int×bB)) (p2:Int) (x3:Nat) (x4:Int):Nat->bB->Int->Option (Bool×Int×bB)|0,_,_=>none|fu1+1,x5,x1=>(bif(decide (x1<x4))then(chk (decide ((0:Int)<=x1)) (bif((jK .i64 (oI .i64 x5.problem.Cells x1) 1)==0)then uU (gQ eZ p2 x3 x4 fu1) x1 x5 else(dZ (x5.places.getD x3 default) λx6=>(dZ (x5.places.set x3 {x6 with aN:=x1}) λx7=>((eZ {x5 with places:=x7} (w64 (p2+1))).bind λx8=>(bif(x8.1||(x8.2.1 !=0))then(some (x8.1,x8.2.1,x8.2.2))else uU (gQ eZ p2 x3 x4 fu1) x1 x8.2.2))))))else(dZ (x5.places.getD x3 default) λx9=>(dZ (x5.places.set x3 {x9 with aN:=(-1)}) Md=>(some (false,0,{x5 with places:=x10})))))
def uV (EH:bB->Int->Option (Bool×Int×bB)) (x11:Int) (x12:bB):Option (Bool×Int×bB):=EH x12 (w64 (x11+1))
def gT (eZ:bB->Int->Option (Bool×Int×bB)) (p2:Int) (x13:Nat) (x14:Int):Nat->bB->Int->Option (Bool×Int×bB)|0,_,_=>none|fu2+1,x15,x11=>(bif(decide (x11<x14))then(chk (decide ((0:Int)<=x11)) (bif((jK .i64 (oI .i64 x15.problem.Cells x11) 1)==0)then uV (gT eZ p2 x13 x14 fu2) x11 x15 else(dZ (x15.places.getD x13 default) agG=>(dZ (x15.places.set x13 {x16 with Home:=x11}) aiZ=>((eZ {x15 with places:=x17} (w64 (p2+1))).bind alm=>(bif(x18.1||(x18.2.1 !=0))then(some (x18.1,x18.2.1,x18.2.2))else uV (gT eZ p2 x13 x14 fu2) x11 x18.2.2))))))else(dZ (x15.places.getD x13 default) apX=>(dZ (x15.places.set x13 {x19 with Home:=(-1)}) amZ=>(some (false,0,{x15 with places:=x20})))))
def DL [Fuel] (eZ:bB->Int->Option (Bool×Int×bB)) (p1:bB) (p2:Int):Option (Bool×Int×bB):=(bif(decide (2048<(w64 (p1.count+1))))then(some (false,2,{p1 with count:=(w64 (p1.count+1))}))else((DJ p1.problem p1.places).bind alk=>(bif(decide (0<((x21.length:Nat):Int)))then(ixL x21 0 aoT=>(chk (decide ((p1.tree.length+ [(⟨2,0,0,x22⟩:dQ)].length)*64<=room)) (some (false,0,{p1 with tree:=(p1.tree++ [(⟨2,0,0,x22⟩:dQ)]),count:=(w64 (p1.count+1))}))))else((Gi p1.problem p1.places).bind aoU=>(bif x23.2 then(chk (decide ((p1.tree.length+ [(⟨3,0,x23.1,⟨0,0,0,0,0⟩⟩:dQ)].length)*64<=room)) (some (false,0,{p1 with tree:=(p1.tree++ [(⟨3,0,x23.1,⟨0,0,0,0,0⟩⟩:dQ)]),count:=(w64 (p1.count+1))})))else(bif(p2==((p1.vars.length:Nat):Int))then(some (true,0,{p1 with count:=(w64 (p1.count+1))}))else(ixL p1.vars p2 apY=>(ixL p1.places (w64 (Int.tdiv x24 2)) ash=>(bif((Int.tmod x24 2)==1)then(ixL p1.places (w64 (Int.tdiv x24 2)) asi=>(chk (decide ((p1.tree.length+ [(⟨1,x24,0,⟨0,0,0,0,0⟩⟩:dQ)].length)*64<=room)) (gQ eZ p2 (Int.toNat (w64 (Int.tdiv x24 2))) ((p1.problem.Config.Cells.length:Nat):Int) fuel {p1 with tree:=(p1.tree++ [(⟨1,x24,0,⟨0,0,0,0,0⟩⟩:dQ)]),count:=(w64 (p1.count+1))} 0)))else(chk (decide ((p1.tree.length+ [(⟨1,x24,0,⟨0,0,0,0,0⟩⟩:dQ)].length)*64<=room)) (gT eZ p2 (Int.toNat (w64 (Int.tdiv x24 2))) ((p1.problem.Config.Cells.length:Nat):Int) fuel {p1 with tree:=(p1.tree++ [(⟨1,x24,0,⟨0,0,0,0,0⟩⟩:dQ)]),count:=(w64 (p1.count+1))} 0)))))))))))
def lU [Fuel]:Nat->bB->Int->Option (Bool×Int×bB)|0,_,_=>none|n+1,p1,p2=>DL (lU n) p1 p2
def rJ [Fuel] (x1:Int):Nat->eG->bB->Int->Option (eG×Int)|0,_,_,_=>none|fu1+1,x2,x3,x4=>(bif(decide (x4<x1))then(ixL x3.places x4 λx5=>(dZ (x3.places.set (Int.toNat x4) (⟨(-1),(-1)⟩:aK)) λx6=>(rJ x1 fu1) (⟨([]:List aK),([]:List dQ)⟩:eG) {x3 with places:=x6} (w64 (x4+1))))else(((lU fuel) x3 0).bind λx7=>(bif(x7.2.1 !=0)then(some ((⟨([]:List aK),([]:List dQ)⟩:eG),x7.2.1))else(bif x7.1 then(some ((⟨x7.2.2.places,([]:List dQ)⟩:eG),0))else(some ((⟨([]:List aK),x7.2.2.tree⟩:eG),0))))))
def Sj [Fuel] (p1:aF):Option (eG×Int):=((ug p1.Config).bind λx8=>(bif(x8 !=0)then(some ((⟨([]:List aK),([]:List dQ)⟩:eG),1))else((Sg p1).bind λx9=>(chk (decide ((0:Int)<=((p1.Config.ah.length:Nat):Int)/\(((p1.Config.ah.length:Nat):Int):Int)<=((p1.Config.ah.length:Nat):Int)/\(((p1.Config.ah.length:Nat):Int):Int)<=9223372036854775807/\(((p1.Config.ah.length:Nat):Int):Int)*16<=140737488355328)) (rJ (((List.replicate (Int.toNat ((p1.Config.ah.length:Nat):Int)) (default:aK)).length:Nat):Int) fuel (⟨([]:List aK),([]:List dQ)⟩:eG) (⟨p1,x9,(List.replicate (Int.toNat ((p1.Config.ah.length:Nat):Int)) (default:aK)),([]:List dQ),0⟩:bB) 0)))))
def GV (p1:ak):Nat->aB->Int->Option aB|0,_,_=>none|fu1+1,x1,x2=>(bif(decide (x2<((p1.Cells.length:Nat):Int)))then(chk (decide ((x1.Cells.length+ [(⟨1,0,0,0⟩:aH)].length)*32<=room)) ((GV p1 fu1) {x1 with Cells:=(x1.Cells++ [(⟨1,0,0,0⟩:aH)])} (w64 (x2+1))))else(some x1))
def GX [Fuel] (p1:ak):Nat->aB->Int->Option aB|0,_,_=>none|fu2+1,x3,x4=>(bif(decide (x4<((p1.ah.length:Nat):Int)))then(chk (decide ((x3.ah.length+ [(⟨false,false,(-1),(-1),(-1),(-1),0,⟨(-1),0,0,0,0⟩⟩:ay)].length)*88<=room)) ((GX p1 fu2) {x3 with ah:=(x3.ah++ [(⟨false,false,(-1),(-1),(-1),(-1),0,⟨(-1),0,0,0,0⟩⟩:ay)]),Cells:=([]:List aH)} (w64 (x4+1))))else GV p1 fuel {x3 with Cells:=([]:List aH)} 0)
def Vr [Fuel] (p1:ak):Option aB:=GX p1 fuel (⟨0,0,([]:List ay),([]:List aH),1,0,0,0⟩:aB) 0
def LK (p1:aP):Option (Bool×aP):=(some ((decide (p1.At<((p1.L.length:Nat):Int))),p1))
def JM (p1 p2:Int):Option aA:=(some (⟨p1,p2,(-1),(-1),(-1),0,0,0,0⟩:aA))
def GY (p1 p2:Int):Option Bool:=(chk (!((decide (0<=p2))&&(decide (p2<62)))||decide ((0:Int)<=(IntKind.u64.wrap p2))) (chk (!((decide (0<=p2))&&(decide (p2<62)))||decide (2≠(0:Int))) (some (((decide (0<=p2))&&(decide (p2<62)))&&((Int.tmod (oI .i64 p1 (IntKind.u64.wrap p2)) 2) !=0)))))
def ig (x1:aP) (x2:aA):Option (aA×aP):=(some (x2,x1))
def qU (p2:ak) (p3:aB) (p4:Int) (x3:aA) (x4:aH) (x5:aP) (x6 x7:Int) (x8:Bool):Option (aA×aP):=(bif x8 then((bC x5 p2.Lease).bind λx9=>ig x9.2 {x3 with Kind:=11,Tick:=(w64 (p4+x9.1)),Cell:=x6,N:=x4.Wanted})else(bif(x7==8)then((bC x5 (w64 (p2.UL+1))).bind Md=>ig x10.2 {x3 with Kind:=12,Tick:=(w64 (p4+x10.1)),N:=x4.Running})else(bif(x7==9)then((bC x5 p2.bK).bind Vk=>((GY p3.bg x11.1).bind UM=>(bif x12 then ig x11.2 {x3 with Kind:=13,Other:=x11.1,N:=0}else ig x11.2 {x3 with Kind:=13,Other:=x11.1,N:=1})))else(bif(x7==10)then(bif(decide (p3.Low<p3.High))then ig x5 {x3 with Kind:=15}else ig x5 {x3 with Kind:=14})else((bC x5 100).bind abk=>ig x13.2 {x3 with N:=x13.1})))))
def qV (p2:ak) (p3:aB) (p4:Int) (x3:aA) (x4:aH) (x5:aP) (x6 x7:Int) (x14:Bool):Option (aA×aP):=(bif x14 then((bC x5 ((p2.bf.length:Nat):Int)).bind ady=>ig x15.2 {x3 with Kind:=10,Cell:=x6,N:=x15.1})else(bif(x7==5)then qU p2 p3 p4 x3 x4 x5 x6 x7 (x7==5)else(bif(x7==6)then qU p2 p3 p4 x3 x4 x5 x6 x7 (x7==6)else qU p2 p3 p4 x3 x4 x5 x6 x7 (x7==7))))
def I6 (p1:aP) (p2:ak) (p3:aB) (p4:Int):Option (aA×aP):=((JM 16 p4).bind λx3=>((bC p1 ((p2.Cells.length:Nat):Int)).bind agG=>(ixL p3.Cells x16.1 λx4=>((bC x16.2 12).bind aiZ=>(bif(x17.1==0)then((gP x17.2 1 3).bind alm=>ig x18.2 {x3 with Kind:=9,Cell:=x16.1,N:=x18.1})else(bif(x17.1==1)then ig x17.2 {x3 with Kind:=9,Cell:=x16.1,N:=1}else(bif(x17.1==2)then qV p2 p3 p4 x3 x4 x17.2 x16.1 x17.1 (x17.1==2)else(bif(x17.1==3)then qV p2 p3 p4 x3 x4 x17.2 x16.1 x17.1 (x17.1==3)else qV p2 p3 p4 x3 x4 x17.2 x16.1 x17.1 (x17.1==4)))))))))
def QW (p1:ak) (p2:Int):Option Int:=(bif((decide (p2<0))||(decide (((p1.Cells.length:Nat):Int)<=p2)))then(some (-1))else(ixL p1.Cells p2 λx1=>(some x1.Zone)))
def r9 (p1:ak) (p2:Int):Option Int:=((QW p1 p2).bind λx1=>(bif(decide (x1<0))then(some (-1))else(ixL p1.kT x1 λx2=>(some x2.Region))))
def DN (p1:ak) (p2 p3:Int):Option Bool:=(ixG ((decide (0<=p2))&&(decide (p2<((p1.ah.length:Nat):Int)))) p1.ah p2 λx1=>(((bif((decide (0<=p2))&&(decide (p2<((p1.ah.length:Nat):Int))))then r9 p1 p3 else some default)).bind λx2=>(((bif((decide (0<=p2))&&(decide (p2<((p1.ah.length:Nat):Int))))then GY x1.Allowed x2 else some default)).bind λx3=>(some (((decide (0<=p2))&&(decide (p2<((p1.ah.length:Nat):Int))))&&x3)))))
def Gj (MO:(List Int)->Int->Option (List Int)) (x1:Int) (x2:List Int):Option (List Int):=MO x2 (w64 (x1+1))
def wB (p1:ak) (p2:Int):Nat->(List Int)->Int->Option (List Int)|0,_,_=>none|fu1+1,x3,x1=>(bif(decide (x1<((p1.Cells.length:Nat):Int)))then((DN p1 p2 x1).bind λx4=>(bif x4 then(chk (decide ((x3.length+ [x1].length)*8<=room)) (Gj (wB p1 p2 fu1) x1 (x3++ [x1])))else Gj (wB p1 p2 fu1) x1 x3))else(some x3))
def JN [Fuel] (p1:ak) (p2:Int):Option (List Int):=wB p1 p2 fuel ([]:List Int) 0
def JO (p1:aP) (p2:List Int):Option (Int×aP):=(bif(((p2.length:Nat):Int)==0)then(some ((-1),p1))else((bC p1 ((p2.length:Nat):Int)).bind λx1=>(ixL p2 x1.1 λx2=>(some (x2,x1.2)))))
def JQ (p1:ak) (p2 p3:Int):Option Bool:=((r9 p1 p2).bind λx1=>((r9 p1 p3).bind λx2=>(some (((decide (0<=x1))&&(decide (0<=x2)))&&(x1 !=x2)))))
def yS (Iq:(List Int)->Int->Option (List Int)) (x1:Int) (x2:List Int):Option (List Int):=Iq x2 (w64 (x1+1))
def p9 (p1:ak) (p2 p3:Int):Nat->(List Int)->Int->Option (List Int)|0,_,_=>none|fu1+1,x3,x1=>(bif(decide (x1<((p1.Cells.length:Nat):Int)))then((DN p1 p2 x1).bind λx4=>(((bif x4 then JQ p1 p3 x1 else some default)).bind λx5=>(bif(x4&&x5)then(chk (decide ((x3.length+ [x1].length)*8<=room)) (yS (p9 p1 p2 p3 fu1) x1 (x3++ [x1])))else yS (p9 p1 p2 p3 fu1) x1 x3)))else(some x3))
def Ay [Fuel] (p1:ak) (p2 p3:Int):Option (List Int):=p9 p1 p2 p3 fuel ([]:List Int) 0
def I7 (x1:aP) (x2:aA):Option (aA×aP):=(some (x2,x1))
def DR (p2:ak) (p3:aB) (x3:aP) (x4:aA):Option (aA×aP):=((gP x3 1 p2.Lease).bind λx5=>(ixL p3.Cells x4.Cell λx6=>((dV x5.2 15).bind λx7=>(bif x7.1 then((bC x7.2 30).bind λx8=>I7 x8.2 {x4 with From:=(UU 0 (w64 (x4.From - 1))),Until:=(w64 ((w64 (x4.From+x5.1))+x8.1)),N:=x6.Running})else I7 x7.2 {x4 with Until:=(w64 (x4.From+x5.1)),N:=x6.Running}))))
def DT (p2:ak) (p3:aB) (x9:ay) (x10:aP) (x11:aA):Option (aA×aP):=((dV x10 5).bind UM=>(bif x12.1 then((bC x12.2 3).bind abk=>DR p2 p3 x13.2 {x11 with From:=(w64 ((UU x11.Tick x9.Window.Until)+x13.1))})else DR p2 p3 x12.2 {x11 with From:=(UU x11.Tick x9.Window.Until)}))
def DU (p2:ak) (p3:aB) (x9:ay) (x14:aP) (x15:aA):Option (aA×aP):=(((bif(x15.Cell !=x9.Home)then bC x14 4 else some (default,x14))).bind agG=>(bif((x15.Cell !=x9.Home)&&(decide (0<x16.1)))then DT p2 p3 x9 x16.2 {x15 with Tick:=(UU x15.Tick x9.Window.Until)}else DT p2 p3 x9 x16.2 x15))
def yT (p2:ak) (p3:aB) (x9:ay) (x17:aP) (x18:aA):Option (aA×aP):=(((bif(!((x18.Cell !=x9.Home)||(x9.Epoch==0)))then dV x17 4 else some (default,x17))).bind apX=>(bif(((x18.Cell !=x9.Home)||(x9.Epoch==0))||x19.1)then DU p2 p3 x9 x19.2 {x18 with Epoch:=(w64 (x9.Epoch+1))}else DU p2 p3 x9 x19.2 {x18 with Epoch:=x9.Epoch}))
def Sk (p1:aP) (p2:ak) (p3:aB) (p4:aA):Option (aA×aP):=(ixL p3.ah p4.aD λx9=>(((bif(decide (0<=x9.Target))then dV p1 2 else some (default,p1))).bind amZ=>(bif((decide (0<=x9.Target))&&x20.1)then yT p2 p3 x9 x20.2 {p4 with Cell:=x9.Target}else(((bif(decide (0<=x9.aN))then dV x20.2 5 else some (default,x20.2))).bind alk=>(bif((decide (0<=x9.aN))&&(x21.1||x9.Aa))then yT p2 p3 x9 x21.2 {p4 with Cell:=x9.aN}else yT p2 p3 x9 x21.2 {p4 with Cell:=x9.Home})))))
def pI (x1:aP) (x2:aA):Option (aA×aP):=(some (x2,x1))
def DV [Fuel] (p2:ak) (p3:aB) (x3:aP) (x4:Int):Option (aA×aP):=(((bif(!(((p2.ah.length:Nat):Int)==0))then dV x3 4 else some (default,x3))).bind λx5=>(bif((((p2.ah.length:Nat):Int)==0)||x5.1)then((I6 x5.2 p2 p3 x4).bind λx6=>(some (x6.1,x6.2)))else((bC x5.2 ((p2.ah.length:Nat):Int)).bind λx7=>(ixL p3.ah x7.1 λx8=>(bif(!x8.Placed)then((JM 1 x4).bind λx9=>((JN p2 x7.1).bind Md=>((JO x7.2 x10).bind Vk=>((Ay p2 x7.1 (UU 0 x11.1)).bind UM=>((JO x11.2 x12).bind abk=>(some ({x9 with aD:=x7.1,Cell:=(UU 0 x11.1),Other:=x13.1},x13.2)))))))else((JM 2 x4).bind aem=>((bC x7.2 12).bind ady=>(bif(x15.1==0)then pI x15.2 {x14 with Kind:=3,aD:=x7.1,Epoch:=(UU 1 x8.Epoch)}else(bif(x15.1==1)then((Ay p2 x7.1 x8.Home).bind agG=>((JO x15.2 x16).bind aiZ=>pI x17.2 {x14 with Kind:=4,aD:=x7.1,Cell:=x17.1}))else(bif(x15.1==2)then pI x15.2 {x14 with Kind:=5,aD:=x7.1,Cell:=(UU 0 x8.Next)}else(bif(x15.1==3)then((JN p2 x7.1).bind alm=>((JO x15.2 x18).bind apX=>pI x19.2 {x14 with Kind:=6,aD:=x7.1,Cell:=(UU 0 x19.1)}))else(bif(x15.1==4)then pI x15.2 {x14 with Kind:=7,aD:=x7.1}else(bif(x15.1==5)then(bif x8.Aa then pI x15.2 {x14 with Kind:=8,aD:=x7.1,N:=0}else pI x15.2 {x14 with Kind:=8,aD:=x7.1,N:=1})else((Sk x15.2 p2 p3 {x14 with aD:=x7.1}).bind amZ=>(some (x20.1,x20.2))))))))))))))))
def Sl [Fuel] (p1:aP) (p2:ak) (p3:aB):Option (aA×aP):=((bC p1 4).bind alk=>((dV x21.2 20).bind aoT=>(bif x22.1 then DV p2 p3 x22.2 (UU 0 (w64 (p3.Tick - 1)))else DV p2 p3 x22.2 (w64 (p3.Tick+x21.1)))))
def rM (p1 p2 p3:Int):Option Bool:=(some ((decide (p2<=p1))&&(decide (p1<=p3))))
def Xd (p1:Int):Option ByteArray:=(bif((decide (p1<1))||(decide ((([ByteArray.empty,(ByteArray.mk #[116,99,111]),(ByteArray.mk #[116,99,101,119,118]),(ByteArray.mk #[116,101]),(ByteArray.mk #[116,67]),(ByteArray.mk #[116,99]),(ByteArray.mk #[116,99]),(ByteArray.mk #[116]),(ByteArray.mk #[116,98]),(ByteArray.mk #[99,109]),(ByteArray.mk #[99,118]),(ByteArray.mk #[99,118]),(ByteArray.mk #[118]),(ByteArray.mk #[114,98]),ByteArray.empty,ByteArray.empty,(ByteArray.mk #[110])].length:Nat):Int)<=p1)))then(some (ByteArray.mk #[63]))else(ixL [ByteArray.empty,(ByteArray.mk #[116,99,111]),(ByteArray.mk #[116,99,101,119,118]),(ByteArray.mk #[116,101]),(ByteArray.mk #[116,67]),(ByteArray.mk #[116,99]),(ByteArray.mk #[116,99]),(ByteArray.mk #[116]),(ByteArray.mk #[116,98]),(ByteArray.mk #[99,109]),(ByteArray.mk #[99,118]),(ByteArray.mk #[99,118]),(ByteArray.mk #[118]),(ByteArray.mk #[114,98]),ByteArray.empty,ByteArray.empty,(ByteArray.mk #[110])] p1 λx1=>(some x1)))
def K4 (p2:Int) (x1:ByteArray):Nat->Int->Option Bool|0,_=>none|fu1+1,x2=>(bif(decide (x2<((x1.size:Nat):Int)))then(chk (decide (0<=x2/\x2<((x1.size:Nat):Int))) (bif((aeo x1 x2)==p2)then(some true)else(K4 p2 x1 fu1) (w64 (x2+1))))else(some false))
def jL [Fuel] (p1 p2:Int):Option Bool:=((Xd p1).bind λx1=>K4 p2 x1 fuel 0)
def yh (x1:Bool):Option Bool:=(bif x1 then(some false)else(some true))
def yj [Fuel] (p1:aA) (p3 p4 x2:Int) (x3:Bool):Option Bool:=(bif x3 then(some false)else((jL x2 111).bind λx4=>(((bif x4 then rM p1.Other (-1) (w64 (p3 - 1))else some default)).bind λx5=>(bif(x4&&((!x5)||(p1.Other==p1.Cell)))then yh (x4&&((!x5)||(p1.Other==p1.Cell)))else((jL x2 114).bind λx6=>(((bif x6 then rM p1.Other 0 (w64 (p4 - 1))else some default)).bind λx7=>(bif(x6&&(!x7))then yh (x6&&(!x7))else((jL x2 111).bind λx8=>(((bif(!x8)then jL x2 114 else some default)).bind λx9=>yh (((!x8)&&(!x9))&&(p1.Other !=(-1))))))))))))
def Co [Fuel] (p1:aA) (p2 p3 p4:Int):Option Bool:=((jL p1.Kind 116).bind Md=>(((bif(!(!(x10==(p1.aD !=(-1)))))then jL p1.Kind 116 else some default)).bind Vk=>(((bif((!(!(x10==(p1.aD !=(-1)))))&&x11)then rM p1.aD 0 (w64 (p2 - 1))else some default)).bind UM=>(bif((!(x10==(p1.aD !=(-1))))||(x11&&(!x12)))then(some false)else((jL p1.Kind 99).bind abk=>(((bif x13 then rM p1.Cell 0 (w64 (p3 - 1))else some default)).bind aem=>(bif(x13&&(!x14))then yj p1 p3 p4 p1.Kind (x13&&(!x14))else((jL p1.Kind 67).bind ady=>(((bif x15 then rM p1.Cell (-1) (w64 (p3 - 1))else some default)).bind agG=>(bif(x15&&(!x16))then yj p1 p3 p4 p1.Kind (x15&&(!x16))else((jL p1.Kind 99).bind aiZ=>(((bif(!x17)then jL p1.Kind 67 else some default)).bind alm=>yj p1 p3 p4 p1.Kind (((!x17)&&(!x18))&&(p1.Cell !=(-1)))))))))))))))
def vW [Fuel] (p1:aA) (p2 x1:Int) (x2:Bool):Option Bool:=(bif x2 then(some false)else((jL x1 118).bind λx3=>(bif x3 then((rM p1.N 0 (w64 (p2 - 1))).bind λx4=>(some x4))else((jL x1 98).bind λx5=>(bif x5 then((rM p1.N 0 1).bind λx6=>(some x6))else((jL x1 109).bind λx7=>(bif x7 then((rM p1.N 1 3).bind λx8=>(some x8))else((jL x1 110).bind λx9=>(bif x9 then((rM p1.N 0 1073741824).bind Md=>(some x10))else(some (p1.N==0)))))))))))
def Bo [Fuel] (p1:aA) (p2 x1:Int) (x11:Bool):Option Bool:=(bif x11 then(some false)else((jL x1 119).bind UM=>(((bif x12 then rM p1.From 0 1073741824 else some default)).bind abk=>(((bif(x12&&(!(!x13)))then rM p1.Until 0 1073741824 else some default)).bind aem=>(bif(x12&&((!x13)||(!x14)))then vW p1 p2 x1 (x12&&((!x13)||(!x14)))else((jL x1 119).bind ady=>vW p1 p2 x1 ((!x15)&&((p1.From !=0)||(p1.Until !=0)))))))))
def yU [Fuel] (p1:aA) (p2:Int):Option Bool:=((jL p1.Kind 101).bind agG=>(((bif x16 then rM p1.Epoch 1 1048576 else some default)).bind aiZ=>(bif(x16&&(!x17))then Bo p1 p2 p1.Kind (x16&&(!x17))else((jL p1.Kind 101).bind alm=>Bo p1 p2 p1.Kind ((!x18)&&(p1.Epoch !=0))))))
def Ut [Fuel] (p1:aA) (p2 p3 p4 p5:Int):Option Bool:=((rM p1.Kind 1 16).bind λx1=>(((bif x1 then rM p1.Tick 0 1073741824 else some default)).bind λx2=>(((bif(x1&&x2)then Co p1 p2 p3 p4 else some default)).bind λx3=>(((bif((x1&&x2)&&x3)then yU p1 p5 else some default)).bind λx4=>(some (((x1&&x2)&&x3)&&x4))))))
def FE [Fuel] (p1:ak) (p2:aA):Option Bool:=((Ut p2 (Qq ((p1.ah.length:Nat):Int) 32) (Qq ((p1.Cells.length:Nat):Int) 16) (Qq p1.bK 4) (Qq ((p1.bf.length:Nat):Int) 30)).bind λx1=>(some x1))
def dY (p1:Int):Option (aB×Int):=(some ((⟨0,0,([]:List ay),([]:List aH),0,0,0,0⟩:aB),p1))
def K5 (p1:aB):Option aB:=(chk (decide ((([]:List ay).length+p1.ah.length)*88<=room)) (chk (decide ((([]:List aH).length+p1.Cells.length)*32<=room)) (some {p1 with ah:=(([]:List ay)++p1.ah),Cells:=(([]:List aH)++p1.Cells)})))
def yt (p1:ak) (p2:aB) (p3:Int):Option Bool:=((r9 p1 p3).bind λx1=>((GY p2.bg x1).bind λx2=>(some x2)))
def pR (p1:ak) (p2 p3:Int):Option Bool:=(((bif((decide (0<=p2))&&(decide (0<=p3)))then JQ p1 p2 p3 else some default)).bind λx1=>(some (((decide (0<=p2))&&(decide (0<=p3)))&&(!x1))))
def JR (p1:List Int) (p2 p3:Int):Option (List Int):=(bif((decide (0<=p2))&&(decide (p2<((p1.length:Nat):Int))))then(ixL p1 p2 λx1=>(ixL p1 p2 λx2=>(dZ (p1.set (Int.toNat p2) (w64 (x1+p3))) λx3=>(some x3))))else(some p1))
def DW (rO:(List Int)->Int->Option (List Int)) (x1:Int) (x2:List Int):Option (List Int):=rO x2 (w64 (x1+1))
def DX (rO:(List Int)->Int->Option (List Int)) (x1:Int) (x3:ay) (x4:aW) (x5:List Int):Option (List Int):=((JR x5 x3.aN x4.pJ).bind λx6=>((JR x6 x3.Next x4.pJ).bind λx7=>DW rO x1 x7))
def nO (p1:ak) (p2:aB):Nat->(List Int)->Int->Option (List Int)|0,_,_=>none|fu1+1,x8,x1=>(bif(decide (x1<((p2.ah.length:Nat):Int)))then(ixL p2.ah x1 λx3=>(ixL p1.ah x1 λx4=>(bif(!x3.Placed)then DW (nO p1 p2 fu1) x1 x8 else(bif(!x3.Aa)then((JR x8 x3.Home x4.Load).bind λx9=>((JR x9 x3.Target x4.Load).bind Md=>DX (nO p1 p2 fu1) x1 x3 x4 x10))else DX (nO p1 p2 fu1) x1 x3 x4 x8))))else(some x8))
def K6 [Fuel] (p1:ak) (p2:aB):Option (List Int):=(chk (decide ((0:Int)<=((p1.Cells.length:Nat):Int)/\(((p1.Cells.length:Nat):Int):Int)<=((p1.Cells.length:Nat):Int)/\(((p1.Cells.length:Nat):Int):Int)<=9223372036854775807/\(((p1.Cells.length:Nat):Int):Int)*8<=140737488355328)) (nO p1 p2 fuel (List.replicate (Int.toNat ((p1.Cells.length:Nat):Int)) (default:Int)) 0))
def I8 (Ph:(List Int)->Int->Option (List Int)) (x1:Int) (x2:List Int):Option (List Int):=Ph x2 (w64 (x1+1))
def uW (p1:ak) (x3:List Int):Nat->(List Int)->Int->Option (List Int)|0,_,_=>none|fu1+1,x4,x1=>(bif(decide (x1<((x3.length:Nat):Int)))then(ixL x3 x1 λx5=>(ixL p1.Cells x1 λx6=>(bif(decide (x6.kS<x5))then(chk (decide ((x4.length+ [x1].length)*8<=room)) (I8 (uW p1 x3 fu1) x1 (x4++ [x1])))else I8 (uW p1 x3 fu1) x1 x4)))else(some x4))
def Sm [Fuel] (p1:ak) (p2:aB):Option (List Int):=((K6 p1 p2).bind λx3=>uW p1 x3 fuel ([]:List Int) 0)
def DY [Fuel] (p1:ak) (p2:aB):Option (aB×Int):=((Sm p1 p2).bind λx1=>(bif(decide (0<((x1.length:Nat):Int)))then(some ((⟨0,0,([]:List ay),([]:List aH),0,0,0,0⟩:aB),10))else(some (p2,0))))
def Oh [Fuel] (p1:ak) (p2:aB) (p3:aA):Option (aB×Int):=(ixL p2.ah p3.aD λx1=>(bif x1.Placed then((dY 4).bind λx2=>(some (x2.1,x2.2)))else(ixL p2.Cells p3.Cell λx3=>(ixG ((!(x3.Mode !=1))&&(decide (0<=p3.Other))) p2.Cells p3.Other λx4=>(bif((x3.Mode !=1)||((decide (0<=p3.Other))&&(x4.Mode !=1)))then((dY 6).bind λx5=>(some (x5.1,x5.2)))else((yt p1 p2 p3.Cell).bind λx6=>(((bif((!x6)&&(decide (0<=p3.Other)))then yt p1 p2 p3.Other else some default)).bind λx7=>(bif(x6||((decide (0<=p3.Other))&&x7))then((dY 12).bind λx8=>(some (x8.1,x8.2)))else((DN p1 p3.aD p3.Cell).bind λx9=>(((bif((!(!x9))&&(decide (0<=p3.Other)))then DN p1 p3.aD p3.Other else some default)).bind Md=>(((bif(((!(!x9))&&(decide (0<=p3.Other)))&&(!(!x10)))then pR p1 p3.Cell p3.Other else some default)).bind Vk=>(bif((!x9)||((decide (0<=p3.Other))&&((!x10)||x11)))then((dY 11).bind UM=>(some (x12.1,x12.2)))else(dZ (p2.ah.set (Int.toNat p3.aD) {x1 with Placed:=true}) abk=>(dZ (x13.getD (Int.toNat p3.aD) default) aem=>(dZ (x13.set (Int.toNat p3.aD) {x14 with Home:=p3.Cell}) ady=>(dZ (x15.getD (Int.toNat p3.aD) default) agG=>(dZ (x15.set (Int.toNat p3.aD) {x16 with aN:=p3.Other}) aiZ=>((DY p1 {p2 with ah:=x17}).bind alm=>(some (x18.1,x18.2))))))))))))))))))))
def I9 (p1:ak) (p2:aB) (p3:aA):Option Int:=(ixL p2.ah p3.aD λx1=>(ixL p2.Cells p3.Cell λx2=>(bif((x2.Mode==3)||((x2.Mode==2)&&(!(p3.Cell==x1.Home))))then(some 6)else(bif((((p3.Cell==x1.Home)&&(p3.Epoch !=x1.Epoch))&&(p3.Epoch !=(w64 (x1.Epoch+1))))||((!(p3.Cell==x1.Home))&&(p3.Epoch !=(w64 (x1.Epoch+1)))))then(some 7)else(bif((p3.N !=x2.Running)||(x2.Running !=x2.Wanted))then(some 8)else(bif(((((decide (p3.From<p3.Tick))||(decide ((w64 (p3.Tick+p1.Lease))<p3.From)))||(decide (p3.Until<=p3.From)))||(decide (p1.Lease<(w64 (p3.Until - p3.From)))))||(decide (p3.From<x1.Window.Until)))then(some 9)else(bif((!(p3.Cell==x1.Home))&&(decide (p3.Tick<x1.Window.Until)))then(some 9)else(some 0))))))))
def Az [Fuel] (p1:ak) (x1:aB):Option (aB×Int):=((DY p1 x1).bind λx2=>(some (x2.1,x2.2)))
def Oi [Fuel] (p1:ak) (p2:aB) (p3:aA):Option (aB×Int):=(ixL p2.ah p3.aD λx3=>(bif((!x3.Placed)||(x3.Aa&&(p3.Cell !=x3.aN)))then((dY 4).bind λx4=>(some (x4.1,x4.2)))else(bif(((p3.Cell !=x3.Home)&&(p3.Cell !=x3.aN))&&(p3.Cell !=x3.Target))then((dY 5).bind λx5=>(some (x5.1,x5.2)))else((I9 p1 p2 p3).bind λx6=>(bif(x6 !=0)then((dY x6).bind λx7=>(some (x7.1,x7.2)))else(dZ (p2.ah.set (Int.toNat p3.aD) {x3 with Window:=(⟨p3.Cell,p3.Epoch,p3.N,p3.From,p3.Until⟩:aT)}) λx8=>(dZ (x8.getD (Int.toNat p3.aD) default) λx9=>(dZ (x8.set (Int.toNat p3.aD) {x9 with Epoch:=p3.Epoch}) Md=>(dZ (x10.getD (Int.toNat p3.aD) default) Vk=>(bif(p3.Cell==x11.Home)then Az p1 {p2 with ah:=x10}else(bif(p3.Cell==x11.aN)then(dZ (x10.set (Int.toNat p3.aD) {x11 with Home:=p3.Cell}) UM=>(dZ (x12.getD (Int.toNat p3.aD) default) abk=>(dZ (x12.set (Int.toNat p3.aD) {x13 with aN:=(-1)}) aem=>(dZ (x14.getD (Int.toNat p3.aD) default) ady=>(dZ (x14.set (Int.toNat p3.aD) {x15 with Next:=(-1)}) agG=>(dZ (x16.getD (Int.toNat p3.aD) default) aiZ=>(dZ (x16.set (Int.toNat p3.aD) {x17 with Target:=(-1)}) alm=>(dZ (x18.getD (Int.toNat p3.aD) default) apX=>(dZ (x18.set (Int.toNat p3.aD) {x19 with Aa:=false}) amZ=>Az p1 {p2 with ah:=x20})))))))))else(dZ (x10.set (Int.toNat p3.aD) {x11 with Home:=p3.Cell}) alk=>(dZ (x21.getD (Int.toNat p3.aD) default) aoT=>(dZ (x21.set (Int.toNat p3.aD) {x22 with Target:=(-1)}) aoU=>Az p1 {p2 with ah:=x23}))))))))))))))
def aac (p1:aT) (p2:Int):Option aT:=(some {p1 with From:=(Qq p1.From (Qq p1.Until (w64 (p2+1)))),Until:=(Qq p1.Until (w64 (p2+1)))})
def Vs (p1:aB) (p2:aA):Option (aB×Int):=(ixL p1.ah p2.aD λx1=>(bif(!x1.Placed)then((dY 4).bind λx2=>(some (x2.1,x2.2)))else(bif(p2.Epoch !=x1.Epoch)then((dY 7).bind λx3=>(some (x3.1,x3.2)))else((aac x1.Window p2.Tick).bind λx4=>(dZ (p1.ah.set (Int.toNat p2.aD) {x1 with Window:=x4}) λx5=>(some ({p1 with ah:=x5},0)))))))
def Bp [Fuel] (p1:ak) (p2:aB) (p3:aA) (x1:Nat):Option (aB×Int):=(dZ (p2.ah.getD x1 default) λx2=>(dZ (p2.ah.set x1 {x2 with Next:=p3.Cell}) λx3=>((DY p1 {p2 with ah:=x3}).bind λx4=>(some (x4.1,x4.2)))))
def Ja [Fuel] (p1:ak) (p2:aB) (p3:aA):Option (aB×Int):=(ixL p2.ah p3.aD λx5=>(bif(!x5.Placed)then((dY 4).bind λx6=>(some (x6.1,x6.2)))else(bif(decide (p3.Cell<0))then Bp p1 p2 p3 (Int.toNat p3.aD)else(bif(((p3.Cell==x5.Home)||(p3.Cell==x5.aN))||(p3.Cell==x5.Target))then((dY 5).bind λx7=>(some (x7.1,x7.2)))else(ixL p2.Cells p3.Cell λx8=>(bif(x8.Mode !=1)then((dY 6).bind λx9=>(some (x9.1,x9.2)))else((yt p1 p2 p3.Cell).bind Md=>(bif x10 then((dY 12).bind Vk=>(some (x11.1,x11.2)))else((DN p1 p3.aD p3.Cell).bind UM=>(((bif(!(!x12))then pR p1 p3.Cell x5.Home else some default)).bind abk=>(((bif(!((!x12)||x13))then pR p1 p3.Cell x5.Target else some default)).bind aem=>(bif(((!x12)||x13)||x14)then((dY 11).bind ady=>(some (x15.1,x15.2)))else Bp p1 p2 p3 (Int.toNat p3.aD)))))))))))))
def Oj (p1:aB) (p2:aA):Option (aB×Int):=(ixL p1.ah p2.aD λx1=>(bif(!x1.Placed)then((dY 4).bind λx2=>(some (x2.1,x2.2)))else(bif(p2.Cell !=x1.Next)then((dY 5).bind λx3=>(some (x3.1,x3.2)))else(ixL p1.Cells p2.Cell λx4=>(bif(x4.Mode==3)then((dY 6).bind λx5=>(some (x5.1,x5.2)))else(dZ (p1.ah.set (Int.toNat p2.aD) {x1 with aN:=p2.Cell}) λx6=>(dZ (x6.getD (Int.toNat p2.aD) default) λx7=>(dZ (x6.set (Int.toNat p2.aD) {x7 with Next:=(-1)}) λx8=>(some ({p1 with ah:=x8},0))))))))))
def Jb [Fuel] (p1:ak) (p2:aB) (p3:aA):Option (aB×Int):=(ixL p2.ah p3.aD λx1=>(bif(((!x1.Placed)||x1.Aa)||(decide (0<=x1.Target)))then((dY 4).bind λx2=>(some (x2.1,x2.2)))else(bif(((p3.Cell==x1.Home)||(p3.Cell==x1.aN))||(p3.Cell==x1.Next))then((dY 5).bind λx3=>(some (x3.1,x3.2)))else(ixL p2.Cells p3.Cell λx4=>(bif(x4.Mode !=1)then((dY 6).bind λx5=>(some (x5.1,x5.2)))else((yt p1 p2 p3.Cell).bind λx6=>(bif x6 then((dY 12).bind λx7=>(some (x7.1,x7.2)))else((DN p1 p3.aD p3.Cell).bind λx8=>(((bif(!(!x8))then pR p1 p3.Cell x1.aN else some default)).bind λx9=>(((bif(!((!x8)||x9))then pR p1 p3.Cell x1.Next else some default)).bind Md=>(bif(((!x8)||x9)||x10)then((dY 11).bind Vk=>(some (x11.1,x11.2)))else(dZ (p2.ah.set (Int.toNat p3.aD) {x1 with Target:=p3.Cell}) UM=>((DY p1 {p2 with ah:=x12}).bind abk=>(some (x13.1,x13.2)))))))))))))))
def Jc (p1:aB) (p2:aA):Option (aB×Int):=(ixL p1.ah p2.aD λx1=>(bif((!x1.Placed)||(decide (x1.Target<0)))then((dY 4).bind λx2=>(some (x2.1,x2.2)))else(dZ (p1.ah.set (Int.toNat p2.aD) {x1 with Target:=(-1)}) λx3=>(some ({p1 with ah:=x3},0)))))
def Sn [Fuel] (p1:ak) (p2:aB) (p3:aA):Option (aB×Int):=(ixL p2.ah p3.aD λx1=>(bif(p3.N==1)then(bif((!x1.Placed)||x1.Aa)then((dY 4).bind λx2=>(some (x2.1,x2.2)))else(bif(decide (p3.Tick<x1.Window.Until))then((dY 9).bind λx3=>(some (x3.1,x3.2)))else(dZ (p2.ah.set (Int.toNat p3.aD) {x1 with Aa:=true}) λx4=>(dZ (x4.getD (Int.toNat p3.aD) default) λx5=>(dZ (x4.set (Int.toNat p3.aD) {x5 with Target:=(-1)}) λx6=>(some ({p2 with ah:=x6},0)))))))else(bif(!x1.Aa)then((dY 4).bind λx7=>(some (x7.1,x7.2)))else(ixL p2.Cells x1.Home λx8=>(bif(x8.Mode==3)then((dY 6).bind λx9=>(some (x9.1,x9.2)))else(dZ (p2.ah.set (Int.toNat p3.aD) {x1 with Aa:=false}) Md=>((DY p1 {p2 with ah:=x10}).bind Vk=>(some (x11.1,x11.2)))))))))
def rP (p1:aB) (p2:Int):Option Bool:=((GY p1.jV p2).bind λx1=>(some x1))
def Sq (p1:aB) (p2:Int):Option Bool:=(ixL p1.Cells p2 λx1=>((rP p1 x1.Running).bind λx2=>(ixG (!(!x2)) p1.Cells p2 λx3=>(((bif(!(!x2))then rP p1 x3.Wanted else some default)).bind λx4=>(some ((!x2)||(!x4)))))))
def Jd (Pj:Int->Int->Option (aB×Int)) (x1 x2:Int):Option (aB×Int):=Pj x2 (w64 (x1+1))
def yV (p1:ak) (p2:aB) (p3:aA) (x3:aY) (x4:Nat):Nat->Int->Int->Option (aB×Int)|0,_,_=>none|fu1+1,x5,x1=>(bif(decide (x1<((p2.Cells.length:Nat):Int)))then(((bif(x1 !=p3.Cell)then Sq p2 x1 else some default)).bind λx6=>(bif((x1 !=p3.Cell)&&x6)then Jd (yV p1 p2 p3 x3 x4 fu1) x1 (w64 (x5+1))else Jd (yV p1 p2 p3 x3 x4 fu1) x1 x5))else(dZ (p2.Cells.getD x4 default) λx7=>(bif(x7.Wanted==p3.N)then((dY 4).bind λx8=>(some (x8.1,x8.2)))else(bif((decide (p2.Low<x3.Low))||(decide (x3.High<p2.High)))then((dY 13).bind λx9=>(some (x9.1,x9.2)))else(((bif(p3.N !=x7.Running)then rP p2 p3.N else some default)).bind Md=>(bif(((p3.N !=x7.Running)&&(!x10))&&(p2.bg !=0))then((dY 12).bind Vk=>(some (x11.1,x11.2)))else(((bif(p3.N !=x7.Running)then rP p2 p3.N else some default)).bind UM=>(bif(((p3.N !=x7.Running)&&(!x12))&&(decide (p1.Bu<=x5)))then((dY 14).bind abk=>(some (x13.1,x13.2)))else(dZ (p2.Cells.set x4 {x7 with Wanted:=p3.N}) aem=>(some ({p2 with Cells:=x14},0)))))))))))
def Sr [Fuel] (p1:ak) (p2:aB) (p3:aA):Option (aB×Int):=(ixL p2.Cells p3.Cell ady=>(ixL p1.bf p3.N λx3=>yV p1 p2 p3 x3 (Int.toNat p3.Cell) fuel 0 0))
def yX (p1:aB) (p2:aA) (x1:Nat):Nat->Int->Option (aB×Int)|0,_=>none|fu1+1,x2=>(bif(decide (x2<((p1.ah.length:Nat):Int)))then(ixL p1.ah x2 λx3=>(bif((x3.Window.Cell==p2.Cell)&&(decide (p2.Tick<x3.Window.Until)))then((dY 9).bind λx4=>(some (x4.1,x4.2)))else(yX p1 p2 x1 fu1) (w64 (x2+1))))else(dZ (p1.Cells.getD x1 default) λx5=>(dZ (p1.Cells.set x1 {x5 with Running:=p2.N}) λx6=>(dZ (x6.getD x1 default) λx7=>(dZ (x6.set x1 {x7 with Since:=p2.Tick}) λx8=>(some ({p1 with Cells:=x8},0)))))))
def Sv [Fuel] (p1:aB) (p2:aA):Option (aB×Int):=(ixL p1.Cells p2.Cell λx9=>(bif((p2.N !=x9.Wanted)||(x9.Running==x9.Wanted))then((dY 4).bind Md=>(some (x10.1,x10.2)))else((rP p1 p2.N).bind Vk=>(bif((!x11)&&(p1.bg !=0))then((dY 12).bind UM=>(some (x12.1,x12.2)))else yX p1 p2 (Int.toNat p2.Cell) fuel 0))))
def wC (p1:ak) (p2:aB) (p3:aA):Nat->Int->Option (aB×Int)|0,_=>none|fu1+1,x1=>(bif(decide (x1<((p2.Cells.length:Nat):Int)))then(ixL p2.Cells x1 λx2=>(bif((((x2.Mode !=3)&&(x2.Running==p3.N))&&(x2.Wanted==p3.N))&&(decide (p1.UL<=(w64 (p3.Tick - x2.Since)))))then(chk (decide ((0:Int)<=(IntKind.u64.wrap p3.N))) (some ({p2 with jV:=(orK .i64 p2.jV (CW .i64 1 (IntKind.u64.wrap p3.N)))},0)))else(wC p1 p2 p3 fu1) (w64 (x1+1))))else((dY 15).bind λx3=>(some (x3.1,x3.2))))
def Ol [Fuel] (p1:ak) (p2:aB) (p3:aA):Option (aB×Int):=((rP p2 p3.N).bind λx4=>(bif x4 then((dY 4).bind λx5=>(some (x5.1,x5.2)))else wC p1 p2 p3 fuel 0))
def tJ (p1:ak) (p2:aB):Nat->Int->Option (aB×Int)|0,_=>none|fu1+1,x1=>(bif(decide (x1<((p2.Cells.length:Nat):Int)))then(ixL p2.Cells x1 λx2=>(ixL p1.bf x2.Running λx3=>(ixG (!(decide (x3.High<=p2.High))) p1.bf x2.Wanted λx4=>(bif((decide (x3.High<=p2.High))||(decide (x4.High<=p2.High)))then((dY 13).bind λx5=>(some (x5.1,x5.2)))else(tJ p1 p2 fu1) (w64 (x1+1))))))else(some ({p2 with High:=(w64 (p2.High+1))},0)))
def K7 [Fuel] (p1:ak) (p2:aB):Option (aB×Int):=(bif(decide (p2.Low<p2.High))then((dY 4).bind λx6=>(some (x6.1,x6.2)))else(bif(decide (30<=p2.High))then((dY 2).bind λx7=>(some (x7.1,x7.2)))else tJ p1 p2 fuel 0))
def nE (x1:aB):Option (aB×Int):=(some (x1,0))
def Oo [Fuel] (p1:ak) (p2:aB) (p3:aA):Option (aB×Int):=((FE p1 p3).bind λx2=>(bif(!x2)then((dY 1).bind λx3=>(some (x3.1,x3.2)))else(bif(decide (4096<=p2.Count))then((dY 2).bind λx4=>(some (x4.1,x4.2)))else(bif(decide (p3.Tick<p2.Tick))then((dY 3).bind λx5=>(some (x5.1,x5.2)))else((K5 p2).bind λx6=>(bif(p3.Kind==1)then((Oh p1 {x6 with Tick:=p3.Tick,Count:=(w64 (x6.Count+1))} p3).bind λx7=>(some (x7.1,x7.2)))else(bif(p3.Kind==2)then((Oi p1 {x6 with Tick:=p3.Tick,Count:=(w64 (x6.Count+1))} p3).bind λx8=>(some (x8.1,x8.2)))else(bif(p3.Kind==3)then((Vs {x6 with Tick:=p3.Tick,Count:=(w64 (x6.Count+1))} p3).bind λx9=>(some (x9.1,x9.2)))else(bif(p3.Kind==4)then((Ja p1 {x6 with Tick:=p3.Tick,Count:=(w64 (x6.Count+1))} p3).bind Md=>(some (x10.1,x10.2)))else(bif(p3.Kind==5)then((Oj {x6 with Tick:=p3.Tick,Count:=(w64 (x6.Count+1))} p3).bind Vk=>(some (x11.1,x11.2)))else(bif(p3.Kind==6)then((Jb p1 {x6 with Tick:=p3.Tick,Count:=(w64 (x6.Count+1))} p3).bind UM=>(some (x12.1,x12.2)))else(bif(p3.Kind==7)then((Jc {x6 with Tick:=p3.Tick,Count:=(w64 (x6.Count+1))} p3).bind abk=>(some (x13.1,x13.2)))else(bif(p3.Kind==8)then((Sn p1 {x6 with Tick:=p3.Tick,Count:=(w64 (x6.Count+1))} p3).bind aem=>(some (x14.1,x14.2)))else(bif(p3.Kind==9)then(ixL x6.Cells p3.Cell ady=>(bif(x15.Mode==p3.N)then((dY 4).bind agG=>(some (x16.1,x16.2)))else(ixL x6.Cells p3.Cell aiZ=>(dZ (x6.Cells.set (Int.toNat p3.Cell) {x17 with Mode:=p3.N}) alm=>(ixL x18 p3.Cell apX=>(dZ (x18.set (Int.toNat p3.Cell) {x19 with Since:=p3.Tick}) amZ=>nE {x6 with Tick:=p3.Tick,Count:=(w64 (x6.Count+1)),Cells:=x20}))))))else(bif(p3.Kind==10)then((Sr p1 {x6 with Tick:=p3.Tick,Count:=(w64 (x6.Count+1))} p3).bind alk=>(some (x21.1,x21.2)))else(bif(p3.Kind==11)then((Sv {x6 with Tick:=p3.Tick,Count:=(w64 (x6.Count+1))} p3).bind aoT=>(some (x22.1,x22.2)))else(bif(p3.Kind==12)then((Ol p1 {x6 with Tick:=p3.Tick,Count:=(w64 (x6.Count+1))} p3).bind aoU=>(some (x23.1,x23.2)))else(bif(p3.Kind==13)then((GY x6.bg p3.Other).bind apY=>(bif(x24==(p3.N==1))then((dY 4).bind ash=>(some (x25.1,x25.2)))else(chk (decide ((0:Int)<=(IntKind.u64.wrap p3.Other))) (nE {x6 with Tick:=p3.Tick,Count:=(w64 (x6.Count+1)),bg:=(alc .i64 x6.bg (CW .i64 1 (IntKind.u64.wrap p3.Other)))}))))else(bif(p3.Kind==14)then((K7 p1 {x6 with Tick:=p3.Tick,Count:=(w64 (x6.Count+1))}).bind asi=>(some (x26.1,x26.2)))else(bif(p3.Kind==15)then(bif(x6.High==x6.Low)then((dY 4).bind auD=>(some (x27.1,x27.2)))else nE {x6 with Tick:=p3.Tick,Count:=(w64 (x6.Count+1)),Low:=x6.High})else nE {x6 with Tick:=p3.Tick,Count:=(w64 (x6.Count+1))}))))))))))))))))))))
def Uu [Fuel] (LM:aP->aB->(List aA)->Option (List aA)) (p2:ak) (x1:aB) (x2:List aA) (x3:aP):Option (List aA):=((Sl x3 p2 x1).bind λx4=>((Oo p2 x1 x4.1).bind λx5=>(bif(x5.2==0)then(chk (decide ((x2.length+ [x4.1].length)*72<=room)) (LM x4.2 x5.1 (x2++ [x4.1])))else LM x4.2 x1 x2)))
def JU [Fuel] (p2:ak) (p3:Int):Nat->aP->aB->(List aA)->Option (List aA)|0,_,_,_=>none|fu1+1,x6,x1,x2=>(((bif(decide (((x2.length:Nat):Int)<p3))then LK x6 else some (default,x6))).bind λx7=>(bif((decide (((x2.length:Nat):Int)<p3))&&x7.1)then Uu (JU p2 p3 fu1) p2 x1 x2 x7.2 else(some x2)))
def Vt [Fuel] (p1:List Int) (p2:ak) (p3:Int):Option (List aA):=((Vp p1).bind λx8=>((Vr p2).bind λx9=>JU p2 p3 fuel x8 x9 ([]:List aA)))
def bY (p1:List aI) (p2:aI) (x1:Int):Nat->Int->Option Int|0,_=>none|fu1+1,x2=>(bif(decide (x2<x1))then(ixL p1 x2 λx3=>(bif((p2.Rule==x3.Rule)&&((p2.aD==x3.aD)&&((p2.Other==x3.Other)&&((p2.Cell==x3.Cell)&&((p2.Region==x3.Region)&&true)))))then(some x2)else(bY p1 p2 x1 fu1) (w64 (x2+1))))else(some (-1)))
def kV [Fuel] (p1:List aI) (p2:aI):Option Int:=bY p1 p2 ((p1.length:Nat):Int) fuel 0
def gZ [Fuel] (p1:List aI) (p2:aI):Option Bool:=((kV p1 p2).bind λx1=>(some (decide (0<=x1))))
def MP [Fuel] (p1:aF) (p2:List aK) (p3:Int):Option Int:=((DF p1 p2).bind λx1=>(bif(!x1)then(some 0)else((DK p1 p2).bind λx2=>((ML x2 p3).bind λx3=>(some x3)))))
def MQ [Fuel] (p1:aF) (p2:List aK) (p3:Int):Option Int:=((DF p1 p2).bind λx1=>(bif(!x1)then(some 0)else((JL p1 p2).bind λx2=>((MN x2 p3).bind λx3=>(some x3)))))
def zQ [Fuel] (p1:aX) (p2:Int):Option (Bool×aX):=(chk (!(decide (1<=p2))||decide ((0:Int)<=p1.problem.Config.bK)) (((bif((decide (1<=p2))&&(decide (p2<(CW .i64 1 p1.problem.Config.bK))))then MP p1.problem p1.places p2 else some default)).bind λx1=>(((bif((decide (1<=p2))&&(decide (p2<(CW .i64 1 p1.problem.Config.bK))))then MQ p1.problem p1.places p2 else some default)).bind λx2=>(some ((((decide (1<=p2))&&(decide (p2<(CW .i64 1 p1.problem.Config.bK))))&&(decide (x2<x1))),p1)))))
def jT [Fuel] (p1:aX) (p2:Int):Option Bool:=(chk (!(decide (1<=p2))||decide ((0:Int)<=p1.problem.Config.bK)) (((bif((decide (1<=p2))&&(decide (p2<(CW .i64 1 p1.problem.Config.bK))))then MP p1.problem p1.places p2 else some default)).bind λx1=>(((bif((decide (1<=p2))&&(decide (p2<(CW .i64 1 p1.problem.Config.bK))))then MQ p1.problem p1.places p2 else some default)).bind λx2=>(some (((decide (1<=p2))&&(decide (p2<(CW .i64 1 p1.problem.Config.bK))))&&(decide (x2<x1)))))))
theorem Oq [Fuel] (p1:aX) (p2:Int):zQ p1 p2=(jT p1 p2).bind λx=>some (x,p1):=by
  simp only [zQ,jT,d9,bU,eu,eB,eD,bV,bW,bX]
def rQ (Cq:aX->Int->Option (Bool×aX)) (x1:Int) (x2:aX):Option (Bool×aX):=Cq x2 (w64 (x1+1))
def kP (bq:aX->Option (Bool×aX)) (x3:Nat) (x4:Int):Nat->aX->Int->Option (Bool×aX)|0,_,_=>none|fu1+1,x5,x1=>(bif(decide (x1<x4))then(chk (decide ((0:Int)<=x1)) (bif((jK .i64 (oI .i64 x5.problem.Cells x1) 1)==0)then rQ (kP bq x3 x4 fu1) x1 x5 else(dZ (x5.places.getD x3 default) λx6=>(dZ (x5.places.set x3 {x6 with aN:=x1}) λx7=>((bq {x5 with places:=x7}).bind λx8=>(bif(!x8.1)then(dZ (x8.2.places.getD x3 default) λx9=>(dZ (x8.2.places.set x3 {x9 with aN:=(-1)}) Md=>(some (false,{x8.2 with places:=x10}))))else rQ (kP bq x3 x4 fu1) x1 x8.2))))))else(dZ (x5.places.getD x3 default) Vk=>(dZ (x5.places.set x3 {x11 with aN:=(-1)}) UM=>(some (true,{x5 with places:=x12})))))
def yu [Fuel] (bq:aX->Option (Bool×aX)) (p1:aX) (x3:Nat):Option (Bool×aX):=kP bq x3 ((p1.problem.Config.Cells.length:Nat):Int) fuel p1 0
def rR (Cr:aX->Int->Option (Bool×aX)) (x13:Int) (x14:aX):Option (Bool×aX):=Cr x14 (w64 (x13+1))
def kQ (bq:aX->Option (Bool×aX)) (x15:Nat) (x16:Int):Nat->aX->Int->Option (Bool×aX)|0,_,_=>none|fu2+1,x17,x13=>(bif(decide (x13<x16))then(chk (decide ((0:Int)<=x13)) (bif((jK .i64 (oI .i64 x17.problem.Cells x13) 1)==0)then rR (kQ bq x15 x16 fu2) x13 x17 else(dZ (x17.places.getD x15 default) alm=>(dZ (x17.places.set x15 {x18 with Home:=x13}) apX=>((bq {x17 with places:=x19}).bind amZ=>(bif(!x20.1)then(dZ (x20.2.places.getD x15 default) alk=>(dZ (x20.2.places.set x15 {x21 with Home:=(-1)}) aoT=>(some (false,{x20.2 with places:=x22}))))else rR (kQ bq x15 x16 fu2) x13 x20.2))))))else(dZ (x17.places.getD x15 default) aoU=>(dZ (x17.places.set x15 {x23 with Home:=(-1)}) apY=>(some (true,{x17 with places:=x24})))))
def yw [Fuel] (bq:aX->Option (Bool×aX)) (p1:aX) (x15:Nat):Option (Bool×aX):=kQ bq x15 ((p1.problem.Config.Cells.length:Nat):Int) fuel p1 0
def xg [Fuel] (bq:aX->Option (Bool×aX)) (p1:aX) (p2:Int):Option (Bool×aX):=(chk (!(!(decide (p2<0)))||decide (2≠(0:Int))) (bif((decide (p2<0))||(decide (((p1.places.length:Nat):Int)<=(w64 (Int.tdiv p2 2)))))then(some (false,p1))else(ixL p1.places (w64 (Int.tdiv p2 2)) ash=>(bif((Int.tmod p2 2)==1)then(ixL p1.places (w64 (Int.tdiv p2 2)) asi=>(chk (!(!(x26.aN !=(-1)))||decide (2≠(0:Int))) (chk (!((!(x26.aN !=(-1)))&&((Int.tmod p2 2)==1))||decide (2≠(0:Int))) (((bif((!(x26.aN !=(-1)))&&((Int.tmod p2 2)==1))then pQ p1.problem (w64 (Int.tdiv p2 2))else some default)).bind auD=>(bif((x26.aN !=(-1))||(((Int.tmod p2 2)==1)&&x27))then(some (false,p1))else yu bq p1 (Int.toNat (w64 (Int.tdiv p2 2))))))))else(chk (!(!(x25.Home !=(-1)))||decide (2≠(0:Int))) (chk (!((!(x25.Home !=(-1)))&&((Int.tmod p2 2)==1))||decide (2≠(0:Int))) (((bif((!(x25.Home !=(-1)))&&((Int.tmod p2 2)==1))then pQ p1.problem (w64 (Int.tdiv p2 2))else some default)).bind aCp=>(bif((x25.Home !=(-1))||(((Int.tmod p2 2)==1)&&x28))then(some (false,p1))else yw bq p1 (Int.toNat (w64 (Int.tdiv p2 2)))))))))))
def tK [Fuel] (bq:aX->Option (Bool×aX)) (p1:aX):Option (Bool×aX):=(bif(decide (((p1.tree.length:Nat):Int)<=p1.at_))then(some (false,p1))else(ixL p1.tree p1.at_ λx1=>(bif(x1.Kind==2)then(((bif((x1.Var==0)&&(x1.Set==0))then DJ p1.problem p1.places else some default)).bind λx2=>(((bif((x1.Var==0)&&(x1.Set==0))then gZ x2 x1.jB else some default)).bind λx3=>(some ((((x1.Var==0)&&(x1.Set==0))&&x3),{p1 with at_:=(w64 (p1.at_+1))}))))else(bif(x1.Kind==3)then(((bif((x1.Var==0)&&((x1.jB.Rule==0)&&((x1.jB.aD==0)&&((x1.jB.Other==0)&&((x1.jB.Cell==0)&&((x1.jB.Region==0)&&true))))))then jT {p1 with at_:=(w64 (p1.at_+1))} x1.Set else some default)).bind λx4=>(some ((((x1.Var==0)&&((x1.jB.Rule==0)&&((x1.jB.aD==0)&&((x1.jB.Other==0)&&((x1.jB.Cell==0)&&((x1.jB.Region==0)&&true))))))&&x4),{p1 with at_:=(w64 (p1.at_+1))})))else(bif(x1.Kind==1)then(((bif((x1.Set==0)&&((x1.jB.Rule==0)&&((x1.jB.aD==0)&&((x1.jB.Other==0)&&((x1.jB.Cell==0)&&((x1.jB.Region==0)&&true))))))then xg bq {p1 with at_:=(w64 (p1.at_+1))} x1.Var else some (default,{p1 with at_:=(w64 (p1.at_+1))}))).bind λx5=>(some ((((x1.Set==0)&&((x1.jB.Rule==0)&&((x1.jB.aD==0)&&((x1.jB.Other==0)&&((x1.jB.Cell==0)&&((x1.jB.Region==0)&&true))))))&&x5.1),x5.2)))else(some (false,{p1 with at_:=(w64 (p1.at_+1))})))))))
def fF [Fuel]:Nat->aX->Option (Bool×aX)|0,_=>none|n+1,p1=>tK (fF n) p1
def nP [Fuel] (p1:aF) (p2:eG) (x1:Int):Nat->(List aK)->Int->Option Bool|0,_,_=>none|fu1+1,x2,x3=>(bif(decide (x3<x1))then(ixL x2 x3 λx4=>(dZ (x2.set (Int.toNat x3) (⟨(-1),(-1)⟩:aK)) λx5=>(nP p1 p2 x1 fu1) x5 (w64 (x3+1))))else(((fF fuel) (⟨p1,x2,p2.Tree,0⟩:aX)).bind λx6=>(some (x6.1&&(x6.2.at_==((p2.Tree.length:Nat):Int))))))
def GZ [Fuel] (p1:aF) (p2:eG):Option Bool:=((ug p1.Config).bind λx7=>(bif(((x7 !=0)||(decide (0<((p2.Places.length:Nat):Int))))||(decide (2048<((p2.Tree.length:Nat):Int))))then(some false)else(chk (decide ((0:Int)<=((p1.Config.ah.length:Nat):Int)/\(((p1.Config.ah.length:Nat):Int):Int)<=((p1.Config.ah.length:Nat):Int)/\(((p1.Config.ah.length:Nat):Int):Int)<=9223372036854775807/\(((p1.Config.ah.length:Nat):Int):Int)*16<=140737488355328)) (nP p1 p2 (((List.replicate (Int.toNat ((p1.Config.ah.length:Nat):Int)) (default:aK)).length:Nat):Int) fuel (List.replicate (Int.toNat ((p1.Config.ah.length:Nat):Int)) (default:aK)) 0))))
def jI [Fuel] (lQ:aF->Int->Option Bool) (p3:eG) (x1:ak) (x2:eG) (x3:Int) (x4:aB):Nat->aF->Bool->Int->Option Bool|0,_,_,_=>none|fu1+1,x5,x6,x7=>(bif(decide (x7<((x4.ah.length:Nat):Int)))then(ixL x4.ah x7 λx8=>(((bif(((x6&&x8.Placed)&&(!x8.Aa))&&(!(decide (0<=x8.aN))))then pQ {x5 with Config:={x5.Config with ah:=x1.ah}} x7 else some default)).bind λx9=>(jI lQ p3 x1 x2 x3 x4 fu1) {x5 with Config:={x5.Config with ah:=x1.ah}} (((x6&&x8.Placed)&&(!x8.Aa))&&((decide (0<=x8.aN))||x9)) (w64 (x7+1))))else(((bif x6 then GZ {x5 with Config:={x5.Config with ah:=x1.ah}} p3 else some default)).bind Md=>(((bif(x6&&(!x10))then GZ {x5 with Config:={x5.Config with ah:=x1.ah}} x2 else some default)).bind Vk=>(bif(x6&&(x10||x11))then(some false)else lQ {x5 with Config:={x5.Config with ah:=x1.ah}} (w64 (x3+1))))))
def FI [Fuel] (lQ:aF->Int->Option Bool) (p3:eG) (x1:ak) (x12:List aA) (x2:eG) (x3:Int) (x13:aF):Option Bool:=(chk (decide (0<=x3/\x3<=((x12.length:Nat):Int))) ((MB x1 (x12.take (Int.toNat x3))).bind aem=>(bif((x14.2.2 !=0)||(((x14.1.ah.length:Nat):Int) !=((x1.ah.length:Nat):Int)))then(some false)else jI lQ p3 x1 x2 x3 x14.1 fuel {x13 with Config:={x13.Config with ah:=x1.ah}} true 0)))
def fV [Fuel] (p3:eG) (x1:ak) (x12:List aA) (x2:eG):Nat->aF->Int->Option Bool|0,_,_=>none|fu2+1,x15,x3=>(bif(decide (x3<=((x12.length:Nat):Int)))then FI (fV p3 x1 x12 x2 fu2) p3 x1 x12 x2 x3 {x15 with Config:={x15.Config with ah:=x1.ah}}else(some true))
def jJ [Fuel] (p2:List Int) (p3:eG):Nat->ak->Int->Option Bool|0,_,_=>none|fu3+1,x1,x16=>(bif(decide (x16<((x1.ah.length:Nat):Int)))then(ixL x1.ah x16 aiZ=>(dZ (x1.ah.set (Int.toNat x16) {x17 with sH:=0}) alm=>(ixL x18 x16 apX=>(dZ (x18.set (Int.toNat x16) {x19 with Lp:=false}) amZ=>(jJ p2 p3 fu3) {x1 with ah:=x20} (w64 (x16+1))))))else(chk (decide ((0:Int)<=(IntKind.u64.wrap ((x1.Cells.length:Nat):Int)))) ((Sj (⟨x1,(w64 ((CW .i64 1 (IntKind.u64.wrap ((x1.Cells.length:Nat):Int))) - 1)),false⟩:aF)).bind alk=>(bif(x21.2 !=0)then(some (x21.2==2))else((Vt p2 x1 40).bind UM=>fV p3 x1 x12 x21.1 fuel (⟨x1,(w64 ((CW .i64 1 (IntKind.u64.wrap ((x1.Cells.length:Nat):Int))) - 1)),false⟩:aF) 0)))))
def LP [Fuel] (p1 p2:List Int) (p3:eG):Option Bool:=((Vo).bind aoT=>(((bif(!(!x22))then Sd p1 else some default)).bind aoU=>(((bif(!((!x22)||(!x23)))then Sd p2 else some default)).bind apY=>(bif(((((!x22)||(!x23))||(!x24))||(decide (200<((p3.Tree.length:Nat):Int))))||(decide (40<((p3.Places.length:Nat):Int))))then((Vo).bind ash=>(some x25))else((N8 p1).bind asi=>(chk (decide ((([]:List aW).length+x26.ah.length)*56<=room)) (jJ p2 p3 fuel {x26 with ah:=(([]:List aW)++x26.ah)} 0)))))))
end Go.CP
namespace Go.CP
open Go
theorem iQ {α β:Type} [Inhabited α] (xs:List α) (i:Int) (k:α->Option β):ixL xs i k=(idx xs i).bind k:=by
 unfold ixL idx chk;cases decide (0<=i/\i<(xs.length:Int))<;>rfl
theorem avv {α β:Type} [Inhabited α] (g:Bool) (xs:List α) (i:Int) (k:α->Option β):ixG g xs i k=chk (!g||decide (0<=i/\i<(xs.length:Int))) (k (xs.getD i.toNat default)):=rfl
theorem am0 {α β:Type} [Inhabited α] {g:Bool} {xs:List α} {i:Int} {k:α->Option β} (h:g=true->0<=i/\i<(xs.length:Int)):ixG g xs i k=k (xs.getD i.toNat default):=by
 cases g with
 |false=>rfl
 |true=>rw [avv,decide_eq_true (h rfl)];rfl
theorem am1 {α β:Type} [Inhabited α] {g:Bool} {xs:List α} {i:Int} {k:α->Option β} (h:0<=i/\i<(xs.length:Int)):ixG g xs i k=k (xs.getD i.toNat default):=am0 λ_=>h
def Ok {α:Type} (m:Option α) (P:α->Prop):Prop:=∃a,m=some a/\P a
section
variable {α β:Type} {P:α->Prop} {Q:β->Prop}
theorem Ok.bind {m:Option α} {k:α->Option β} (h:Ok m P) (hk:∀a,P a->Ok (k a) Q):Ok (m.bind k) Q:=by
 obtain⟨a,rfl,ha⟩:=h;exact hk a ha
theorem Ok.Vu {m:Option α} {k:α->Option β} {a:α} (h:m=some a) (hk:Ok (k a) Q):Ok (m.bind k) Q:=by
 subst h;exact hk
theorem Ok.chk {b:Bool} {k:Option β} (h:b=true) (hk:Ok k Q):Ok (CP.chk b k) Q:=by subst h;exact hk
theorem Ok.cond {b:Bool} {x y:Option β} (hx:b=true->Ok x Q) (hy:b=false->Ok y Q):Ok (bif b then x else y) Q:=by
 cases b with
 |true=>exact hx rfl
 |false=>exact hy rfl
theorem Ok.some {a:β} (h:Q a):Ok (some a) Q:=⟨a,rfl,h⟩
theorem Ok.mono {P':α->Prop} {m:Option α} (h:Ok m P) (hp:∀a,P a->P' a):Ok m P':=let⟨a,e,p⟩:=h;⟨a,e,hp a p⟩
theorem Ok.idx [Inhabited α] {xs:List α} {i:Int} {k:α->Option β} (h:0<=i/\i<(xs.length:Int)) (hk:∀x,x∈xs->xs.getD i.toNat default=x->Ok (k x) Q):Ok ((CP.idx xs i).bind k) Q:=by
 have hlt:i.toNat<xs.length:=by omega
 have e:CP.idx xs i=Option.some (xs.getD i.toNat default):=by unfold CP.idx;rw [decide_eq_true h];rfl
 refine Ok.Vu e (hk _ ?_ rfl)
 simp [List.getD_eq_getElem?_getD,hlt]
theorem Ok.eq {m:Option α} {a:α} (h:m=Option.some a) (hp:P a):Ok m P:=⟨a,h,hp⟩
end
theorem dT {p:Prop} [Decidable p] (h:p):decide p=true:=decide_eq_true h
theorem bA {x:Int} (h1: -9223372036854775808<=x) (h2:x<9223372036854775808):w64 x=x:=by
 show IntKind.i64.wrap x=x
 simp only [IntKind.wrap,IntKind.signed,IntKind.bits,Bool.true_and,decide_eq_true_eq,ge_iff_le,show(2:Int)^64=18446744073709551616 from rfl,show(2:Int)^(64 - 1)=9223372036854775808 from rfl]
 split<;>omega
def I64 (x:Int):Prop:= -9223372036854775808<=x/\x<9223372036854775808
end Go.CP
namespace Go.CP
open Go
structure TB (t:aP) (b:Int):Prop where
 el:∀x∈t.L,I64 x
 ln:t.L.length<=200
 lo:0<=t.At
 hi:t.At<=b
theorem TB.up [Fuel] {t:aP} {b b':Int} (h:TB t b) (hb:b<=b'):TB t b':=⟨h.el,h.ln,h.lo,Int.le_trans h.hi hb⟩
theorem TB.eta [Fuel] {t:aP} {b:Int} (h:TB t b):TB {L:=t.L,At:=t.At} b:=h
theorem am2 [Fuel] {v n:Int} (_:I64 v) (h1:1<=n) (h2:n<=4611686018427387904):Ok (NY v n) (λr=>0<=r/\r<n):=by
 unfold NY;(try simp only [iQ,dZ])
 have hn:n≠0:=by omega
 refine Ok.chk (dT hn) (Ok.chk (dT hn) (Ok.some ?_))
 have a1:=Int.tmod_lt_of_pos v (show 0<n by omega)
 have a2: -n<v.tmod n:=by
  have:=Int.tmod_lt_of_pos (-v) (show 0<n by omega)
  rw [Int.neg_tmod]at this
  omega
 rw [bA (by omega) (by omega)]
 exact⟨Int.tmod_nonneg _ (by omega),Int.tmod_lt_of_pos _ (by omega)⟩
theorem yx [Fuel] {t:aP} {b n:Int} (h:TB t b) (h1:1<=n) (h2:n<=4611686018427387904) (hb:b<=1000000000):
  Ok (bC t n) (λr=>0<=r.1/\r.1<n/\TB r.2 (b+1)):=by
 have hlo:=h.lo
 have hhi:=h.hi
 unfold bC;(try simp only [iQ,dZ])
 refine Ok.cond (λ_=>Ok.some ⟨by show(0:Int)<=0;omega,by show(0:Int)<n;omega,h.up (by omega)⟩) (λh0=> ?_)
 have hl:((t.L.length:Nat):Int)≠0:=by simpa using h0
 have hlen:(0:Int)<((t.L.length:Nat):Int):=by omega
 have m1:=Int.tmod_nonneg (b:=((t.L.length:Nat):Int)) (a:=t.At) hlo
 have m2:=Int.tmod_lt_of_pos t.At hlen
 refine Ok.chk (dT hl) (Ok.idx ⟨m1,m2⟩ (λx hx _=>Ok.chk (dT hl) ?_))
 refine Ok.bind (am2 (h.el x hx) (by omega) (by omega)) (λy hy=> ?_)
 have d1:0<=t.At.tdiv ((t.L.length:Nat):Int):=Int.tdiv_nonneg hlo (by omega)
 have d2:t.At.tdiv ((t.L.length:Nat):Int)<=t.At:=Int.tdiv_le_self _ hlo
 rw [bA (x:=t.At.tdiv _) (by omega) (by omega),bA (x:=t.At.tdiv _*7) (by omega) (by omega),bA (x:=y+_) (by omega) (by omega)]
 refine Ok.bind (am2 ⟨by omega,by omega⟩ h1 h2) (λz hz=>Ok.some ⟨hz.1,hz.2,?_⟩)
 rw [bA (by omega) (by omega)]
 exact⟨h.el,h.ln,by show 0<=t.At+1;omega,by show t.At+1<=b+1;omega⟩
theorem Ot [Fuel] {t:aP} {b lo hi:Int} (h:TB t b) (h1:lo<=hi) (h2: -1000000000<=lo) (h3:hi<=1000000000) (hb:b<=1000000000):
  Ok (gP t lo hi) (λr=>lo<=r.1/\r.1<=hi/\TB r.2 (b+1)):=by
 unfold gP;(try simp only [iQ,dZ])
 rw [bA (x:=hi - lo) (by omega) (by omega),bA (x:=hi - lo+1) (by omega) (by omega)]
 refine Ok.bind (yx h (by omega) (by omega) hb) (λr hr=>Ok.some ?_)
 rw [bA (by omega) (by omega)]
 exact⟨by show lo<=lo+r.1;omega,by show lo+r.1<=hi;omega,hr.2.2⟩
theorem ai1 [Fuel] {t:aP} {b n:Int} (h:TB t b) (h1:1<=n) (h2:n<=4611686018427387904) (hb:b<=1000000000):
  Ok (dV t n) (λr=>TB r.2 (b+1)):=by
 unfold dV;(try simp only [iQ,dZ])
 exact Ok.bind (yx h h1 h2 hb) (λr hr=>Ok.some hr.2.2)
theorem akG [Fuel] {v lo hi:Int} (hv:I64 v) (h1:lo<=hi) (h2: -1000000000<=lo) (h3:hi<=1000000000):Ok (KY v lo hi) (λr=>lo<=r/\r<=hi):=by
 unfold KY;(try simp only [iQ,dZ])
 rw [bA (x:=hi - lo) (by omega) (by omega),bA (x:=hi - lo+1) (by omega) (by omega)]
 refine Ok.bind (am2 hv (by omega) (by omega)) (λr hr=>Ok.some ?_)
 rw [bA (by omega) (by omega)];omega
structure VT (regions:Int) (x:aW):Prop where
 load:1<=x.Load/\x.Load<=65536
 shadow:0<=x.pJ/\x.pJ<=x.Load
 prio:0<=x.Priority/\x.Priority<=9
 lag: -1<=x.Lag/\x.Lag<=1000
 allowed:1<=x.Allowed/\x.Allowed<2^regions.toNat
 group:0<=x.sH/\x.sH<=32
structure VC (c:ak):Prop where
 reg:1<=c.bK/\c.bK<=3
 zl:1<=c.kT.length/\c.kT.length<=8
 z:∀x∈c.kT,0<=x.Region/\x.Region<c.bK
 cl:1<=c.Cells.length/\c.Cells.length<=16
 cel:∀x∈c.Cells,0<=x.Zone/\x.Zone<(c.kT.length:Int)/\1<=x.kS/\x.kS<=4194304
 tl:c.ah.length<=32
 t:∀x∈c.ah,VT c.bK x
 vl:1<=c.bf.length/\c.bf.length<=30
 v:∀x∈c.bf,0<=x.Low/\x.Low<=x.High/\x.High<=30
 v0:(c.bf.getD 0 default).Low=0
 rl:1<=c.bO.length/\c.bO.length<=5
 r:∀x∈c.bO,0<=x/\x<(c.kT.length:Int)
 ol:1<=c.cB.length/\c.cB.length<=9
 o:∀x∈c.cB,0<=x/\x<(c.kT.length:Int)
 blast:1<=c.Bu/\c.Bu<=16
 adA:1<=c.Lease/\c.Lease<=1000
 bake:0<=c.UL/\c.UL<=10000
 ro:c.bO.length%2=1
theorem Sw [Fuel] {α:Type} {xs:List α} {y:α} {P:α->Prop} (h:∀x∈xs,P x) (hy:P y):∀x∈xs++ [y],P x:=by
 intro x hx
 rcases List.mem_append.1 hx with h1|h1
 ·exact h x h1
 ·rw [List.mem_singleton.1 h1];exact hy
structure Pre (x4:Int) (x5 x6 x7:Int×aP) (zs:List dn):Prop where
 reg:1<=x4/\x4<=3
 bl:1<=x5.1/\x5.1<=3
 le:2<=x6.1/\x6.1<=12
 ba:0<=x7.1/\x7.1<=8
 zl:1<=zs.length/\zs.length<=6
 z:∀x∈zs,0<=x.Region/\x.Region<x4
def ZC (n:Nat) (x:bZ):Prop:=0<=x.Zone/\x.Zone<(n:Int)/\1<=x.kS/\x.kS<=4194304
theorem atg [Fuel] {x4:Int} {x5 x6 x7:Int×aP} {zs:List dn} {cs:List bZ} {ts:List aW} {vs:List aY} {rs:List Int} (hp:Pre x4 x5 x6 x7 zs)
  (hcl:1<=cs.length/\cs.length<=7) (hc:∀x∈cs,ZC zs.length x) (htl:ts.length<=5) (ht:∀x∈ts,VT x4 x)
  (hvl:1<=vs.length/\vs.length<=3) (hv:∀x∈vs,0<=x.Low/\x.Low<=x.High/\x.High<=30) (hv0:(vs.getD 0 default).Low=0)
  (hrl:1<=rs.length/\rs.length<=3) (hro:rs.length%2=1) (hr:∀x∈rs,0<=x/\x<(zs.length:Int)):
  ∀(m:Nat) (T:aP) (os:List Int) (i b:Int),TB T b->b+i<=100000->0<=i->(os.length:Int)+i<=9->1<=(os.length:Int)+i->(∀x∈os,0<=x/\x<(zs.length:Int))->i.toNat<m→
   Ok (Ap m T {bK:=x4,kT:=zs,Cells:=cs,ah:=ts,bf:=vs,bO:=rs,cB:=os,Bu:=x5.1,Lease:=x6.1,UL:=x7.1} i) VC
 |0,_,_,_,_,_,_,_,_,_,_,hm=>absurd hm (Nat.not_lt_zero _)
 | m+1,T,os,i,b,hT,hb,hi,ho1,ho2,ho,hm=>by
  rw [Ap];dsimp only [List.length_cons,List.length_nil]
  have hzl:=hp.zl
  have hT0:=hT.lo
  have hT1:=hT.hi
  refine Ok.cond (λh=> ?_) (λh=> ?_)
  ·have h:=of_decide_eq_true h
   refine Ok.bind (yx hT (by omega) (by omega) (by omega)) (λr hr'=>Ok.chk (dT (by show _<=140737488355328;omega)) ?_)
   rw [bA (by omega) (by omega)]
   exact atg hp hcl hc htl ht hvl hv hv0 hrl hro hr m _ _ _ (b+1) hr'.2.2 (by omega) (by omega) (by simp;omega) (by simp;omega) (Sw ho ⟨hr'.1,hr'.2.1⟩) (by omega)
  ·have h:=of_decide_eq_false h
   have hr1:=hp.reg
   have hbl:=hp.bl
   have hle:=hp.le
   have hba:=hp.ba
   exact Ok.some ⟨hr1,⟨hzl.1,by show zs.length<=8;omega⟩,hp.z,⟨hcl.1,by show cs.length<=16;omega⟩,hc,by show ts.length<=32;omega,ht,⟨hvl.1,by show vs.length<=30;omega⟩,hv,hv0,⟨hrl.1,by show rs.length<=5;omega⟩,hr,
    ⟨by show 1<=os.length;omega,by show os.length<=9;omega⟩,ho,⟨by show 1<=x5.1;omega,by show x5.1<=16;omega⟩,⟨by show 1<=x6.1;omega,by show x6.1<=1000;omega⟩,⟨by show 0<=x7.1;omega,by show x7.1<=10000;omega⟩,hro⟩
theorem ath [Fuel] {x4:Int} {x5 x6 x7:Int×aP} {zs:List dn} {cs:List bZ} {ts:List aW} {vs:List aY} (hp:Pre x4 x5 x6 x7 zs)
  (hcl:1<=cs.length/\cs.length<=7) (hc:∀x∈cs,ZC zs.length x) (htl:ts.length<=5) (ht:∀x∈ts,VT x4 x)
  (hvl:1<=vs.length/\vs.length<=3) (hv:∀x∈vs,0<=x.Low/\x.Low<=x.High/\x.High<=30) (hv0:(vs.getD 0 default).Low=0):
  ∀(m:Nat) (T:aP) (rs:List Int) (i b:Int),TB T b->b+i<=50000->0<=i->(rs.length:Int)+i<=3->1<=(rs.length:Int)+i->((rs.length:Int)+i)%2=1->(∀x∈rs,0<=x/\x<(zs.length:Int))->i.toNat<m→
   Ok (Aq m T {bK:=x4,kT:=zs,Cells:=cs,ah:=ts,bf:=vs,bO:=rs,cB:= [],Bu:=x5.1,Lease:=x6.1,UL:=x7.1} i) VC
 |0,_,_,_,_,_,_,_,_,_,_,_,hm=>absurd hm (Nat.not_lt_zero _)
 | m+1,T,rs,i,b,hT,hb,hi,ho1,ho2,ho3,ho,hm=>by
  rw [Aq];dsimp only [List.length_cons,List.length_nil]
  have hzl:=hp.zl
  refine Ok.cond (λh=> ?_) (λh=> ?_)
  ·have h:=of_decide_eq_true h
   refine Ok.bind (yx hT (by omega) (by omega) (by omega)) (λr hr'=>Ok.chk (dT (by show _<=140737488355328;omega)) ?_)
   rw [bA (by omega) (by omega)]
   exact ath hp hcl hc htl ht hvl hv hv0 m _ _ _ (b+1) hr'.2.2 (by omega) (by omega) (by simp;omega) (by simp;omega) (by first|(simp;omega)|(simp only [List.length_append,List.length_cons,List.length_nil];omega)) (Sw ho ⟨hr'.1,hr'.2.1⟩) (by omega)
  ·have h:=of_decide_eq_false h
   refine Ok.bind (Ot hT (by omega) (by omega) (by omega) (by omega)) (λr hr'=> ?_)
   exact atg hp hcl hc htl ht hvl hv hv0 ⟨by omega,by omega⟩ (by omega) ho fuel _ _ _ (b+1) hr'.2.2 (by omega) (by omega) (by simp;omega) (by simp;omega) (by simp) (by rw [lX];omega)
theorem ati [Fuel] {x4:Int} {x5 x6 x7:Int×aP} {zs:List dn} {cs:List bZ} {ts:List aW} (hp:Pre x4 x5 x6 x7 zs)
  (hcl:1<=cs.length/\cs.length<=7) (hc:∀x∈cs,ZC zs.length x) (htl:ts.length<=5) (ht:∀x∈ts,VT x4 x):
  ∀(m:Nat) (T:aP) (vs:List aY) (i b:Int),TB T b->b+2*i<=40000->0<=i->1<=vs.length->(vs.length:Int)+i<=3->(∀x∈vs,0<=x.Low/\x.Low<=x.High/\x.High<=30)->(vs.getD 0 default).Low=0->i.toNat<m→
   Ok (Ar m T {bK:=x4,kT:=zs,Cells:=cs,ah:=ts,bf:=vs,bO:= [],cB:= [],Bu:=x5.1,Lease:=x6.1,UL:=x7.1} i) VC
 |0,_,_,_,_,_,_,_,_,_,_,_,hm=>absurd hm (Nat.not_lt_zero _)
 | m+1,T,vs,i,b,hT,hb,hi,hv1,hv2,hv,hv0,hm=>by
  rw [Ar];dsimp only [List.length_cons,List.length_nil]
  refine Ok.cond (λh=> ?_) (λh=> ?_)
  ·have h:=of_decide_eq_true h
   refine Ok.bind (yx hT (by omega) (by omega) (by omega)) (λr hr=>Ok.bind (yx hr.2.2 (by omega) (by omega) (by omega)) (λq hq=>Ok.chk (dT (by show _<=140737488355328;omega)) ?_))
   rw [bA (by omega) (by omega),bA (by omega) (by omega)]
   refine ati hp hcl hc htl ht m _ _ _ (b+1+1) hq.2.2 (by omega) (by omega) (by simp) (by simp;omega) (Sw hv ⟨hr.1,by show r.1<=r.1+q.1;omega,by show r.1+q.1<=30;omega⟩) ?_ (by omega)
   rw [List.getD_eq_getElem?_getD,List.getElem?_append_left (by omega),<-List.getD_eq_getElem?_getD];exact hv0
  ·have h:=of_decide_eq_false h
   refine Ok.bind (yx hT (by omega) (by omega) (by omega)) (λr hr=> ?_)
   rw [bA (x:=2*r.1) (by omega) (by omega),bA (by omega) (by omega)]
   exact ath hp hcl hc htl ht ⟨hv1,by omega⟩ hv hv0 fuel _ _ _ (b+1) hr.2.2 (by omega) (by omega) (by simp;omega) (by simp;omega) (by simp only [List.length_nil];omega) (by simp) (by rw [lX];omega)
theorem am3 [Fuel] {n:Int} (h:1<=n/\n<=3):(0:Int)<=IntKind.u64.wrap n/\w64 (CW .i64 1 (IntKind.u64.wrap n) - 1)=2^n.toNat - 1:=by
 have:n=1\/n=2\/n=3:=by omega
 rcases this with rfl|rfl|rfl<;>decide
theorem apZ [Fuel] {n:Int} (h:1<=n/\n<=3):(2:Int)<=2^n.toNat/\(2:Int)^n.toNat<=8:=by
 have:n=1\/n=2\/n=3:=by omega
 rcases this with rfl|rfl|rfl<;>decide
theorem atj [Fuel] {x4:Int} {x5 x6 x7:Int×aP} {zs:List dn} {cs:List bZ} (hp:Pre x4 x5 x6 x7 zs)
  (hcl:1<=cs.length/\cs.length<=7) (hc:∀x∈cs,ZC zs.length x):
  ∀(m:Nat) (T:aP) (ts:List aW) (i b:Int),TB T b->b+10*i<=30000->0<=i->(ts.length:Int)+i<=5->(∀x∈ts,VT x4 x)->i.toNat<m→
   Ok (rY m T {bK:=x4,kT:=zs,Cells:=cs,ah:=ts,bf:= [],bO:= [],cB:= [],Bu:=x5.1,Lease:=x6.1,UL:=x7.1} i) VC
 |0,_,_,_,_,_,_,_,_,_,hm=>absurd hm (Nat.not_lt_zero _)
 | m+1,T,ts,i,b,hT,hb,hi,ht1,ht,hm=>by
  rw [rY];dsimp only [List.length_cons,List.length_nil]
  have aa4:=hp.reg
  obtain⟨s1,s2⟩:=am3 aa4
  have hpw:=apZ aa4
  refine Ok.cond (λh=> ?_) (λh=> ?_)
  ·have h:=of_decide_eq_true h
   refine Ok.bind (Ot hT (by omega) (by omega) (by omega) (by omega)) (λr1 q1=> ?_)
   rw [bA (x:=r1.1+1) (by omega) (by omega)]
   refine Ok.bind (yx q1.2.2 (by omega) (by omega) (by omega)) (λr2 q2=> ?_)
   refine Ok.bind (yx q2.2.2 (by omega) (by omega) (by omega)) (λr3 q3=> ?_)
   refine Ok.bind (Ot q3.2.2 (by omega) (by omega) (by omega) (by omega)) (λr4 q4=>Ok.chk (dT s1) ?_)
   refine Ok.bind (yx q4.2.2 (by omega) (by omega) (by omega)) (λr5 q5=> ?_)
   refine Ok.bind (ai1 q5.2.2 (by omega) (by omega) (by omega)) (λr6 q6=> ?_)
   refine Ok.bind (ai1 q6 (by omega) (by omega) (by omega)) (λr7 q7=> ?_)
   have fin:∀(al:Int) (T':aP) (b':Int),1<=al->al<2^x4.toNat->TB T' b'->b'<=b+8->Ok (Ao (rY m) {bK:=x4,kT:=zs,Cells:=cs,ah:=ts,bf:= [],bO:= [],cB:= [],Bu:=x5.1,Lease:=x6.1,UL:=x7.1} i T' {Load:=r1.1,pJ:=r2.1,Priority:=r3.1,Lag:=r4.1,Allowed:=al,sH:=r5.1,Lp:=r6.1}) VC:=by
    intro al T' b' h1 h2 h3 h4
    unfold Ao;dsimp only [List.length_cons,List.length_nil]
    refine Ok.chk (dT (by show _<=140737488355328;omega)) ?_
    rw [bA (by omega) (by omega)]
    exact atj hp hcl hc m _ _ _ b' h3 (by omega) (by omega) (by simp;omega) (Sw ht ⟨⟨q1.1,by show r1.1<=65536;omega⟩,⟨q2.1,by show r2.1<=r1.1;omega⟩,⟨q3.1,by show r3.1<=9;omega⟩,⟨q4.1,by show r4.1<=1000;omega⟩,⟨h1,h2⟩,⟨q5.1,by show r5.1<=32;omega⟩⟩) (by omega)
   refine Ok.cond (λ_=>Ok.chk (dT s1) ?_) (λ_=> ?_)
   ·rw [s2]
    refine Ok.bind (Ot q7 (by omega) (by omega) (by omega) (by omega)) (λr8 q8=> ?_)
    exact fin _ _ _ q8.1 (by omega) q8.2.2 (by omega)
   ·rw [s2]
    exact fin _ _ _ (by omega) (by omega) q7 (by omega)
  ·have h:=of_decide_eq_false h
   refine Ok.bind (yx hT (by omega) (by omega) (by omega)) (λr hr=>Ok.bind (yx hr.2.2 (by omega) (by omega) (by omega)) (λq hq=> ?_))
   exact ati hp hcl hc (by omega) ht fuel _ _ _ (b+1+1) hq.2.2 (by omega) (by omega) (by simp) (by simp;omega)
    (by intro x hx;rw [List.mem_singleton.1 hx];exact⟨Int.le_refl 0,hr.1,by show r.1<=30;omega⟩) rfl (by rw [lX];omega)
theorem atl [Fuel] {x4:Int} {x5 x6 x7:Int×aP} {zs:List dn} (hp:Pre x4 x5 x6 x7 zs):
  ∀(m:Nat) (T:aP) (cs:List bZ) (i b:Int),TB T b->b+2*(7 - i)<=20000->0<=i->i<=7->(cs.length:Int)=i->(∀x∈cs,ZC zs.length x)->(7 - i).toNat<m→
   Ok (Au m T {bK:=x4,kT:=zs,Cells:=cs,ah:= [],bf:= [],bO:= [],cB:= [],Bu:=x5.1,Lease:=x6.1,UL:=x7.1} i) VC
 |0,_,_,_,_,_,_,_,_,_,_,hm=>absurd hm (Nat.not_lt_zero _)
 | m+1,T,cs,i,b,hT,hb,hi,hi7,hcl,hc,hm=>by
  rw [Au];dsimp only [List.length_cons,List.length_nil]
  have hzl:=hp.zl
  have step:Ok (bif(!(decide (i<((zs.length:Nat):Int))))then dV T 2 else some (default,T)) (λr=>TB r.2 (b+1)):=
   Ok.cond (λ_=>ai1 hT (by omega) (by omega) (by omega)) (λ_=>Ok.some (hT.up (by omega)))
  refine Ok.bind step (λr1 q1=> ?_)
  refine Ok.cond (λh=> ?_) (λh=> ?_)
  ·have hlt:i<7:=by
    simp only [Bool.or_eq_true,Bool.and_eq_true,decide_eq_true_eq]at h
    omega
   have hz:((zs.length:Nat):Int)≠0:=by omega
   refine Ok.chk (dT hz) (Ok.bind (Ot q1 (by omega) (by omega) (by omega) (by omega)) (λr2 q2=>Ok.chk (dT (by show _<=140737488355328;omega)) ?_))
   rw [bA (x:=r2.1*10) (by omega) (by omega),bA (x:=i+1) (by omega) (by omega)]
   exact atl hp m _ _ _ (b+1+1) q2.2.2 (by omega) (by omega) (by omega) (by simp;omega)
    (Sw hc ⟨Int.tmod_nonneg _ (by omega),Int.tmod_lt_of_pos _ (by omega),by show 1<=r2.1*10;omega,by show r2.1*10<=4194304;omega⟩) (by omega)
  ·have hge:((zs.length:Nat):Int)<=i:=by
    simp only [Bool.or_eq_false_iff,decide_eq_false_iff_not]at h
    omega
   refine Ok.bind (yx q1 (by omega) (by omega) (by omega)) (λr2 q2=> ?_)
   exact atj hp ⟨by omega,by omega⟩ hc fuel _ _ _ (b+1+1) q2.2.2 (by omega) (by omega) (by simp;omega) (by simp) (by rw [lX];omega)
theorem atm [Fuel] {x4:Int} {x5 x6 x7:Int×aP} (aa4:1<=x4/\x4<=3) (h5:1<=x5.1/\x5.1<=3) (h6:2<=x6.1/\x6.1<=12) (h7:0<=x7.1/\x7.1<=8):
  ∀(m:Nat) (T:aP) (zs:List dn) (i b:Int),TB T b->b+(6 - i)<=10000->0<=i->i<=6->(zs.length:Int)=i->(∀x∈zs,0<=x.Region/\x.Region<x4)->(6 - i).toNat<m→
   Ok (Av m T {bK:=x4,kT:=zs,Cells:= [],ah:= [],bf:= [],bO:= [],cB:= [],Bu:=x5.1,Lease:=x6.1,UL:=x7.1} i) VC
 |0,_,_,_,_,_,_,_,_,_,_,hm=>absurd hm (Nat.not_lt_zero _)
 | m+1,T,zs,i,b,hT,hb,hi,hi6,hzl,hz,hm=>by
  rw [Av];dsimp only [List.length_cons,List.length_nil]
  have step:Ok (bif(!(decide (i<x4)))then dV T 3 else some (default,T)) (λr=>TB r.2 (b+1)):=
   Ok.cond (λ_=>ai1 hT (by omega) (by omega) (by omega)) (λ_=>Ok.some (hT.up (by omega)))
  refine Ok.bind step (λr1 q1=> ?_)
  refine Ok.cond (λh=> ?_) (λh=> ?_)
  ·have hlt:i<6:=by
    simp only [Bool.or_eq_true,Bool.and_eq_true,decide_eq_true_eq]at h
    omega
   have h4:x4≠0:=by omega
   refine Ok.chk (dT h4) (Ok.chk (dT (by show _<=140737488355328;omega)) ?_)
   rw [bA (x:=i+1) (by omega) (by omega)]
   exact atm aa4 h5 h6 h7 m _ _ _ (b+1) q1 (by omega) (by omega) (by omega) (by simp;omega) (Sw hz ⟨Int.tmod_nonneg _ (by omega),Int.tmod_lt_of_pos _ (by omega)⟩) (by omega)
  ·have hge:x4<=i:=by
    simp only [Bool.or_eq_false_iff,decide_eq_false_iff_not]at h
    omega
   exact atl ⟨aa4,h5,h6,h7,⟨by omega,by omega⟩,hz⟩ fuel _ _ _ (b+1) q1 (by omega) (by omega) (by omega) (by simp) (by simp) (by rw [lX];omega)
def Lst (l:List Int):Prop:=(∀x∈l,I64 x)/\l.length<=200
theorem am4 [Fuel] {l:List Int} (h:Lst l):Ok (N8 l) VC:=by
 unfold N8 Vp;(try simp only [iQ,dZ])
 have hT:TB {L:=l,At:=0} 0:=⟨h.1,h.2,Int.le_refl 0,Int.le_refl 0⟩
 refine Ok.Vu rfl ?_
 refine Ok.bind (yx hT (by omega) (by omega) (by omega)) (λr3 q3=> ?_)
 rw [bA (by omega) (by omega)]
 refine Ok.bind (akG ⟨by omega,by omega⟩ (by omega) (by omega) (by omega)) (λr4 q4=> ?_)
 refine Ok.bind (Ot q3.2.2 (by omega) (by omega) (by omega) (by omega)) (λr5 q5=> ?_)
 refine Ok.bind (Ot q5.2.2 (by omega) (by omega) (by omega) (by omega)) (λr6 q6=> ?_)
 refine Ok.bind (yx q6.2.2 (by omega) (by omega) (by omega)) (λr7 q7=> ?_)
 exact atm q4 ⟨q5.1,q5.2.1⟩ ⟨q6.1,q6.2.1⟩ ⟨q7.1,by omega⟩ fuel _ _ _ _ q7.2.2 (by omega) (by omega) (by omega) (by simp) (by simp) (by rw [lX];omega)
end Go.CP
