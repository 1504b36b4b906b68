/- Models of the program's functions, printed by tx.py. -/
import Derived.Test.YtodbmegkcniehaaGreatP3568a410d
set_option linter.unusedSimpArgs false
set_option linter.unusedVariables false
namespace Go.CP
open Go
def akP:Option ak:=(some (⟨2,[⟨0⟩,⟨1⟩],[⟨0,9⟩,⟨1,9⟩],[⟨5,2,0,0,3,0,false⟩],[⟨0,0⟩],[0],[0],1,20,0⟩:ak))
def dH (p1 p2 p3:Int):Option Bool:=(some ((decide (p2<=p1))&&(decide (p1<=p3))))
def La (p1:ak):Option Bool:=((dH p1.bK 1 4).bind λx1=>(((bif x1 then dH ((p1.kW.length:Nat):Int) 1 8 else some default)).bind λx2=>(((bif(x1&&x2)then dH ((p1.Cells.length:Nat):Int) 1 16 else some default)).bind λx3=>(((bif((x1&&x2)&&x3)then dH ((p1.bf.length:Nat):Int) 1 30 else some default)).bind λx4=>(((bif(((x1&&x2)&&x3)&&x4)then dH ((p1.bO.length:Nat):Int) 1 5 else some default)).bind λx5=>(((bif((((x1&&x2)&&x3)&&x4)&&x5)then dH ((p1.cO.length:Nat):Int) 1 9 else some default)).bind λx6=>(some ((((((x1&&x2)&&x3)&&x4)&&x5)&&x6)&&(decide (((p1.ah.length:Nat):Int)<=32))))))))))
def Av (x1:Int) (x2:List Int) (x3:Int):Nat->Int->Option Bool|0,_=>none|fu1+1,x4=>(bif(decide (x4<x3))then(ixL x2 x4 λx5=>((dH x5 0 x1).bind λx6=>(bif(!x6)then(some false)else(Av x1 x2 x3 fu1) (w64 (x4+1)))))else(some true))
def Aw [Fuel] (p1:ak) (x1:Int) (x7:List Int) (x8:Int):Nat->Int->Option Bool|0,_=>none|fu2+1,x9=>(bif(decide (x9<x8))then(ixL x7 x9 λx10=>((dH x10 0 x1).bind λx11=>(bif(!x11)then(some false)else(Aw p1 x1 x7 x8 fu2) (w64 (x9+1)))))else Av x1 p1.cO ((p1.cO.length:Nat):Int) fuel 0)
def Ay [Fuel] (p1:ak) (x1:Int) (x12:List cu) (x13:Int):Nat->Int->Option Bool|0,_=>none|fu3+1,x14=>(bif(decide (x14<x13))then(ixL x12 x14 λx15=>((dH x15.Zone 0 x1).bind λx16=>(bif(!x16)then(some false)else(Ay p1 x1 x12 x13 fu3) (w64 (x14+1)))))else Aw p1 x1 p1.bO ((p1.bO.length:Nat):Int) fuel 0)
def Az [Fuel] (p1:ak) (x17:List dn) (x18:Int):Nat->Int->Option Bool|0,_=>none|fu4+1,x19=>(bif(decide (x19<x18))then(ixL x17 x19 λx20=>((dH x20.Region 0 (w64 (p1.bK - 1))).bind λx21=>(bif(!x21)then(some false)else(Az p1 x17 x18 fu4) (w64 (x19+1)))))else Ay p1 (w64 (((p1.kW.length:Nat):Int) - 1)) p1.Cells ((p1.Cells.length:Nat):Int) fuel 0)
def NJ [Fuel] (p1:ak):Option Bool:=Az p1 p1.kW ((p1.kW.length:Nat):Int) fuel 0
def AA (p1:ak) (x1:List aY) (x2:Int):Nat->Int->Option Bool|0,_=>none|fu1+1,x3=>(bif(decide (x3<x2))then(ixL x1 x3 λx4=>(bif((((decide (x4.Low<0))||(decide (x4.High<x4.Low)))||(decide (30<x4.High)))||((x3==0)&&(x4.Low !=0)))then(some false)else(AA p1 x1 x2 fu1) (w64 (x3+1))))else((dH p1.BM 1 16).bind λx5=>(((bif x5 then dH p1.Lease 1 1000 else some default)).bind λx6=>(((bif(x5&&x6)then dH p1.Uz 0 10000 else some default)).bind λx7=>(some ((x5&&x6)&&x7))))))
def AB [Fuel] (p1:ak) (x8:List cu) (x9:Int):Nat->Int->Option Bool|0,_=>none|fu2+1,x10=>(bif(decide (x10<x9))then(ixL x8 x10 λx11=>((dH x11.kV 1 4194304).bind λx12=>(bif(!x12)then(some false)else(AB p1 x8 x9 fu2) (w64 (x10+1)))))else AA p1 p1.bf ((p1.bf.length:Nat):Int) fuel 0)
def NK [Fuel] (p1:ak):Option Bool:=AB p1 p1.Cells ((p1.Cells.length:Nat):Int) fuel 0
def RV [Fuel] (p1:ak):Option Int:=((La p1).bind λx1=>(bif(!x1)then(some 2)else(((bif(!((Int.tmod ((p1.bO.length:Nat):Int) 2)==0))then NJ p1 else some default)).bind λx2=>(((bif(!(((Int.tmod ((p1.bO.length:Nat):Int) 2)==0)||(!x2)))then NK p1 else some default)).bind λx3=>(bif((((Int.tmod ((p1.bO.length:Nat):Int) 2)==0)||(!x2))||(!x3))then(some 1)else(some 0))))))
def lD (p1 p2 p3:Int):Option Bool:=(some ((decide (p2<=p1))&&(decide (p1<=p3))))
def Bz (p1:aW) (p2:Int):Option Bool:=((lD p1.Load 1 65536).bind λx1=>(((bif x1 then lD p1.pR 0 p1.Load else some default)).bind λx2=>(((bif(x1&&x2)then lD p1.Priority 0 9 else some default)).bind λx3=>(((bif((x1&&x2)&&x3)then lD p1.Lag (-1) 1000 else some default)).bind λx4=>(chk (!(((x1&&x2)&&x3)&&x4)||decide ((0:Int)<=(IntKind.u64.wrap p2))) (((bif(((x1&&x2)&&x3)&&x4)then lD p1.Allowed 1 (w64 ((Dk .i64 1 (IntKind.u64.wrap p2)) - 1))else some default)).bind λx5=>(((bif((((x1&&x2)&&x3)&&x4)&&x5)then lD p1.sO 0 32 else some default)).bind λx6=>(some (((((x1&&x2)&&x3)&&x4)&&x5)&&x6)))))))))
def sW (p1:ak) (x1:List aW) (x2:Int):Nat->Int->Option Int|0,_=>none|fu1+1,x3=>(bif(decide (x3<x2))then(ixL x1 x3 λx4=>((Bz x4 p1.bK).bind λx5=>(bif(!x5)then(some 1)else(sW p1 x1 x2 fu1) (w64 (x3+1)))))else(some 0))
def uD [Fuel] (p1:ak):Option Int:=((RV p1).bind λx6=>(bif(x6 !=0)then(some x6)else sW p1 p1.ah ((p1.ah.length:Nat):Int) fuel 0))
def ahm:Option aZ:=(some (⟨([]:List Int),0⟩:aZ))
def Zm:Option aJ:=((ahm).bind λx1=>(some (⟨x1,0,(-1),([]:List aG)⟩:aJ)))
def Zn (p1 p2:Int):Option (aj×Int):=(chk (!(!((decide (p2<1))||(decide (5<p2))))||decide (2≠(0:Int))) (bif(((((decide (p2<1))||(decide (5<p2)))||((Int.tmod p2 2)==0))||(decide (p1<0)))||(decide (p2<=p1)))then none else((Zm).bind λx1=>(some ((⟨x1,p1,p2,1,0,0,⟨0,0,0,0,0⟩,⟨0,0,0,0,0⟩⟩:aj),0)))))
def abK (p1:Int):Option (aL×Int):=(bif((decide (0<p1))||(0==0))then((Zn 0 p1).bind λx1=>(bif(x1.2 !=0)then none else(bif((decide (1<p1))||(1==0))then none else(some ((⟨[x1.1],([]:List aC),([]:List aA)⟩:aL),0)))))else none)
def uE (p1:(List dn)):Option (List dn):=(chk (decide ((([]:List dn).length+p1.length)*8<=room)) (some (([]:List dn)++p1)))
def uF (p1:(List cu)):Option (List cu):=(chk (decide ((([]:List cu).length+p1.length)*16<=room)) (some (([]:List cu)++p1)))
def qN (p1:(List aW)):Option (List aW):=(chk (decide ((([]:List aW).length+p1.length)*56<=room)) (some (([]:List aW)++p1)))
def pU (p1:(List aY)):Option (List aY):=(chk (decide ((([]:List aY).length+p1.length)*16<=room)) (some (([]:List aY)++p1)))
def zM (p1:(List Int)):Option (List Int):=(chk (decide ((([]:List Int).length+p1.length)*8<=room)) (some (([]:List Int)++p1)))
def Xt (p1:ak):Option ak:=((uE p1.kW).bind λx1=>((uF p1.Cells).bind λx2=>((qN p1.ah).bind λx3=>((pU p1.bf).bind λx4=>((zM p1.bO).bind λx5=>((zM p1.cO).bind λx6=>(some (⟨p1.bK,x1,x2,x3,x4,x5,x6,p1.BM,p1.Lease,p1.Uz⟩:ak))))))))
def uG (x1:Int):Nat->aB->Int->Option aB|0,_,_=>none|fu1+1,x2,x3=>(bif(decide (x3<x1))then(ixL x2.Cells x3 λx4=>(dZ (x2.Cells.set (Int.toNat x3) {x4 with Mode:=1}) λx5=>(uG x1 fu1) {x2 with Cells:=x5} (w64 (x3+1))))else(some x2))
def uH [Fuel] (x6:Int):Nat->aB->Int->Option aB|0,_,_=>none|fu2+1,x7,x8=>(bif(decide (x8<x6))then(ixL x7.ah x8 λx9=>(dZ (x7.ah.set (Int.toNat x8) (⟨false,false,(-1),(-1),(-1),(-1),0,⟨(-1),0,0,0,0⟩⟩:ay)) λx10=>(uH x6 fu2) {x7 with ah:=x10} (w64 (x8+1))))else uG ((x7.Cells.length:Nat):Int) fuel x7 0)
def Qv [Fuel] (p1:ak):Option aB:=(chk (decide ((0:Int)<=((p1.ah.length:Nat):Int)/\(((p1.ah.length:Nat):Int):Int)<=((p1.ah.length:Nat):Int)/\(((p1.ah.length:Nat):Int):Int)<=9223372036854775807/\(((p1.ah.length:Nat):Int):Int)*88<=140737488355328)) (chk (decide ((0:Int)<=((p1.Cells.length:Nat):Int)/\(((p1.Cells.length:Nat):Int):Int)<=((p1.Cells.length:Nat):Int)/\(((p1.Cells.length:Nat):Int):Int)<=9223372036854775807/\(((p1.Cells.length:Nat):Int):Int)*32<=140737488355328)) (uH (((List.replicate (Int.toNat ((p1.ah.length:Nat):Int)) (default:ay)).length:Nat):Int) fuel (⟨0,0,(List.replicate (Int.toNat ((p1.ah.length:Nat):Int)) (default:ay)),(List.replicate (Int.toNat ((p1.Cells.length:Nat):Int)) (default:aH)),1,0,0,0⟩:aB) 0)))
def aey [Fuel] (p1:ak):Option (aV×Int):=((uD p1).bind λx1=>(bif(x1 !=0)then none else((abK ((p1.bO.length:Nat):Int)).bind λx2=>(bif(x2.2 !=0)then none else((Xt p1).bind λx3=>(chk (decide ((0:Int)<=((x3.bO.length:Nat):Int))) ((Qv x3).bind λx4=>(some ((⟨x3,{x2.1 with au:= [(x2.1.au.getD 0 default)]},(w64 ((Dk .i64 1 ((x3.bO.length:Nat):Int)) - 1)),x4⟩:aV),0)))))))))
def aez:Option dM:=(some (⟨([]:List (Value×Value))⟩:dM))
def aeA:Option aO:=(some (⟨([]:List bP),([]:List bH),0⟩:aO))
def Zo:Option aM:=(some (⟨⟨⟨0,⟨0,0,0,ByteArray.empty⟩⟩,⟨0,⟨0,0,0,ByteArray.empty⟩⟩,⟨0,⟨0,0,0,ByteArray.empty⟩⟩,⟨0,⟨0,0,0,ByteArray.empty⟩⟩,⟨0,⟨0,0,0,ByteArray.empty⟩⟩,⟨0,⟨0,0,0,ByteArray.empty⟩⟩,⟨0,⟨0,0,0,ByteArray.empty⟩⟩,⟨0,⟨0,0,0,ByteArray.empty⟩⟩⟩⟩:aM))
def aeB:Option oL:=((aez).bind λx1=>((aeA).bind λx2=>((Zo).bind λx3=>(some (⟨x1,x2,x3⟩:oL)))))
def ahn (p1:Int):Option bU:=(some (⟨p1,0,([]:List aT)⟩:bU))
def acI (p1 p2:Int):Option dN:=((aeB).bind λx1=>((ahn p1).bind λx2=>(some (⟨p1,p2,([]:List aU),x1,x2⟩:dN))))
def LX (p1:dN):Option (Unit×dN):=(some ((),p1))
def oH (p1:dN):Option Unit:=(some ())
theorem Wz [Fuel] (p1:dN):LX p1=(oH p1).bind λx=>some (x,p1):=by
  simp only [LX,oH,d9,bV,eu,eB,eD,bW,bX,bY]
def cZ (p1:(List ay)):Option (List ay):=(chk (decide ((([]:List ay).length+p1.length)*88<=room)) (some (([]:List ay)++p1)))
def dG (p1:(List aH)):Option (List aH):=(chk (decide ((([]:List aH).length+p1.length)*32<=room)) (some (([]:List aH)++p1)))
def Fv (p1:aV):Option (aB×aV):=((cZ p1.state.ah).bind λx1=>((dG p1.state.Cells).bind λx2=>(some ({p1.state with ah:=x1,Cells:=x2},{p1 with net:={p1.net with au:= [(p1.net.au.getD 0 default)]}}))))
def uP (p1:aV):Option aB:=((cZ p1.state.ah).bind λx1=>((dG p1.state.Cells).bind λx2=>(some {p1.state with ah:=x1,Cells:=x2})))
theorem Sy [Fuel] (p1:aV):Fv p1=(uP p1).bind λx=>some (x,{p1 with net:={p1.net with au:= [(p1.net.au.getD 0 default)]}}):=by
  simp only [Fv,uP,d9,bV,eu,eB,eD,bW,bX,bY]
def aeC [Fuel] (p1:ak):Option xW:=((aey p1).bind λx1=>(bif(false||(x1.2 !=0))then none else(bif(decide (0<((p1.ah.length:Nat):Int)))then(bif(decide (0<((p1.Cells.length:Nat):Int)))then((acI 0 0).bind λx2=>(((bif(!false)then oH x2 else some default)).bind λx3=>(bif(false&&true)then none else(bif(decide (1<((p1.Cells.length:Nat):Int)))then((acI 1 0).bind λx4=>(((bif(!false)then oH x4 else some default)).bind λx5=>(bif(false&&true)then none else(bif(decide (2<((p1.Cells.length:Nat):Int)))then none else(bif(decide (1<((p1.ah.length:Nat):Int)))then none else((uP {x1.1 with net:={x1.1.net with au:= [(x1.1.net.au.getD 0 default)]}}).bind λx6=>(bif((((x6.ah.length:Nat):Int) !=((p1.ah.length:Nat):Int))||(((x6.Cells.length:Nat):Int) !=((p1.Cells.length:Nat):Int)))then none else(some (⟨p1,{x1.1 with net:={x1.1.net with au:= [(x1.1.net.au.getD 0 default)]}},[[x2,x4]],([]:List bE),([]:List mq),0⟩:xW)))))))))else none))))else none)else none)))
def Qw (p1:Int):Option Int:=(chk (decide (0<=(oK .u32 p1 24)/\(oK .u32 p1 24)<(((ByteArray.mk #[0,1,1,2,1,2,2,3,1,2,2,3,2,3,3,4,1,2,2,3,2,3,3,4,2,3,3,4,3,4,4,5,1,2,2,3,2,3,3,4,2,3,3,4,3,4,4,5,2,3,3,4,3,4,4,5,3,4,4,5,4,5,5,6,1,2,2,3,2,3,3,4,2,3,3,4,3,4,4,5,2,3,3,4,3,4,4,5,3,4,4,5,4,5,5,6,2,3,3,4,3,4,4,5,3,4,4,5,4,5,5,6,3,4,4,5,4,5,5,6,4,5,5,6,5,6,6,7,1,2,2,3,2,3,3,4,2,3,3,4,3,4,4,5,2,3,3,4,3,4,4,5,3,4,4,5,4,5,5,6,2,3,3,4,3,4,4,5,3,4,4,5,4,5,5,6,3,4,4,5,4,5,5,6,4,5,5,6,5,6,6,7,2,3,3,4,3,4,4,5,3,4,4,5,4,5,5,6,3,4,4,5,4,5,5,6,4,5,5,6,5,6,6,7,3,4,4,5,4,5,5,6,4,5,5,6,5,6,6,7,4,5,5,6,5,6,6,7,5,6,6,7,6,7,7,8]).size:Nat):Int))) (chk (decide (0<=(jN .u32 (oK .u32 p1 16) 255)/\(jN .u32 (oK .u32 p1 16) 255)<(((ByteArray.mk #[0,1,1,2,1,2,2,3,1,2,2,3,2,3,3,4,1,2,2,3,2,3,3,4,2,3,3,4,3,4,4,5,1,2,2,3,2,3,3,4,2,3,3,4,3,4,4,5,2,3,3,4,3,4,4,5,3,4,4,5,4,5,5,6,1,2,2,3,2,3,3,4,2,3,3,4,3,4,4,5,2,3,3,4,3,4,4,5,3,4,4,5,4,5,5,6,2,3,3,4,3,4,4,5,3,4,4,5,4,5,5,6,3,4,4,5,4,5,5,6,4,5,5,6,5,6,6,7,1,2,2,3,2,3,3,4,2,3,3,4,3,4,4,5,2,3,3,4,3,4,4,5,3,4,4,5,4,5,5,6,2,3,3,4,3,4,4,5,3,4,4,5,4,5,5,6,3,4,4,5,4,5,5,6,4,5,5,6,5,6,6,7,2,3,3,4,3,4,4,5,3,4,4,5,4,5,5,6,3,4,4,5,4,5,5,6,4,5,5,6,5,6,6,7,3,4,4,5,4,5,5,6,4,5,5,6,5,6,6,7,4,5,5,6,5,6,6,7,5,6,6,7,6,7,7,8]).size:Nat):Int))) (chk (decide (0<=(jN .u32 (oK .u32 p1 8) 255)/\(jN .u32 (oK .u32 p1 8) 255)<(((ByteArray.mk #[0,1,1,2,1,2,2,3,1,2,2,3,2,3,3,4,1,2,2,3,2,3,3,4,2,3,3,4,3,4,4,5,1,2,2,3,2,3,3,4,2,3,3,4,3,4,4,5,2,3,3,4,3,4,4,5,3,4,4,5,4,5,5,6,1,2,2,3,2,3,3,4,2,3,3,4,3,4,4,5,2,3,3,4,3,4,4,5,3,4,4,5,4,5,5,6,2,3,3,4,3,4,4,5,3,4,4,5,4,5,5,6,3,4,4,5,4,5,5,6,4,5,5,6,5,6,6,7,1,2,2,3,2,3,3,4,2,3,3,4,3,4,4,5,2,3,3,4,3,4,4,5,3,4,4,5,4,5,5,6,2,3,3,4,3,4,4,5,3,4,4,5,4,5,5,6,3,4,4,5,4,5,5,6,4,5,5,6,5,6,6,7,2,3,3,4,3,4,4,5,3,4,4,5,4,5,5,6,3,4,4,5,4,5,5,6,4,5,5,6,5,6,6,7,3,4,4,5,4,5,5,6,4,5,5,6,5,6,6,7,4,5,5,6,5,6,6,7,5,6,6,7,6,7,7,8]).size:Nat):Int))) (chk (decide (0<=(jN .u32 p1 255)/\(jN .u32 p1 255)<(((ByteArray.mk #[0,1,1,2,1,2,2,3,1,2,2,3,2,3,3,4,1,2,2,3,2,3,3,4,2,3,3,4,3,4,4,5,1,2,2,3,2,3,3,4,2,3,3,4,3,4,4,5,2,3,3,4,3,4,4,5,3,4,4,5,4,5,5,6,1,2,2,3,2,3,3,4,2,3,3,4,3,4,4,5,2,3,3,4,3,4,4,5,3,4,4,5,4,5,5,6,2,3,3,4,3,4,4,5,3,4,4,5,4,5,5,6,3,4,4,5,4,5,5,6,4,5,5,6,5,6,6,7,1,2,2,3,2,3,3,4,2,3,3,4,3,4,4,5,2,3,3,4,3,4,4,5,3,4,4,5,4,5,5,6,2,3,3,4,3,4,4,5,3,4,4,5,4,5,5,6,3,4,4,5,4,5,5,6,4,5,5,6,5,6,6,7,2,3,3,4,3,4,4,5,3,4,4,5,4,5,5,6,3,4,4,5,4,5,5,6,4,5,5,6,5,6,6,7,3,4,4,5,4,5,5,6,4,5,5,6,5,6,6,7,4,5,5,6,5,6,6,7,5,6,6,7,6,7,7,8]).size:Nat):Int))) (some (IntKind.i64.wrap (IntKind.u8.wrap ((IntKind.u8.wrap ((IntKind.u8.wrap ((adr (ByteArray.mk #[0,1,1,2,1,2,2,3,1,2,2,3,2,3,3,4,1,2,2,3,2,3,3,4,2,3,3,4,3,4,4,5,1,2,2,3,2,3,3,4,2,3,3,4,3,4,4,5,2,3,3,4,3,4,4,5,3,4,4,5,4,5,5,6,1,2,2,3,2,3,3,4,2,3,3,4,3,4,4,5,2,3,3,4,3,4,4,5,3,4,4,5,4,5,5,6,2,3,3,4,3,4,4,5,3,4,4,5,4,5,5,6,3,4,4,5,4,5,5,6,4,5,5,6,5,6,6,7,1,2,2,3,2,3,3,4,2,3,3,4,3,4,4,5,2,3,3,4,3,4,4,5,3,4,4,5,4,5,5,6,2,3,3,4,3,4,4,5,3,4,4,5,4,5,5,6,3,4,4,5,4,5,5,6,4,5,5,6,5,6,6,7,2,3,3,4,3,4,4,5,3,4,4,5,4,5,5,6,3,4,4,5,4,5,5,6,4,5,5,6,5,6,6,7,3,4,4,5,4,5,5,6,4,5,5,6,5,6,6,7,4,5,5,6,5,6,6,7,5,6,6,7,6,7,7,8]) (oK .u32 p1 24))+(adr (ByteArray.mk #[0,1,1,2,1,2,2,3,1,2,2,3,2,3,3,4,1,2,2,3,2,3,3,4,2,3,3,4,3,4,4,5,1,2,2,3,2,3,3,4,2,3,3,4,3,4,4,5,2,3,3,4,3,4,4,5,3,4,4,5,4,5,5,6,1,2,2,3,2,3,3,4,2,3,3,4,3,4,4,5,2,3,3,4,3,4,4,5,3,4,4,5,4,5,5,6,2,3,3,4,3,4,4,5,3,4,4,5,4,5,5,6,3,4,4,5,4,5,5,6,4,5,5,6,5,6,6,7,1,2,2,3,2,3,3,4,2,3,3,4,3,4,4,5,2,3,3,4,3,4,4,5,3,4,4,5,4,5,5,6,2,3,3,4,3,4,4,5,3,4,4,5,4,5,5,6,3,4,4,5,4,5,5,6,4,5,5,6,5,6,6,7,2,3,3,4,3,4,4,5,3,4,4,5,4,5,5,6,3,4,4,5,4,5,5,6,4,5,5,6,5,6,6,7,3,4,4,5,4,5,5,6,4,5,5,6,5,6,6,7,4,5,5,6,5,6,6,7,5,6,6,7,6,7,7,8]) (jN .u32 (oK .u32 p1 16) 255))))+(adr (ByteArray.mk #[0,1,1,2,1,2,2,3,1,2,2,3,2,3,3,4,1,2,2,3,2,3,3,4,2,3,3,4,3,4,4,5,1,2,2,3,2,3,3,4,2,3,3,4,3,4,4,5,2,3,3,4,3,4,4,5,3,4,4,5,4,5,5,6,1,2,2,3,2,3,3,4,2,3,3,4,3,4,4,5,2,3,3,4,3,4,4,5,3,4,4,5,4,5,5,6,2,3,3,4,3,4,4,5,3,4,4,5,4,5,5,6,3,4,4,5,4,5,5,6,4,5,5,6,5,6,6,7,1,2,2,3,2,3,3,4,2,3,3,4,3,4,4,5,2,3,3,4,3,4,4,5,3,4,4,5,4,5,5,6,2,3,3,4,3,4,4,5,3,4,4,5,4,5,5,6,3,4,4,5,4,5,5,6,4,5,5,6,5,6,6,7,2,3,3,4,3,4,4,5,3,4,4,5,4,5,5,6,3,4,4,5,4,5,5,6,4,5,5,6,5,6,6,7,3,4,4,5,4,5,5,6,4,5,5,6,5,6,6,7,4,5,5,6,5,6,6,7,5,6,6,7,6,7,7,8]) (jN .u32 (oK .u32 p1 8) 255))))+(adr (ByteArray.mk #[0,1,1,2,1,2,2,3,1,2,2,3,2,3,3,4,1,2,2,3,2,3,3,4,2,3,3,4,3,4,4,5,1,2,2,3,2,3,3,4,2,3,3,4,3,4,4,5,2,3,3,4,3,4,4,5,3,4,4,5,4,5,5,6,1,2,2,3,2,3,3,4,2,3,3,4,3,4,4,5,2,3,3,4,3,4,4,5,3,4,4,5,4,5,5,6,2,3,3,4,3,4,4,5,3,4,4,5,4,5,5,6,3,4,4,5,4,5,5,6,4,5,5,6,5,6,6,7,1,2,2,3,2,3,3,4,2,3,3,4,3,4,4,5,2,3,3,4,3,4,4,5,3,4,4,5,4,5,5,6,2,3,3,4,3,4,4,5,3,4,4,5,4,5,5,6,3,4,4,5,4,5,5,6,4,5,5,6,5,6,6,7,2,3,3,4,3,4,4,5,3,4,4,5,4,5,5,6,3,4,4,5,4,5,5,6,4,5,5,6,5,6,6,7,3,4,4,5,4,5,5,6,4,5,5,6,5,6,6,7,4,5,5,6,5,6,6,7,5,6,6,7,6,7,7,8]) (jN .u32 p1 255))))))))))
def G9 (p1:Int):Option Int:=(some (jN .i64 (IntKind.i64.wrap (IntKind.u64.wrap ((IntKind.u64.wrap ((IntKind.u64.wrap ((jN .u64 (IntKind.u64.wrap ((oK .u64 (IntKind.u64.wrap ((jN .u64 (oK .u64 (IntKind.u64.wrap ((jN .u64 (oK .u64 p1 1) 6148914691236517205)+(jN .u64 p1 6148914691236517205))) 2) 3689348814741910323)+(jN .u64 (IntKind.u64.wrap ((jN .u64 (oK .u64 p1 1) 6148914691236517205)+(jN .u64 p1 6148914691236517205))) 3689348814741910323))) 4)+(IntKind.u64.wrap ((jN .u64 (oK .u64 (IntKind.u64.wrap ((jN .u64 (oK .u64 p1 1) 6148914691236517205)+(jN .u64 p1 6148914691236517205))) 2) 3689348814741910323)+(jN .u64 (IntKind.u64.wrap ((jN .u64 (oK .u64 p1 1) 6148914691236517205)+(jN .u64 p1 6148914691236517205))) 3689348814741910323))))) 1085102592571150095)+(oK .u64 (jN .u64 (IntKind.u64.wrap ((oK .u64 (IntKind.u64.wrap ((jN .u64 (oK .u64 (IntKind.u64.wrap ((jN .u64 (oK .u64 p1 1) 6148914691236517205)+(jN .u64 p1 6148914691236517205))) 2) 3689348814741910323)+(jN .u64 (IntKind.u64.wrap ((jN .u64 (oK .u64 p1 1) 6148914691236517205)+(jN .u64 p1 6148914691236517205))) 3689348814741910323))) 4)+(IntKind.u64.wrap ((jN .u64 (oK .u64 (IntKind.u64.wrap ((jN .u64 (oK .u64 p1 1) 6148914691236517205)+(jN .u64 p1 6148914691236517205))) 2) 3689348814741910323)+(jN .u64 (IntKind.u64.wrap ((jN .u64 (oK .u64 p1 1) 6148914691236517205)+(jN .u64 p1 6148914691236517205))) 3689348814741910323))))) 1085102592571150095) 8)))+(oK .u64 (IntKind.u64.wrap ((jN .u64 (IntKind.u64.wrap ((oK .u64 (IntKind.u64.wrap ((jN .u64 (oK .u64 (IntKind.u64.wrap ((jN .u64 (oK .u64 p1 1) 6148914691236517205)+(jN .u64 p1 6148914691236517205))) 2) 3689348814741910323)+(jN .u64 (IntKind.u64.wrap ((jN .u64 (oK .u64 p1 1) 6148914691236517205)+(jN .u64 p1 6148914691236517205))) 3689348814741910323))) 4)+(IntKind.u64.wrap ((jN .u64 (oK .u64 (IntKind.u64.wrap ((jN .u64 (oK .u64 p1 1) 6148914691236517205)+(jN .u64 p1 6148914691236517205))) 2) 3689348814741910323)+(jN .u64 (IntKind.u64.wrap ((jN .u64 (oK .u64 p1 1) 6148914691236517205)+(jN .u64 p1 6148914691236517205))) 3689348814741910323))))) 1085102592571150095)+(oK .u64 (jN .u64 (IntKind.u64.wrap ((oK .u64 (IntKind.u64.wrap ((jN .u64 (oK .u64 (IntKind.u64.wrap ((jN .u64 (oK .u64 p1 1) 6148914691236517205)+(jN .u64 p1 6148914691236517205))) 2) 3689348814741910323)+(jN .u64 (IntKind.u64.wrap ((jN .u64 (oK .u64 p1 1) 6148914691236517205)+(jN .u64 p1 6148914691236517205))) 3689348814741910323))) 4)+(IntKind.u64.wrap ((jN .u64 (oK .u64 (IntKind.u64.wrap ((jN .u64 (oK .u64 p1 1) 6148914691236517205)+(jN .u64 p1 6148914691236517205))) 2) 3689348814741910323)+(jN .u64 (IntKind.u64.wrap ((jN .u64 (oK .u64 p1 1) 6148914691236517205)+(jN .u64 p1 6148914691236517205))) 3689348814741910323))))) 1085102592571150095) 8))) 16)))+(oK .u64 (IntKind.u64.wrap ((IntKind.u64.wrap ((jN .u64 (IntKind.u64.wrap ((oK .u64 (IntKind.u64.wrap ((jN .u64 (oK .u64 (IntKind.u64.wrap ((jN .u64 (oK .u64 p1 1) 6148914691236517205)+(jN .u64 p1 6148914691236517205))) 2) 3689348814741910323)+(jN .u64 (IntKind.u64.wrap ((jN .u64 (oK .u64 p1 1) 6148914691236517205)+(jN .u64 p1 6148914691236517205))) 3689348814741910323))) 4)+(IntKind.u64.wrap ((jN .u64 (oK .u64 (IntKind.u64.wrap ((jN .u64 (oK .u64 p1 1) 6148914691236517205)+(jN .u64 p1 6148914691236517205))) 2) 3689348814741910323)+(jN .u64 (IntKind.u64.wrap ((jN .u64 (oK .u64 p1 1) 6148914691236517205)+(jN .u64 p1 6148914691236517205))) 3689348814741910323))))) 1085102592571150095)+(oK .u64 (jN .u64 (IntKind.u64.wrap ((oK .u64 (IntKind.u64.wrap ((jN .u64 (oK .u64 (IntKind.u64.wrap ((jN .u64 (oK .u64 p1 1) 6148914691236517205)+(jN .u64 p1 6148914691236517205))) 2) 3689348814741910323)+(jN .u64 (IntKind.u64.wrap ((jN .u64 (oK .u64 p1 1) 6148914691236517205)+(jN .u64 p1 6148914691236517205))) 3689348814741910323))) 4)+(IntKind.u64.wrap ((jN .u64 (oK .u64 (IntKind.u64.wrap ((jN .u64 (oK .u64 p1 1) 6148914691236517205)+(jN .u64 p1 6148914691236517205))) 2) 3689348814741910323)+(jN .u64 (IntKind.u64.wrap ((jN .u64 (oK .u64 p1 1) 6148914691236517205)+(jN .u64 p1 6148914691236517205))) 3689348814741910323))))) 1085102592571150095) 8)))+(oK .u64 (IntKind.u64.wrap ((jN .u64 (IntKind.u64.wrap ((oK .u64 (IntKind.u64.wrap ((jN .u64 (oK .u64 (IntKind.u64.wrap ((jN .u64 (oK .u64 p1 1) 6148914691236517205)+(jN .u64 p1 6148914691236517205))) 2) 3689348814741910323)+(jN .u64 (IntKind.u64.wrap ((jN .u64 (oK .u64 p1 1) 6148914691236517205)+(jN .u64 p1 6148914691236517205))) 3689348814741910323))) 4)+(IntKind.u64.wrap ((jN .u64 (oK .u64 (IntKind.u64.wrap ((jN .u64 (oK .u64 p1 1) 6148914691236517205)+(jN .u64 p1 6148914691236517205))) 2) 3689348814741910323)+(jN .u64 (IntKind.u64.wrap ((jN .u64 (oK .u64 p1 1) 6148914691236517205)+(jN .u64 p1 6148914691236517205))) 3689348814741910323))))) 1085102592571150095)+(oK .u64 (jN .u64 (IntKind.u64.wrap ((oK .u64 (IntKind.u64.wrap ((jN .u64 (oK .u64 (IntKind.u64.wrap ((jN .u64 (oK .u64 p1 1) 6148914691236517205)+(jN .u64 p1 6148914691236517205))) 2) 3689348814741910323)+(jN .u64 (IntKind.u64.wrap ((jN .u64 (oK .u64 p1 1) 6148914691236517205)+(jN .u64 p1 6148914691236517205))) 3689348814741910323))) 4)+(IntKind.u64.wrap ((jN .u64 (oK .u64 (IntKind.u64.wrap ((jN .u64 (oK .u64 p1 1) 6148914691236517205)+(jN .u64 p1 6148914691236517205))) 2) 3689348814741910323)+(jN .u64 (IntKind.u64.wrap ((jN .u64 (oK .u64 p1 1) 6148914691236517205)+(jN .u64 p1 6148914691236517205))) 3689348814741910323))))) 1085102592571150095) 8))) 16))) 32)))) 127))
def uQ (p1:Int):Option Int:=((G9 p1).bind λx1=>(some x1))
def Fw (p1:aV):Option (Bool×aV):=((uQ (IntKind.u64.wrap p1.up)).bind λx1=>(some ((decide (((p1.config.bO.length:Nat):Int)<(w64 (2*x1)))),{p1 with net:={p1.net with au:= [(p1.net.au.getD 0 default)]}})))
def uR (p1:aV):Option Bool:=((uQ (IntKind.u64.wrap p1.up)).bind λx1=>(some (decide (((p1.config.bO.length:Nat):Int)<(w64 (2*x1))))))
theorem Sz [Fuel] (p1:aV):Fw p1=(uR p1).bind λx=>some (x,{p1 with net:={p1.net with au:= [(p1.net.au.getD 0 default)]}}):=by
  simp only [Fw,uR,d9,bV,eu,eB,eD,bW,bX,bY]
def BN (p1:Int):Option dD:=(some (⟨0,(w64 (p1 - 1))⟩:dD))
def fJ (x1:dR):Option (dR×Bool):=(some (x1,true))
def xY (p1:Int) (x2:dD) (x3:dR) (x4:Bool):Option (dR×Bool):=(bif x4 then fJ x3 else(bif(p1==16)then fJ {x3 with n:=x2}else(some ((⟨⟨0,0⟩,⟨0,0⟩,⟨0,0⟩,⟨0,0⟩,⟨0,0⟩,⟨0,0⟩⟩:dR),false))))
def xZ (p1:Int) (p2:fG) (x5 x6 x7 x2:dD) (x3:dR) (x8:Bool):Option (dR×Bool):=(bif x8 then fJ {x3 with cell:=x5,n:=x6}else(bif(p1==12)then fJ {x3 with n:=x6}else(bif(p1==13)then((BN p2.regions).bind λx9=>fJ {x3 with other:=x9,n:=x7})else(bif(p1==14)then xY p1 x2 x3 (p1==14)else xY p1 x2 x3 (p1==15)))))
def yc (p1:Int) (p2:fG) (x10 x5 x6 x7 x2:dD) (x3:dR) (x11:Bool):Option (dR×Bool):=(bif x11 then fJ {x3 with xC:=x10,cell:=x5}else(bif(p1==7)then fJ {x3 with xC:=x10}else(bif(p1==8)then fJ {x3 with xC:=x10,n:=x7}else(bif(p1==9)then fJ {x3 with cell:=x5,n:=(⟨1,3⟩:dD)}else(bif(p1==10)then xZ p1 p2 x5 x6 x7 x2 x3 (p1==10)else xZ p1 p2 x5 x6 x7 x2 x3 (p1==11))))))
def Lb (p1:Int) (p2:fG):Option (dR×Bool):=((BN p2.tenants).bind λx10=>((BN p2.cells).bind λx5=>((BN p2.versions).bind λx6=>(bif(p1==1)then fJ (⟨x10,x5,⟨(-1),(w64 (p2.cells - 1))⟩,⟨0,0⟩,⟨0,0⟩,⟨0,0⟩⟩:dR)else(bif(p1==2)then fJ (⟨x10,x5,⟨(-1),(-1)⟩,⟨1,1048576⟩,⟨0,1073741824⟩,x6⟩:dR)else(bif(p1==3)then fJ (⟨x10,⟨(-1),(-1)⟩,⟨(-1),(-1)⟩,⟨1,1048576⟩,⟨0,0⟩,⟨0,0⟩⟩:dR)else(bif(p1==4)then fJ (⟨x10,⟨(-1),(w64 (p2.cells - 1))⟩,⟨(-1),(-1)⟩,⟨0,0⟩,⟨0,0⟩,⟨0,0⟩⟩:dR)else(bif(p1==5)then yc p1 p2 x10 x5 x6 (⟨0,1⟩:dD) (⟨0,1073741824⟩:dD) (⟨⟨(-1),(-1)⟩,⟨(-1),(-1)⟩,⟨(-1),(-1)⟩,⟨0,0⟩,⟨0,0⟩,⟨0,0⟩⟩:dR) (p1==5)else yc p1 p2 x10 x5 x6 (⟨0,1⟩:dD) (⟨0,1073741824⟩:dD) (⟨⟨(-1),(-1)⟩,⟨(-1),(-1)⟩,⟨(-1),(-1)⟩,⟨0,0⟩,⟨0,0⟩,⟨0,0⟩⟩:dR) (p1==6)))))))))
def lC (p1:dD) (p2:Int):Option Bool:=(some ((decide (p1.low<=p2))&&(decide (p2<=p1.high))))
def JB (p1:aA) (p2:fG):Option Bool:=((Lb p1.Kind p2).bind λx1=>(bif((!x1.2)||((p1.Kind==1)&&(p1.Other==p1.Cell)))then(some false)else(((bif((decide (0<=p1.Tick))&&(decide (p1.Tick<=1073741824)))then lC x1.1.xC p1.aD else some default)).bind λx2=>(((bif(((decide (0<=p1.Tick))&&(decide (p1.Tick<=1073741824)))&&x2)then lC x1.1.cell p1.Cell else some default)).bind λx3=>(((bif((((decide (0<=p1.Tick))&&(decide (p1.Tick<=1073741824)))&&x2)&&x3)then lC x1.1.other p1.Other else some default)).bind λx4=>(((bif(((((decide (0<=p1.Tick))&&(decide (p1.Tick<=1073741824)))&&x2)&&x3)&&x4)then lC x1.1.epoch p1.Epoch else some default)).bind λx5=>(((bif((((((decide (0<=p1.Tick))&&(decide (p1.Tick<=1073741824)))&&x2)&&x3)&&x4)&&x5)then lC x1.1.ticks p1.From else some default)).bind λx6=>(((bif(((((((decide (0<=p1.Tick))&&(decide (p1.Tick<=1073741824)))&&x2)&&x3)&&x4)&&x5)&&x6)then lC x1.1.ticks p1.Until else some default)).bind λx7=>(((bif((((((((decide (0<=p1.Tick))&&(decide (p1.Tick<=1073741824)))&&x2)&&x3)&&x4)&&x5)&&x6)&&x7)then lC x1.1.n p1.N else some default)).bind λx8=>(some (((((((((decide (0<=p1.Tick))&&(decide (p1.Tick<=1073741824)))&&x2)&&x3)&&x4)&&x5)&&x6)&&x7)&&x8)))))))))))
def JK (p1:aA):Option Bool:=((JB p1 (⟨32,16,4,30⟩:fG)).bind λx1=>(some x1))
def NM (p1:ak) (p2:aA):Option Bool:=((JK p2).bind λx1=>(((bif x1 then JB p2 (⟨((p1.ah.length:Nat):Int),((p1.Cells.length:Nat):Int),p1.bK,((p1.bf.length:Nat):Int)⟩:fG)else some default)).bind λx2=>(some (x1&&x2))))
def rE (p1:aB) (p2:Int):Option Int:=(bif((decide (p2<0))||(decide (((p1.Cells.length:Nat):Int)<=p2)))then(some 0)else(ixL p1.Cells p2 λx1=>(some x1.Mode)))
def BO (p1:ak) (p2:Int):Option Int:=((dH p2 0 (w64 (((p1.Cells.length:Nat):Int) - 1))).bind λx1=>(bif(!x1)then(some (-1))else(ixL p1.Cells p2 λx2=>(some x2.Zone))))
def Fx (p1:ak) (p2:Int):Option Int:=((dH p2 0 (w64 (((p1.kW.length:Nat):Int) - 1))).bind λx1=>(bif(!x1)then(some (-1))else(ixL p1.kW p2 λx2=>(some x2.Region))))
def kE (p1:ak) (p2:Int):Option Int:=((BO p1 p2).bind λx1=>((Fx p1 x1).bind λx2=>(some x2)))
def AJ (p1 p2:Int):Option Bool:=(chk (!((decide (0<=p2))&&(decide (p2<64)))||decide ((0:Int)<=p2)) (some (((decide (0<=p2))&&(decide (p2<64)))&&((jN .i64 (oK .i64 p1 p2) 1)==1))))
def yg (p1:ak) (p2:aB) (p3:Int):Option Bool:=((kE p1 p3).bind λx1=>((AJ p2.bg x1).bind λx2=>(some x2)))
def wK (p1:ak) (p2 p3:Int):Option Bool:=((kE p1 p3).bind λx1=>((lD p2 0 (w64 (((p1.ah.length:Nat):Int) - 1))).bind λx2=>(ixG (x2&&(decide (0<=x1))) p1.ah p2 λx3=>(chk (!(x2&&(decide (0<=x1)))||decide ((0:Int)<=(IntKind.u64.wrap x1))) (some ((x2&&(decide (0<=x1)))&&((jN .i64 (oK .i64 x3.Allowed (IntKind.u64.wrap x1)) 1)==1)))))))
def CF (p1:ak) (p2 p3:Int):Option Bool:=((kE p1 p2).bind λx1=>((kE p1 p3).bind λx2=>(some (((decide (0<=x1))&&(decide (0<=x2)))&&(x1 !=x2)))))
def Fy (p1:ak) (p2 p3:Int):Option Bool:=(((bif(p3 !=(-1))then CF p1 p2 p3 else some default)).bind λx1=>(some ((p3 !=(-1))&&(!x1))))
def Gf (x1:Bool):Option Int:=(bif x1 then(some 11)else(some 0))
def Gg (p1:ak) (p3:aA) (x2 x3:Bool):Option Int:=(bif x3 then(some 12)else((wK p1 p3.aD p3.Cell).bind λx4=>(bif(!x4)then(some 11)else(((bif x2 then wK p1 p3.aD p3.Other else some default)).bind λx5=>(bif(x2&&(!x5))then Gf (x2&&(!x5))else((Fy p1 p3.Cell p3.Other).bind λx6=>Gf x6))))))
def Gh (p1:ak) (p2:aB) (p3:aA) (x2 x7:Bool):Option Int:=(bif x7 then(some 6)else((yg p1 p2 p3.Cell).bind λx8=>(bif x8 then Gg p1 p3 x2 x8 else(((bif x2 then yg p1 p2 p3.Other else some default)).bind λx9=>Gg p1 p3 x2 (x2&&x9)))))
def JL (p1:ak) (p2:aB) (p3:aA):Option Int:=(ixL p2.ah p3.aD λx10=>(bif x10.Placed then(some 4)else((rE p2 p3.Cell).bind λx11=>(bif(x11 !=1)then Gh p1 p2 p3 (p3.Other !=(-1)) (x11 !=1)else(((bif(p3.Other !=(-1))then rE p2 p3.Other else some default)).bind λx12=>Gh p1 p2 p3 (p3.Other !=(-1)) ((p3.Other !=(-1))&&(x12 !=1)))))))
def wm (x1:Bool):Option Int:=(bif x1 then(some 11)else(some 0))
def wo (p1:ak) (p2:aB) (p3:aA) (x2:ay) (x3:Bool):Option Int:=(bif x3 then(some 5)else((rE p2 p3.Cell).bind λx4=>(bif(x4 !=1)then(some 6)else((yg p1 p2 p3.Cell).bind λx5=>(bif x5 then(some 12)else((wK p1 p3.aD p3.Cell).bind λx6=>(bif(!x6)then wm (!x6)else((CF p1 p3.Cell x2.Home).bind λx7=>(bif(!x7)then wm (!x7)else((Fy p1 p3.Cell x2.Target).bind λx8=>wm x8))))))))))
def Dn (p1:ak) (p2:aB) (p3:aA):Option Int:=(ixL p2.ah p3.aD λx2=>(bif(!x2.Placed)then(some 4)else(bif(p3.Cell==(-1))then(some 0)else(bif(p3.Cell==x2.Home)then wo p1 p2 p3 x2 (p3.Cell==x2.Home)else(bif(p3.Cell==x2.aN)then wo p1 p2 p3 x2 (p3.Cell==x2.aN)else wo p1 p2 p3 x2 (p3.Cell==x2.Target))))))
def JM (p1:aB) (p2:aA):Option Int:=(ixL p1.ah p2.aD λx1=>(bif(!x1.Placed)then(some 4)else(bif(p2.Cell !=x1.Next)then(some 5)else((rE p1 p2.Cell).bind λx2=>(bif(x2==3)then(some 6)else(some 0))))))
def wu (x1:Bool):Option Int:=(bif x1 then(some 11)else(some 0))
def wz (p1:ak) (p2:aB) (p3:aA) (x2:ay) (x3:Bool):Option Int:=(bif x3 then(some 5)else((rE p2 p3.Cell).bind λx4=>(bif(x4 !=1)then(some 6)else((yg p1 p2 p3.Cell).bind λx5=>(bif x5 then(some 12)else((wK p1 p3.aD p3.Cell).bind λx6=>(bif(!x6)then wu (!x6)else((Fy p1 p3.Cell x2.aN).bind λx7=>(bif x7 then wu x7 else((Fy p1 p3.Cell x2.Next).bind λx8=>wu x8))))))))))
def wB (p1:ak) (p2:aB) (p3:aA) (x2:ay) (x9:Bool):Option Int:=(bif x9 then(some 4)else(bif(p3.Cell==x2.Home)then wz p1 p2 p3 x2 (p3.Cell==x2.Home)else(bif(p3.Cell==x2.aN)then wz p1 p2 p3 x2 (p3.Cell==x2.aN)else wz p1 p2 p3 x2 (p3.Cell==x2.Next))))
def Dp (p1:ak) (p2:aB) (p3:aA):Option Int:=(ixL p2.ah p3.aD λx2=>(bif(!x2.Placed)then wB p1 p2 p3 x2 (!x2.Placed)else(bif x2.Ap then wB p1 p2 p3 x2 x2.Ap else wB p1 p2 p3 x2 (x2.Target !=(-1)))))
def Dq (p1:aB) (p2:aA):Option Int:=(ixL p1.ah p2.aD λx1=>(bif((!x1.Placed)||(x1.Target==(-1)))then(some 4)else(some 0)))
def Jc (p2:aA) (x1:ay) (x2:Bool):Option Int:=(bif x2 then(some 4)else(bif(decide (p2.Tick<x1.Window.Until))then(some 9)else(some 0)))
def ME (p1:aB) (p2:aA):Option Int:=(ixL p1.ah p2.aD λx1=>(bif(p2.N==0)then(bif(!x1.Ap)then(some 4)else((rE p1 x1.Home).bind λx3=>(bif(x3==3)then(some 6)else(some 0))))else(bif(!x1.Placed)then Jc p2 x1 (!x1.Placed)else Jc p2 x1 x1.Ap)))
def Gi (x1:Bool):Option Int:=(bif x1 then(some 9)else(some 0))
def wL (p3:aA) (x2:ay) (x3 x4:Bool):Option Int:=(bif x4 then(some 9)else(bif(decide (p3.From<x2.Window.Until))then Gi (decide (p3.From<x2.Window.Until))else Gi ((!x3)&&(decide (p3.Tick<x2.Window.Until)))))
def Gj (p1:ak) (p3:aA) (x2:ay) (x3 x5:Bool):Option Int:=(bif x5 then(some 8)else(bif(decide (p3.From<p3.Tick))then wL p3 x2 x3 (decide (p3.From<p3.Tick))else(bif(decide ((w64 (p3.Tick+p1.Lease))<p3.From))then wL p3 x2 x3 (decide ((w64 (p3.Tick+p1.Lease))<p3.From))else(bif(decide (p3.Until<=p3.From))then wL p3 x2 x3 (decide (p3.Until<=p3.From))else wL p3 x2 x3 (decide (p1.Lease<(w64 (p3.Until - p3.From))))))))
def Gl (p1:ak) (p3:aA) (x2:ay) (x6:aH) (x3 x7:Bool):Option Int:=(bif x7 then(some 6)else(bif((p3.Epoch !=(w64 (x2.Epoch+1)))&&(!(x3&&(p3.Epoch==x2.Epoch))))then(some 7)else(bif(p3.N !=x6.Running)then Gj p1 p3 x2 x3 (p3.N !=x6.Running)else Gj p1 p3 x2 x3 (x6.Running !=x6.Wanted))))
def AL (p1:ak) (p3:aA) (x2:ay) (x6:aH) (x3 x8:Bool):Option Int:=(bif x8 then(some 4)else(bif(((!x3)&&(p3.Cell !=x2.aN))&&(p3.Cell !=x2.Target))then(some 5)else(bif(x6.Mode==3)then Gl p1 p3 x2 x6 x3 (x6.Mode==3)else Gl p1 p3 x2 x6 x3 ((x6.Mode==2)&&(!x3)))))
def BP (p1:ak) (p2:aB) (p3:aA):Option Int:=(ixL p2.ah p3.aD λx2=>(ixL p2.Cells p3.Cell λx6=>(bif(!x2.Placed)then AL p1 p3 x2 x6 (p3.Cell==x2.Home) (!x2.Placed)else AL p1 p3 x2 x6 (p3.Cell==x2.Home) (x2.Ap&&(p3.Cell !=x2.aN)))))
def Qx (p1:aB) (p2:aA):Option Int:=(ixL p1.ah p2.aD λx1=>(bif(!x1.Placed)then(some 4)else(bif(p2.Epoch !=x1.Epoch)then(some 7)else(some 0))))
def MF (p1:aB) (p2:aA):Option Int:=(ixL p1.Cells p2.Cell λx1=>(bif(x1.Mode==p2.N)then(some 4)else(some 0)))
def sZ (p1:ak) (p2:Int):Option aY:=(bif((decide (p2<0))||(decide (((p1.bf.length:Nat):Int)<=p2)))then(some (⟨0,0⟩:aY))else(ixL p1.bf p2 λx1=>(some x1)))
def yZ (zN:(List Int)->Int->Option (List Int)) (x1:Int) (x2:List Int):Option (List Int):=zN x2 (w64 (x1+1))
def jG (p1:aB) (x3:List aH) (x4:Int):Nat->(List Int)->Int->Option (List Int)|0,_,_=>none|fu1+1,x5,x1=>(bif(decide (x1<x4))then(ixL x3 x1 λx6=>((AJ p1.jY x6.Running).bind λx7=>(((bif(!(!x7))then AJ p1.jY x6.Wanted else some default)).bind λx8=>(bif((!x7)||(!x8))then(chk (decide ((x5.length+ [x1].length)*8<=room)) (yZ (jG p1 x3 x4 fu1) x1 (x5++ [x1])))else yZ (jG p1 x3 x4 fu1) x1 x5))))else(some x5))
def Gm [Fuel] (p1:aB):Option (List Int):=jG p1 p1.Cells ((p1.Cells.length:Nat):Int) fuel ([]:List Int) 0
def Jd (Io:Int->Int->Option Int) (x1 x2:Int):Option Int:=Io x2 (w64 (x1+1))
def ng (p1:ak) (p3:aA) (x3:List Int) (x4:Int):Nat->Int->Int->Option Int|0,_,_=>none|fu1+1,x5,x1=>(bif(decide (x1<x4))then(ixL x3 x1 λx6=>(bif(x6 !=p3.Cell)then Jd (ng p1 p3 x3 x4 fu1) x1 (w64 (x5+1))else Jd (ng p1 p3 x3 x4 fu1) x1 x5))else(bif(decide (p1.BM<=x5))then(some 14)else(some 0)))
def Je [Fuel] (p1:ak) (p2:aB) (p3:aA) (x7:Bool):Option Int:=(bif x7 then(some 0)else(bif(p2.bg !=0)then(some 12)else((Gm p2).bind λx3=>ng p1 p3 x3 ((x3.length:Nat):Int) fuel 0 0)))
def Jf [Fuel] (p1:ak) (p2:aB) (p3:aA) (x8:aH) (x9:Bool):Option Int:=(bif x9 then(some 13)else(bif(x8.Running==p3.N)then Je p1 p2 p3 (x8.Running==p3.N)else((AJ p2.jY p3.N).bind λx10=>Je p1 p2 p3 x10)))
def MG [Fuel] (p1:ak) (p2:aB) (p3:aA):Option Int:=(ixL p2.Cells p3.Cell λx8=>((sZ p1 p3.N).bind λx11=>(bif(x8.Wanted==p3.N)then(some 4)else(bif(decide (p2.Low<x11.Low))then Jf p1 p2 p3 x8 (decide (p2.Low<x11.Low))else Jf p1 p2 p3 x8 (decide (x11.High<p2.High))))))
def pF (p2:aA) (x1:List ay) (x2:Int):Nat->Int->Option Int|0,_=>none|fu1+1,x3=>(bif(decide (x3<x2))then(ixL x1 x3 λx4=>(bif((x4.Window.Cell==p2.Cell)&&(decide (p2.Tick<x4.Window.Until)))then(some 9)else(pF p2 x1 x2 fu1) (w64 (x3+1))))else(some 0))
def Jg [Fuel] (p1:aB) (p2:aA) (x5:Bool):Option Int:=(bif x5 then(some 4)else((AJ p1.jY p2.N).bind λx6=>(bif((!x6)&&(p1.bg !=0))then(some 12)else pF p2 p1.ah ((p1.ah.length:Nat):Int) fuel 0)))
def MH [Fuel] (p1:aB) (p2:aA):Option Int:=(ixL p1.Cells p2.Cell λx7=>(bif(x7.Wanted !=p2.N)then Jg p1 p2 (x7.Wanted !=p2.N)else Jg p1 p2 (x7.Running==x7.Wanted)))
def ni (p1:ak) (p3:aA) (x1:List aH) (x2:Int):Nat->Int->Option Int|0,_=>none|fu1+1,x3=>(bif(decide (x3<x2))then(ixL x1 x3 λx4=>(bif((((x4.Mode !=3)&&(x4.Running==p3.N))&&(x4.Wanted==p3.N))&&(decide (p1.Uz<=(w64 (p3.Tick - x4.Since)))))then(some 0)else(ni p1 p3 x1 x2 fu1) (w64 (x3+1))))else(some 15))
def JN [Fuel] (p1:ak) (p2:aB) (p3:aA):Option Int:=((AJ p2.jY p3.N).bind λx5=>(bif x5 then(some 4)else ni p1 p3 p2.Cells ((p2.Cells.length:Nat):Int) fuel 0))
def sj (p1:aB) (p2:aA):Option Int:=((AJ p1.bg p2.Other).bind λx1=>(bif(x1==(p2.N==1))then(some 4)else(some 0)))
def lF (p1:ak) (p2:aB) (x1:List aH) (x2:Int):Nat->Int->Option Int|0,_=>none|fu1+1,x3=>(bif(decide (x3<x2))then(ixL x1 x3 λx4=>((sZ p1 x4.Running).bind λx5=>(((bif(!(decide (x5.High<=p2.High)))then sZ p1 x4.Wanted else some default)).bind λx6=>(bif((decide (x5.High<=p2.High))||(decide (x6.High<=p2.High)))then(some 13)else(lF p1 p2 x1 x2 fu1) (w64 (x3+1))))))else(some 0))
def He [Fuel] (p1:ak) (p2:aB):Option Int:=(bif(decide (p2.Low<p2.High))then(some 4)else(bif(decide (30<=p2.High))then(some 2)else lF p1 p2 p2.Cells ((p2.Cells.length:Nat):Int) fuel 0))
def AO (p1:aB):Option Int:=(bif(p1.High==p1.Low)then(some 4)else(some 0))
def jC [Fuel] (p1:ak) (p2:aB) (p3:aA) (x1:Bool):Option Int:=(bif x1 then(some 1)else(bif(decide (4096<=p2.Count))then(some 2)else(bif(decide (p3.Tick<p2.Tick))then(some 3)else(bif(p3.Kind==1)then((JL p1 p2 p3).bind λx2=>(some x2))else(bif(p3.Kind==4)then((Dn p1 p2 p3).bind λx3=>(some x3))else(bif(p3.Kind==5)then((JM p2 p3).bind λx4=>(some x4))else(bif(p3.Kind==6)then((Dp p1 p2 p3).bind λx5=>(some x5))else(bif(p3.Kind==7)then((Dq p2 p3).bind λx6=>(some x6))else(bif(p3.Kind==8)then((ME p2 p3).bind λx7=>(some x7))else(bif(p3.Kind==2)then((BP p1 p2 p3).bind λx8=>(some x8))else(bif(p3.Kind==3)then((Qx p2 p3).bind λx9=>(some x9))else(bif(p3.Kind==9)then((MF p2 p3).bind λx10=>(some x10))else(bif(p3.Kind==10)then((MG p1 p2 p3).bind λx11=>(some x11))else(bif(p3.Kind==11)then((MH p2 p3).bind λx12=>(some x12))else(bif(p3.Kind==12)then((JN p1 p2 p3).bind λx13=>(some x13))else(bif(p3.Kind==13)then((sj p2 p3).bind λx14=>(some x14))else(bif(p3.Kind==14)then((He p1 p2).bind λx15=>(some x15))else(bif(p3.Kind==15)then((AO p2).bind λx16=>(some x16))else(some 0)))))))))))))))))))
def kF [Fuel] (p1:ak) (p2:aB) (p3:aA):Option Int:=((NM p1 p3).bind λx17=>(bif(!x17)then jC p1 p2 p3 (!x17)else(bif(((p2.ah.length:Nat):Int) !=((p1.ah.length:Nat):Int))then jC p1 p2 p3 (((p2.ah.length:Nat):Int) !=((p1.ah.length:Nat):Int))else jC p1 p2 p3 (((p2.Cells.length:Nat):Int) !=((p1.Cells.length:Nat):Int)))))
def CG (p1:List aH) (p2:Nat) (p3:aA):Option (List aH):=(bif(p3.Kind==9)then(dZ (p1.getD p2 default) λx1=>(dZ (p1.set p2 {x1 with Mode:=p3.N}) λx2=>(dZ (x2.getD p2 default) λx3=>(dZ (x2.set p2 {x3 with Since:=p3.Tick}) λx4=>(some x4)))))else(bif(p3.Kind==10)then(dZ (p1.getD p2 default) λx5=>(dZ (p1.set p2 {x5 with Wanted:=p3.N}) λx6=>(some x6)))else(bif(p3.Kind==11)then(dZ (p1.getD p2 default) λx7=>(dZ (p1.set p2 {x7 with Running:=p3.N}) λx8=>(dZ (x8.getD p2 default) λx9=>(dZ (x8.set p2 {x9 with Since:=p3.Tick}) λx10=>(some x10)))))else(some p1))))
def NN (p1:List ay) (p2:Nat) (p3:aA):Option (List ay):=(dZ (p1.getD p2 default) λx1=>(dZ (p1.set p2 {x1 with Window:=(⟨p3.Cell,p3.Epoch,p3.N,p3.From,p3.Until⟩:aT)}) λx2=>(dZ (x2.getD p2 default) λx3=>(dZ (x2.set p2 {x3 with Epoch:=p3.Epoch}) λx4=>(dZ (x4.getD p2 default) λx5=>(bif(p3.Cell==x5.Home)then(some x4)else(bif(p3.Cell==x5.aN)then(dZ (x4.set p2 {x5 with Home:=p3.Cell}) λx6=>(dZ (x6.getD p2 default) λx7=>(dZ (x6.set p2 {x7 with aN:=(-1)}) λx8=>(dZ (x8.getD p2 default) λx9=>(dZ (x8.set p2 {x9 with Next:=(-1)}) λx10=>(dZ (x10.getD p2 default) λx11=>(dZ (x10.set p2 {x11 with Target:=(-1)}) λx12=>(dZ (x12.getD p2 default) λx13=>(dZ (x12.set p2 {x13 with Ap:=false}) λx14=>(some x14))))))))))else(bif(p3.Cell==x5.Target)then(dZ (x4.set p2 {x5 with Home:=p3.Cell}) λx15=>(dZ (x15.getD p2 default) λx16=>(dZ (x15.set p2 {x16 with Target:=(-1)}) λx17=>(some x17))))else(some x4)))))))))
def jD (p1:List ay) (p2:Nat) (p3:aA):Option (List ay):=(bif(p3.Kind==1)then(dZ (p1.getD p2 default) λx1=>(dZ (p1.set p2 {x1 with Placed:=true}) λx2=>(dZ (x2.getD p2 default) λx3=>(dZ (x2.set p2 {x3 with Home:=p3.Cell}) λx4=>(dZ (x4.getD p2 default) λx5=>(dZ (x4.set p2 {x5 with aN:=p3.Other}) λx6=>(some x6)))))))else(bif(p3.Kind==4)then(dZ (p1.getD p2 default) λx7=>(dZ (p1.set p2 {x7 with Next:=p3.Cell}) λx8=>(some x8)))else(bif(p3.Kind==5)then(dZ (p1.getD p2 default) λx9=>(dZ (p1.set p2 {x9 with aN:=p3.Cell}) λx10=>(dZ (x10.getD p2 default) λx11=>(dZ (x10.set p2 {x11 with Next:=(-1)}) λx12=>(some x12)))))else(bif(p3.Kind==6)then(dZ (p1.getD p2 default) λx13=>(dZ (p1.set p2 {x13 with Target:=p3.Cell}) λx14=>(some x14)))else(bif(p3.Kind==7)then(dZ (p1.getD p2 default) λx15=>(dZ (p1.set p2 {x15 with Target:=(-1)}) λx16=>(some x16)))else(bif(p3.Kind==8)then(dZ (p1.getD p2 default) λx17=>(dZ (p1.set p2 {x17 with Ap:=(p3.N==1)}) λx18=>(dZ (x18.getD p2 default) λx19=>(bif x19.Ap then(dZ (x18.set p2 {x19 with Target:=(-1)}) λx20=>(some x20))else(some x18)))))else(bif(p3.Kind==3)then(dZ (p1.getD p2 default) λx21=>(dZ (p1.set p2 {x21 with Window:={x21.Window with Until:=(Qk x21.Window.Until (w64 (p3.Tick+1)))}}) λx22=>(dZ (x22.getD p2 default) λx23=>(dZ (x22.set p2 {x23 with Window:={x23.Window with From:=(Qk x23.Window.From x23.Window.Until)}}) λx24=>(some x24)))))else(bif(p3.Kind==2)then((NN p1 p2 p3).bind λx25=>(some x25))else(some p1)))))))))
def iV (x1:aB):Option aB:=(some x1)
def qj (p2:aA) (x2:aB) (x3:Int) (x4:Bool):Option aB:=(bif x4 then(ixL x2.Cells p2.Cell λx5=>((CG x2.Cells (Int.toNat p2.Cell) p2).bind λx6=>iV {x2 with Cells:=x6}))else(bif(x3==12)then(chk (decide ((0:Int)<=p2.N)) (iV {x2 with jY:=(orK .i64 x2.jY (Dk .i64 1 p2.N))}))else(bif(x3==13)then(bif(p2.N==1)then(chk (decide ((0:Int)<=p2.Other)) (iV {x2 with bg:=(orK .i64 x2.bg (Dk .i64 1 p2.Other))}))else(chk (decide ((0:Int)<=p2.Other)) (iV {x2 with bg:=(Nr .i64 x2.bg (Dk .i64 1 p2.Other))})))else(bif(x3==14)then iV {x2 with High:=(w64 (x2.High+1))}else(bif(x3==15)then iV {x2 with Low:=x2.High}else(bif(x3==16)then iV x2 else(ixL x2.ah p2.aD λx7=>((jD x2.ah (Int.toNat p2.aD) p2).bind λx8=>iV {x2 with ah:=x8}))))))))
def jc (p1:aB) (p2:aA):Option aB:=((cZ p1.ah).bind λx9=>((dG p1.Cells).bind λx10=>(bif(p2.Kind==9)then qj p2 {p1 with Tick:=p2.Tick,Count:=(w64 (p1.Count+1)),ah:=x9,Cells:=x10} p2.Kind (p2.Kind==9)else(bif(p2.Kind==10)then qj p2 {p1 with Tick:=p2.Tick,Count:=(w64 (p1.Count+1)),ah:=x9,Cells:=x10} p2.Kind (p2.Kind==10)else qj p2 {p1 with Tick:=p2.Tick,Count:=(w64 (p1.Count+1)),ah:=x9,Cells:=x10} p2.Kind (p2.Kind==11)))))
def dJ (p1:aA) (x1:Int) (x2:Bool):Option Bool:=(bif x2 then(some true)else(bif(x1==4)then(some (p1.Cell !=(-1)))else(bif(x1==8)then(some (p1.N==0))else(some false))))
def fM (p1:aA):Option Bool:=(bif(p1.Kind==1)then dJ p1 p1.Kind (p1.Kind==1)else(bif(p1.Kind==6)then dJ p1 p1.Kind (p1.Kind==6)else dJ p1 p1.Kind (p1.Kind==2)))
def WA (p1:ak) (p2:aB):Option Int:=(some (Qk ((p1.ah.length:Nat):Int) ((p2.ah.length:Nat):Int)))
def Ud (p1:ay):Option Bool:=(some (p1.Placed&&(!p1.Ap)))
def NP (p1:List Int) (p2 p3:Int):Option (List Int):=(bif((decide (0<=p2))&&(decide (p2<((p1.length:Nat):Int))))then(ixL p1 p2 λx1=>(ixL p1 p2 λx2=>(dZ (p1.set (Int.toNat p2) (w64 (x1+p3))) λx3=>(some x3))))else(some p1))
def Gn (qc:(List Int)->Int->Option (List Int)) (x1:Int) (x2:List Int):Option (List Int):=qc x2 (w64 (x1+1))
def Gp (qc:(List Int)->Int->Option (List Int)) (x1:Int) (x3:aW) (x4:ay) (x5:List Int):Option (List Int):=((NP x5 x4.aN x3.pR).bind λx6=>((NP x6 x4.Next x3.pR).bind λx7=>Gn qc x1 x7))
def pV (p1:ak) (p2:aB) (x8:Int):Nat->(List Int)->Int->Option (List Int)|0,_,_=>none|fu1+1,x9,x1=>(bif(decide (x1<x8))then(ixL p1.ah x1 λx3=>(ixL p2.ah x1 λx4=>(bif(!x4.Placed)then Gn (pV p1 p2 x8 fu1) x1 x9 else((Ud x4).bind λx10=>(bif x10 then((NP x9 x4.Home x3.Load).bind λx11=>((NP x11 x4.Target x3.Load).bind λx12=>Gp (pV p1 p2 x8 fu1) x1 x3 x4 x12))else Gp (pV p1 p2 x8 fu1) x1 x3 x4 x9)))))else(some x9))
def NQ [Fuel] (p1:ak) (p2:aB):Option (List Int):=(chk (decide ((0:Int)<=((p1.Cells.length:Nat):Int)/\(((p1.Cells.length:Nat):Int):Int)<=((p1.Cells.length:Nat):Int)/\(((p1.Cells.length:Nat):Int):Int)<=9223372036854775807/\(((p1.Cells.length:Nat):Int):Int)*8<=140737488355328)) ((WA p1 p2).bind λx8=>pV p1 p2 x8 fuel (List.replicate (Int.toNat ((p1.Cells.length:Nat):Int)) (default:Int)) 0))
def Lc (JO:(List Int)->Int->Option (List Int)) (x1:Int) (x2:List Int):Option (List Int):=JO x2 (w64 (x1+1))
def yh (p1:ak) (x3:List Int) (x4:Int):Nat->(List Int)->Int->Option (List Int)|0,_,_=>none|fu1+1,x5,x1=>(bif(decide (x1<x4))then(ixL x3 x1 λx6=>(ixL p1.Cells x1 λx7=>(bif(decide (x7.kV<x6))then(chk (decide ((x5.length+ [x1].length)*8<=room)) (Lc (yh p1 x3 x4 fu1) x1 (x5++ [x1])))else Lc (yh p1 x3 x4 fu1) x1 x5)))else(some x5))
def Qy [Fuel] (p1:ak) (p2:aB):Option (List Int):=((NQ p1 p2).bind λx3=>yh p1 x3 ((x3.length:Nat):Int) fuel ([]:List Int) 0)
def Fz [Fuel] (p1:ak) (p2:aB) (p3:aA):Option (aB×Int):=((kF p1 p2 p3).bind λx1=>(bif(x1 !=0)then(some ((⟨0,0,([]:List ay),([]:List aH),0,0,0,0⟩:aB),x1))else((jc p2 p3).bind λx2=>((fM p3).bind λx3=>(((bif x3 then Qy p1 x2 else some default)).bind λx4=>(bif(x3&&(decide (0<((x4.length:Nat):Int))))then(some ((⟨0,0,([]:List ay),([]:List aH),0,0,0,0⟩:aB),10))else(some (x2,0))))))))
def zO (p1:aj):Option (Int×aj):=(some (p1.role,p1))
def qE (p1:aj):Option Int:=(some p1.role)
theorem NR [Fuel] (p1:aj):zO p1=(qE p1).bind λx=>some (x,p1):=by
  simp only [zO,qE,d9,bV,eu,eB,eD,bW,bX,bY]
def zP (p1:aJ):Option (Int×aJ):=(some (p1.term,p1))
def mE (p1:aJ):Option Int:=(some p1.term)
theorem NS [Fuel] (p1:aJ):zP p1=(mE p1).bind λx=>some (x,p1):=by
  simp only [zP,mE,d9,bV,eu,eB,eD,bW,bX,bY]
def zQ (p1:aj):Option (Int×aj):=((mE p1.aQ).bind λx1=>(some (x1,p1)))
def bN (p1:aj):Option Int:=((mE p1.aQ).bind λx1=>(some x1))
theorem NT [Fuel] (p1:aj):zQ p1=(bN p1).bind λx=>some (x,p1):=by
  simp only [zQ,bN,d9,bV,eu,eB,eD,bW,bX,bY]
def uS (x1 x2 x3:Int) (x4:aL):Option (Int×aL):=(bif(decide ((w64 (x3+1))<x2))then none else(some (x1,x4)))
def IW (p1:aL):Option (Int×aL):=(bif(decide (0<1))then((qE (p1.au.getD 0 default)).bind λx5=>(((bif((x5==3)&&(!(decide ((-1)<0))))then bN (p1.au.getD 0 default)else some default)).bind λx6=>(chk (!((x5==3)&&(!(decide ((-1)<0))))||decide ((0:Int)<=(-1)/\((-1):Int)<((1:Nat):Int))) (((bif((x5==3)&&(!(decide ((-1)<0))))then bN (p1.au.getD 0 default)else some default)).bind λx7=>(bif((x5==3)&&((decide ((-1)<0))||(decide (x7<x6))))then uS 0 1 0 {p1 with au:= [(p1.au.getD 0 default)]}else uS (-1) 1 0 {p1 with au:= [(p1.au.getD 0 default)]})))))else none)
def Ip (p1:aV) (p2:Int):Option (Bool×aV):=(chk (!((decide (0<=p2))&&(decide (p2<((p1.config.bO.length:Nat):Int))))||decide ((0:Int)<=p2)) (some ((((decide (0<=p2))&&(decide (p2<((p1.config.bO.length:Nat):Int))))&&((jN .i64 (oK .i64 p1.up p2) 1)==1)),{p1 with net:={p1.net with au:= [(p1.net.au.getD 0 default)]}})))
def og (p1:aV) (p2:Int):Option Bool:=(chk (!((decide (0<=p2))&&(decide (p2<((p1.config.bO.length:Nat):Int))))||decide ((0:Int)<=p2)) (some (((decide (0<=p2))&&(decide (p2<((p1.config.bO.length:Nat):Int))))&&((jN .i64 (oK .i64 p1.up p2) 1)==1))))
theorem Ue [Fuel] (p1:aV) (p2:Int):Ip p1 p2=(og p1 p2).bind λx=>some (x,{p1 with net:={p1.net with au:= [(p1.net.au.getD 0 default)]}}):=by
  simp only [Ip,og,d9,bV,eu,eB,eD,bW,bX,bY]
def FB (p1:aL) (p2:Int):Option (Bool×aL):=(some (((decide (0<=p2))&&(decide (p2<1))),{p1 with au:= [(p1.au.getD 0 default)]}))
def iL (p1:aL) (p2:Int):Option Bool:=(some ((decide (0<=p2))&&(decide (p2<1))))
theorem SA [Fuel] (p1:aL) (p2:Int):FB p1 p2=(iL p1 p2).bind λx=>some (x,{p1 with au:= [(p1.au.getD 0 default)]}):=by
  simp only [FB,iL,d9,bV,eu,eB,eD,bW,bX,bY]
def iI (p2:gF) (x1:Bool) (x2:aL):Option (Bool×aL):=(bif x1 then(some (((decide (0<=p2.N))&&(decide (p2.N<((x2.net.length:Nat):Int)))),x2))else(some (false,x2)))
def gJ (p2:gF) (x3:Int) (x4:Bool) (x5:aL):Option (Bool×aL):=(bif x4 then((iL x5 p2.Who).bind λx6=>(some (x6,x5)))else(bif(x3==4)then iI p2 (x3==4) x5 else(bif(x3==5)then iI p2 (x3==5) x5 else iI p2 (x3==6) x5)))
def uT (p1:aL) (p2:gF):Option (Bool×aL):=(bif(p2.Kind==1)then gJ p2 p2.Kind (p2.Kind==1) {p1 with au:= [(p1.au.getD 0 default)]}else(bif(p2.Kind==2)then gJ p2 p2.Kind (p2.Kind==2) {p1 with au:= [(p1.au.getD 0 default)]}else(bif(p2.Kind==3)then gJ p2 p2.Kind (p2.Kind==3) {p1 with au:= [(p1.au.getD 0 default)]}else gJ p2 p2.Kind (p2.Kind==7) {p1 with au:= [(p1.au.getD 0 default)]})))
def ji (p2:gF) (x1:Bool) (x2:aL):Option Bool:=(bif x1 then(some ((decide (0<=p2.N))&&(decide (p2.N<((x2.net.length:Nat):Int)))))else(some false))
theorem wC [Fuel] (p2:gF) (x1:Bool) (x2:aL):iI p2 x1 x2=(ji p2 x1 x2).bind (λx=>some (x,x2)):=by
  simp only [iI,ji,d9,bV,eu,eB,eD,bW,bX,bY]
def gU (p2:gF) (x3:Int) (x4:Bool) (x5:aL):Option Bool:=(bif x4 then((iL x5 p2.Who).bind λx6=>(some x6))else(bif(x3==4)then ji p2 (x3==4) x5 else(bif(x3==5)then ji p2 (x3==5) x5 else ji p2 (x3==6) x5)))
theorem Iq [Fuel] (p2:gF) (x3:Int) (x4:Bool) (x5:aL):gJ p2 x3 x4 x5=(gU p2 x3 x4 x5).bind (λx=>some (x,x5)):=by
  simp only [gJ,gU,d9,bV,eu,eB,eD,bW,bX,bY,wC]
def nk (p1:aL) (p2:gF):Option Bool:=(bif(p2.Kind==1)then gU p2 p2.Kind (p2.Kind==1) {p1 with au:= [(p1.au.getD 0 default)]}else(bif(p2.Kind==2)then gU p2 p2.Kind (p2.Kind==2) {p1 with au:= [(p1.au.getD 0 default)]}else(bif(p2.Kind==3)then gU p2 p2.Kind (p2.Kind==3) {p1 with au:= [(p1.au.getD 0 default)]}else gU p2 p2.Kind (p2.Kind==7) {p1 with au:= [(p1.au.getD 0 default)]})))
theorem KQ [Fuel] (p1:aL) (p2:gF):uT p1 p2=(nk p1 p2).bind λx=>some (x,{p1 with au:= [(p1.au.getD 0 default)]}):=by
  simp only [uT,nk,d9,bV,eu,eB,eD,bW,bX,bY,wC,Iq]
def Dt (p1:aJ) (p2 p3:Int):Option (Int×aJ):=(bif((((decide (p2<0))||(decide (1073741824<p2)))||(decide (p3<(-1))))||(decide (5<=p3)))then(some (1,p1))else(bif((decide (p2<p1.term))||(((p2==p1.term)&&(p1.RH !=(-1)))&&(p1.RH !=p3)))then(some (20,p1))else(some (0,{p1 with term:=p2,RH:=p3}))))
def Zp (p1:List Int) (p2:Int):Option (List Int):=(chk (decide ((0:Int)<=0/\(0:Int)<=(w64 (((p1.length:Nat):Int)+p2))/\((w64 (((p1.length:Nat):Int)+p2)):Int)<=9223372036854775807/\((w64 (((p1.length:Nat):Int)+p2)):Int)*1<=140737488355328)) (chk (decide (((List.replicate (Int.toNat 0) (default:Int)).length+p1.length)*1<=room)) (some ((List.replicate (Int.toNat 0) (default:Int))++p1))))
def aeD (p1:Int):Option Int:=(bif(decide (p1<0))then(some (ajb .u64 18446744073709551615 (Dk .u64 (IntKind.u64.wrap p1) 1)))else(some (Dk .u64 (IntKind.u64.wrap p1) 1)))
def Uf:Nat->(List Int)->Int->Option (List Int)|0,_,_=>none|fu1+1,x1,x2=>(bif(decide (128<=x2))then(chk (decide ((x1.length+ [(orK .u8 (IntKind.u8.wrap x2) 128)].length)*1<=room)) ((Uf fu1) (x1++ [(orK .u8 (IntKind.u8.wrap x2) 128)]) (oK .u64 x2 7)))else(chk (decide ((x1.length+ [(IntKind.u8.wrap x2)].length)*1<=room)) (some (x1++ [(IntKind.u8.wrap x2)]))))
def aho [Fuel] (p1:List Int) (p2:Int):Option (List Int):=((aeD p2).bind λx3=>Uf fuel p1 x3)
def BA [Fuel] (p1:List Int) (p2:Int):Option (List Int):=((Zp p1 10).bind λx1=>((aho x1 p2).bind λx2=>(some x2)))
def JQ [Fuel] (p1:List Int) (x1:Int):Nat->(List Int)->Int->Option (List Int)|0,_,_=>none|fu1+1,x2,x3=>(bif(decide (x3<x1))then(ixL p1 x3 λx4=>((BA x2 x4).bind λx5=>(JQ p1 x1 fu1) x5 (w64 (x3+1))))else(some x2))
def Qz [Fuel] (p1:(List Int)):Option (List Int):=JQ p1 ((p1.length:Nat):Int) fuel ([]:List Int) 0
def RX (p1 p2:Int):Option Int:=(some (ajb .u64 (IntKind.u64.wrap ((ajb .u64 p1 (IntKind.u64.wrap p2))*1099511628211)) (oK .u64 (IntKind.u64.wrap ((ajb .u64 p1 (IntKind.u64.wrap p2))*1099511628211)) 29)))
def JR (p2 x1:List Int) (x2:Int):Nat->Int->Int->Option Int|0,_,_=>none|fu1+1,x3,x4=>(bif(decide (x4<x2))then(ixL x1 x4 λx5=>((RX x3 (IntKind.i64.wrap x5)).bind λx6=>(JR p2 x1 x2 fu1) x6 (w64 (x4+1))))else((RX x3 ((p2.length:Nat):Int)).bind λx7=>(some x7)))
def Xu [Fuel] (p1:Int) (p2:List Int):Option Int:=JR p2 p2 ((p2.length:Nat):Int) fuel p1 0
def abL [Fuel] (p1:Int) (p2:List Int):Option Int:=((RX 14695981039346656037 p1).bind λx1=>((Xu x1 p2).bind λx2=>(some x2)))
def QA (p3:(List Int)):Nat->(List Int)->Int->Int->Option (List Int)|0,_,_,_=>none|fu1+1,x1,x2,x3=>(bif(decide (x3<8))then(chk (decide ((x1.length+ [(IntKind.u8.wrap x2)].length)*1<=room)) ((QA p3 fu1) (x1++ [(IntKind.u8.wrap x2)]) (oK .u64 x2 8) (w64 (x3+1))))else(chk (decide ((x1.length+p3.length)*1<=room)) (some (x1++p3))))
def aeE [Fuel] (p1:List Int) (p2:Int) (p3:List Int):Option (List Int):=(bif(decide (65536<((p3.length:Nat):Int)))then(chk (decide ((0+p1.length)*1<=room)) (some p1))else((BA p1 ((p3.length:Nat):Int)).bind λx4=>((abL p2 p3).bind λx5=>QA p3 fuel x4 x5 0)))
def O5 (p1:aZ) (p2:List Int):Option aZ:=(chk (decide ((p1.data.length+p2.length)*1<=room)) (some {p1 with data:=(p1.data++p2)}))
def yj [Fuel] (p1:aJ) (p2:List Int):Option aJ:=((aeE ([]:List Int) 8 p2).bind λx1=>((O5 p1.uw x1).bind λx2=>(some {p1 with uw:=x2})))
def Du [Fuel] (p1:aJ) (p2 p3:Int):Option (Int×aJ):=((Dt p1 p2 p3).bind λx1=>(bif(x1.1 !=0)then(some (x1.1,x1.2))else((Qz [1,p2,p3]).bind λx2=>((yj x1.2 x2).bind λx3=>(some (0,x3))))))
def Ti (p1:aZ):Option aZ:=(some {p1 with afn:=((p1.data.length:Nat):Int)})
def sP (p1:aJ):Option aJ:=((Ti p1.uw).bind λx1=>(some {p1 with uw:=x1}))
def oh [Fuel] (p1:aj) (p2 p3:Int):Option aj:=((Du p1.aQ p2 p3).bind λx1=>((sP x1.2).bind λx2=>(some {p1 with aQ:=x2})))
def BQ (p1:aJ):Option (Int×aJ):=(some (((p1.log.length:Nat):Int),p1))
def nK (p1:aJ):Option Int:=(some ((p1.log.length:Nat):Int))
theorem PG [Fuel] (p1:aJ):BQ p1=(nK p1).bind λx=>some (x,p1):=by
  simp only [BQ,nK,d9,bV,eu,eB,eD,bW,bX,bY]
def BR (p1:aj):Option (Int×aj):=((nK p1.aQ).bind λx1=>(some (x1,p1)))
def bG (p1:aj):Option Int:=((nK p1.aQ).bind λx1=>(some x1))
theorem PI [Fuel] (p1:aj):BR p1=(bG p1).bind λx=>some (x,p1):=by
  simp only [BR,bG,d9,bV,eu,eB,eD,bW,bX,bY]
def jH (qR:Int->Int->Int->Int->Int->Int->Int->Int->Int->Int->Int->Option aj) (x1:Int) (x2:aj):Option aj:=qR x2.next.e0 x2.next.e1 x2.next.e2 x2.next.e3 x2.next.e4 x2.match_.e0 x2.match_.e1 x2.match_.e2 x2.match_.e3 x2.match_.e4 (w64 (x1+1))
def iM (x3 x4 x5 x6 x7 x8:Int) (x9:aJ):Nat->Int->Int->Int->Int->Int->Int->Int->Int->Int->Int->Int->Option aj|0,_,_,_,_,_,_,_,_,_,_,_=>none|fu1+1,x10,x11,x12,x13,x14,x15,x16,x17,x18,x19,x1=>(bif(decide (x1<x8))then(bif(x1==4)then((bG (⟨x9,x3,x4,x5,x6,x7,⟨x10,x11,x12,x13,x14⟩,⟨x15,x16,x17,x18,x19⟩⟩:aj)).bind λx20=>jH (iM x3 x4 x5 x6 x7 x8 x9 fu1) x1 (⟨x9,x3,x4,x5,x6,x7,⟨x10,x11,x12,x13,x20⟩,⟨x15,x16,x17,x18,0⟩⟩:aj))else(bif(x1==3)then((bG (⟨x9,x3,x4,x5,x6,x7,⟨x10,x11,x12,x13,x14⟩,⟨x15,x16,x17,x18,x19⟩⟩:aj)).bind λx21=>jH (iM x3 x4 x5 x6 x7 x8 x9 fu1) x1 (⟨x9,x3,x4,x5,x6,x7,⟨x10,x11,x12,x21,x14⟩,⟨x15,x16,x17,0,x19⟩⟩:aj))else(bif(x1==2)then((bG (⟨x9,x3,x4,x5,x6,x7,⟨x10,x11,x12,x13,x14⟩,⟨x15,x16,x17,x18,x19⟩⟩:aj)).bind λx22=>jH (iM x3 x4 x5 x6 x7 x8 x9 fu1) x1 (⟨x9,x3,x4,x5,x6,x7,⟨x10,x11,x22,x13,x14⟩,⟨x15,x16,0,x18,x19⟩⟩:aj))else(bif(x1==1)then((bG (⟨x9,x3,x4,x5,x6,x7,⟨x10,x11,x12,x13,x14⟩,⟨x15,x16,x17,x18,x19⟩⟩:aj)).bind λx23=>jH (iM x3 x4 x5 x6 x7 x8 x9 fu1) x1 (⟨x9,x3,x4,x5,x6,x7,⟨x10,x23,x12,x13,x14⟩,⟨x15,0,x17,x18,x19⟩⟩:aj))else(bif(x1==0)then((bG (⟨x9,x3,x4,x5,x6,x7,⟨x10,x11,x12,x13,x14⟩,⟨x15,x16,x17,x18,x19⟩⟩:aj)).bind λx24=>jH (iM x3 x4 x5 x6 x7 x8 x9 fu1) x1 (⟨x9,x3,x4,x5,x6,x7,⟨x24,x11,x12,x13,x14⟩,⟨0,x16,x17,x18,x19⟩⟩:aj))else none)))))else(some (⟨x9,x3,x4,x5,x6,x7,⟨x10,x11,x12,x13,x14⟩,⟨x15,x16,x17,x18,x19⟩⟩:aj)))
def zR [Fuel] (p1:aj):Option aj:=iM p1.id p1.n 3 p1.commit p1.Di p1.n p1.aQ fuel p1.next.e0 p1.next.e1 p1.next.e2 p1.next.e3 p1.next.e4 p1.match_.e0 p1.match_.e1 p1.match_.e2 p1.match_.e3 p1.match_.e4 0
def uU (p1:aj) (p2 p3:Int):Option (aC×aj):=((bN p1).bind λx1=>(some ((⟨p2,p1.id,p3,x1,0,0,0,false,([]:List aG)⟩:aC),p1)))
def dP (p1:aj) (p2 p3:Int):Option aC:=((bN p1).bind λx1=>(some (⟨p2,p1.id,p3,x1,0,0,0,false,([]:List aG)⟩:aC)))
theorem KR [Fuel] (p1:aj) (p2 p3:Int):uU p1 p2 p3=(dP p1 p2 p3).bind λx=>some (x,p1):=by
  simp only [uU,dP,d9,bV,eu,eB,eD,bW,bX,bY]
def Dv (p1:aJ) (p2:Int):Option (aG×Bool×aJ):=(bif((decide (p2<0))||(decide (((p1.log.length:Nat):Int)<=p2)))then(some ((⟨0,⟨0,0,0,0,0,0,0,0,0⟩⟩:aG),false,p1))else(ixL p1.log p2 λx1=>(some (x1,true,p1))))
def jP (p1:aJ) (p2:Int):Option (aG×Bool):=(bif((decide (p2<0))||(decide (((p1.log.length:Nat):Int)<=p2)))then(some ((⟨0,⟨0,0,0,0,0,0,0,0,0⟩⟩:aG),false))else(ixL p1.log p2 λx1=>(some (x1,true))))
theorem QB [Fuel] (p1:aJ) (p2:Int):Dv p1 p2=(jP p1 p2).bind λx=>some (x.1,x.2,p1):=by
  simp only [Dv,jP,d9,bV,eu,eB,eD,bW,bX,bY]
def wR (p1:aJ) (p2:Int):Option (Int×aJ):=((jP p1 p2).bind λx1=>(some (x1.1.Term,p1)))
def dK (p1:aJ) (p2:Int):Option Int:=((jP p1 p2).bind λx1=>(some x1.1.Term))
theorem LY [Fuel] (p1:aJ) (p2:Int):wR p1 p2=(dK p1 p2).bind λx=>some (x,p1):=by
  simp only [wR,dK,d9,bV,eu,eB,eD,bW,bX,bY]
def tq (p1:aj):Option (Int×aj):=((bG p1).bind λx1=>((dK p1.aQ (w64 (x1 - 1))).bind λx2=>(some (x2,p1))))
def iJ (p1:aj):Option Int:=((bG p1).bind λx1=>((dK p1.aQ (w64 (x1 - 1))).bind λx2=>(some x2)))
theorem JU [Fuel] (p1:aj):tq p1=(iJ p1).bind λx=>some (x,p1):=by
  simp only [tq,iJ,d9,bV,eu,eB,eD,bW,bX,bY]
def qU (p1:Int) (p2:aj):Option (aC×aj):=((dP p2 1 p1).bind λx1=>((bG p2).bind λx2=>((iJ p2).bind λx3=>(some ({x1 with Index:=x2,rC:=x3},p2)))))
def jk (p1:Int) (p2:aj):Option aC:=((dP p2 1 p1).bind λx1=>((bG p2).bind λx2=>((iJ p2).bind λx3=>(some {x1 with Index:=x2,rC:=x3}))))
theorem Ir [Fuel] (p1:Int) (p2:aj):qU p1 p2=(jk p1 p2).bind λx=>some (x,p2):=by
  simp only [qU,jk,d9,bV,eu,eB,eD,bW,bX,bY]
def jy (nL:(List aC)->Int->Option ((List aC)×aj)) (x1:Int) (x2:List aC):Option ((List aC)×aj):=nL x2 (w64 (x1+1))
def iw (x3:Int) (x4:aj):Nat->(List aC)->Int->Option ((List aC)×aj)|0,_,_=>none|fu1+1,x5,x1=>(bif(decide (x1<x3))then(bif(x1 !=x4.id)then((jk x1 x4).bind λx6=>(chk (decide ((x5.length+ [x6].length)*88<=room)) (jy (iw x3 x4 fu1) x1 (x5++ [x6]))))else jy (iw x3 x4 fu1) x1 x5)else(some (x5,x4)))
def tu [Fuel] (p1:aj):Option ((List aC)×aj):=iw p1.n p1 fuel ([]:List aC) 0
def kG (jr:(List aC)->Int->Option (List aC)) (x1:Int) (x2:List aC):Option (List aC):=jr x2 (w64 (x1+1))
theorem uI [Fuel] (G:(List aC)->Option ((List aC)×aj)) (jr:(List aC)->Int->Option (List aC)) (x1:Int) (x2:List aC):jy (λy1 y2=>(jr y1 y2).bind G) x1 x2=(kG jr x1 x2).bind G:=by
  simp only [jy,kG,d9,bV,eu,eB,eD,bW,bX,bY]
def iW (x3:Int) (x4:aj):Nat->(List aC)->Int->Option (List aC)|0,_,_=>none|fu1+1,x5,x1=>(bif(decide (x1<x3))then(bif(x1 !=x4.id)then((jk x1 x4).bind λx6=>(chk (decide ((x5.length+ [x6].length)*88<=room)) (kG (iW x3 x4 fu1) x1 (x5++ [x6]))))else kG (iW x3 x4 fu1) x1 x5)else(some x5))
theorem uJ [Fuel] (x3:Int) (x4:aj):∀n:Nat,iw x3 x4 n=λx5 x1=>(iW x3 x4 n x5 x1).bind (λx=>some (x,x4))
  |0=>rfl
  | n+1=>by
    funext x5 x1
    simp only [iw,iW,uJ x3 x4 n,d9,bV,eu,eB,eD,bW,bX,bY,uI]
def l7 [Fuel] (p1:aj):Option (List aC):=iW p1.n p1 fuel ([]:List aC) 0
theorem JV [Fuel] (p1:aj):tu p1=(l7 p1).bind λx=>some (x,p1):=by
  simp only [tu,l7,d9,bV,eu,eB,eD,bW,bX,bY,uI,uJ]
def CJ [Fuel] (p1:aj):Option ((List aC)×aj):=((bN p1).bind λx1=>(bif(decide (1073741824<=x1))then(some (([]:List aC),p1))else((bN p1).bind λx2=>((oh p1 (w64 (x2+1)) p1.id).bind λx3=>(chk (decide ((0:Int)<=(IntKind.u64.wrap x3.id))) (bif(x3.n==1)then((zR {x3 with role:=2,Di:=(Dk .i64 1 (IntKind.u64.wrap x3.id))}).bind λx4=>(some (([]:List aC),x4)))else((l7 {x3 with role:=2,Di:=(Dk .i64 1 (IntKind.u64.wrap x3.id))}).bind λx5=>(some (x5,{x3 with role:=2,Di:=(Dk .i64 1 (IntKind.u64.wrap x3.id))})))))))))
def jQ (p1:List aC) (p2 p3:Int):Option (List aC):=none
def yt (tC:(List aC)->Int->Option aL) (x1:Int) (x2:aC) (x3:List aC):Option aL:=(chk (decide ((x3.length+ [x2].length)*88<=room)) (tC (x3++ [x2]) (w64 (x1+1))))
def rF (p2:List aC) (x4:List aA) (x5:Int) (x6:aj):Nat->(List aC)->Int->Option aL|0,_,_=>none|fu1+1,x7,x1=>(bif(decide (x1<x5))then(ixL p2 x1 λx2=>(bif(decide (256<=((x7.length:Nat):Int)))then((jQ x7 0 1).bind λx8=>yt (rF p2 x4 x5 x6 fu1) x1 x2 x8)else yt (rF p2 x4 x5 x6 fu1) x1 x2 x7))else(some (⟨[x6],x7,x4⟩:aL)))
def lG [Fuel] (p1:aL) (p2:List aC):Option aL:=rF p2 p1.committed ((p2.length:Nat):Int) (p1.au.getD 0 default) fuel p1.net 0
def JW (p1:aJ) (p2:Int) (p3:aA):Option (Int×aJ):=(((bif(!((decide (p2<1))||(decide (1073741824<p2))))then JK p3 else some default)).bind λx1=>(bif(((decide (p2<1))||(decide (1073741824<p2)))||(!x1))then(some (1,p1))else(((bif(!(decide (p1.term<p2)))then dK p1 (w64 (((p1.log.length:Nat):Int) - 1))else some default)).bind λx2=>(bif((decide (p1.term<p2))||(decide (p2<x2)))then(some (20,p1))else(bif(decide (4096<=((p1.log.length:Nat):Int)))then(some (2,p1))else(chk (decide ((p1.log.length+ [(⟨p2,p3⟩:aG)].length)*80<=room)) (some (0,{p1 with log:=(p1.log++ [(⟨p2,p3⟩:aG)])}))))))))
def Zq [Fuel] (p1:aA):Option (List Int):=(bif(decide (0<9))then((BA ([]:List Int) p1.Kind).bind λx1=>(bif(decide (1<9))then((BA x1 p1.Tick).bind λx2=>(bif(decide (2<9))then((BA x2 p1.aD).bind λx3=>(bif(decide (3<9))then((BA x3 p1.Cell).bind λx4=>(bif(decide (4<9))then((BA x4 p1.Other).bind λx5=>(bif(decide (5<9))then((BA x5 p1.Epoch).bind λx6=>(bif(decide (6<9))then((BA x6 p1.From).bind λx7=>(bif(decide (7<9))then((BA x7 p1.Until).bind λx8=>(bif(decide (8<9))then((BA x8 p1.N).bind λx9=>(bif(decide (9<9))then none else(some x9)))else none))else none))else none))else none))else none))else none))else none))else none))else none)
def wS [Fuel] (p1:aJ) (p2:Int) (p3:aA):Option (Int×aJ):=((JW p1 p2 p3).bind λx1=>(bif(x1.1 !=0)then(some (x1.1,x1.2))else((Qz [2,p2]).bind λx2=>((Zq p3).bind λx3=>(chk (decide ((x2.length+x3.length)*1<=room)) ((yj x1.2 (x2++x3)).bind λx4=>(some (0,x4))))))))
def qV (bT:Int->Option aj) (x1:Int):Option aj:=bT (w64 (x1 - 1))
def qW (fH:Int->Int->Option aj) (x2 x3:Int):Option aj:=fH x3 (w64 (x2+1))
def iK (fH:Int->Int->Option aj) (x4 x2:Int) (x5:Bool):Option aj:=(bif x5 then qW fH x2 (w64 (x4+1))else qW fH x2 x4)
def gK (bT:Int->Option aj) (x1 x6:Int) (x7:aj):Nat->Int->Int->Option aj|0,_,_=>none|fu1+1,x4,x2=>(bif(decide (x2<x6))then(bif(x2==4)then(chk (!(4 !=x7.id)||decide ((0:Int)<=4/\(4:Int)<((5:Nat):Int))) (iK (gK bT x1 x6 x7 fu1) x4 x2 ((4 !=x7.id)&&(decide (x1<=x7.match_.e4)))))else(bif(x2==3)then(chk (!(3 !=x7.id)||decide ((0:Int)<=3/\(3:Int)<((5:Nat):Int))) (iK (gK bT x1 x6 x7 fu1) x4 x2 ((3 !=x7.id)&&(decide (x1<=x7.match_.e3)))))else(bif(x2==2)then(chk (!(2 !=x7.id)||decide ((0:Int)<=2/\(2:Int)<((5:Nat):Int))) (iK (gK bT x1 x6 x7 fu1) x4 x2 ((2 !=x7.id)&&(decide (x1<=x7.match_.e2)))))else(bif(x2==1)then(chk (!(1 !=x7.id)||decide ((0:Int)<=1/\(1:Int)<((5:Nat):Int))) (iK (gK bT x1 x6 x7 fu1) x4 x2 ((1 !=x7.id)&&(decide (x1<=x7.match_.e1)))))else(bif(x2==0)then(chk (!(0 !=x7.id)||decide ((0:Int)<=0/\(0:Int)<((5:Nat):Int))) (iK (gK bT x1 x6 x7 fu1) x4 x2 ((0 !=x7.id)&&(decide (x1<=x7.match_.e0)))))else none)))))else(bif(decide (x7.n<(w64 (2*x4))))then(some (⟨x7.aQ,x7.id,x7.n,x7.role,x1,x7.Di,x7.next,x7.match_⟩:aj))else qV bT x1))
def l8 [Fuel] (x8:aj):Nat->Int->Option aj|0,_=>none|fu2+1,x1=>(bif(decide (x8.commit<x1))then((dK x8.aQ (w64 (x1 - 1))).bind λx9=>((bN x8).bind λx10=>(bif(x9 !=x10)then qV (l8 x8 fu2) x1 else gK (l8 x8 fu2) x1 x8.n x8 fuel 1 0)))else(some x8))
def uV [Fuel] (p1:aj):Option aj:=((bG p1).bind λx11=>l8 p1 fuel x11)
def Dw (p1:aj) (p2:Int):Option (aG×Bool×aj):=((jP p1.aQ p2).bind λx1=>(some (x1.1,x1.2,p1)))
def oM (p1:aj) (p2:Int):Option (aG×Bool):=((jP p1.aQ p2).bind λx1=>(some (x1.1,x1.2)))
theorem QC [Fuel] (p1:aj) (p2:Int):Dw p1 p2=(oM p1 p2).bind λx=>some (x.1,x.2,p1):=by
  simp only [Dw,oM,d9,bV,eu,eB,eD,bW,bX,bY]
def lH (x1:aj):Nat->Int->(List aG)->Option ((List aG)×aj)|0,_,_=>none|fu1+1,x2,x3=>((bG x1).bind λx4=>(bif(decide (x2<x4))then((oM x1 x2).bind λx5=>(chk (decide ((x3.length+ [x5.1].length)*80<=room)) ((lH x1 fu1) (w64 (x2+1)) (x3++ [x5.1]))))else(some (x3,x1))))
def zT [Fuel] (p1:aj) (p2:Int):Option ((List aG)×aj):=lH p1 fuel p2 ([]:List aG)
def nu (x1:aj):Nat->Int->(List aG)->Option (List aG)|0,_,_=>none|fu1+1,x2,x3=>((bG x1).bind λx4=>(bif(decide (x2<x4))then((oM x1 x2).bind λx5=>(chk (decide ((x3.length+ [x5.1].length)*80<=room)) ((nu x1 fu1) (w64 (x2+1)) (x3++ [x5.1]))))else(some x3)))
theorem zA [Fuel] (x1:aj):∀n:Nat,lH x1 n=λx2 x3=>(nu x1 n x2 x3).bind (λx=>some (x,x1))
  |0=>rfl
  | n+1=>by
    funext x2 x3
    simp only [lH,nu,zA x1 n,d9,bV,eu,eB,eD,bW,bX,bY]
def je [Fuel] (p1:aj) (p2:Int):Option (List aG):=nu p1 fuel p2 ([]:List aG)
theorem NU [Fuel] (p1:aj) (p2:Int):zT p1 p2=(je p1 p2).bind λx=>some (x,p1):=by
  simp only [zT,je,d9,bV,eu,eB,eD,bW,bX,bY,zA]
def eU [Fuel] (x1:aC) (x2:aj):Option (aC×aj):=((dK x2.aQ (w64 (x1.Index - 1))).bind λx3=>((je x2 x1.Index).bind λx4=>(some ({x1 with rC:=x3,Tf:=x2.commit,Entries:=x4},x2))))
def su [Fuel] (p1:aj) (p2:Int):Option (aC×aj):=((dP p1 3 p2).bind λx5=>(bif(p2==4)then eU {x5 with Index:=p1.next.e4} p1 else(bif(p2==3)then eU {x5 with Index:=p1.next.e3} p1 else(bif(p2==2)then eU {x5 with Index:=p1.next.e2} p1 else(bif(p2==1)then eU {x5 with Index:=p1.next.e1} p1 else(bif(p2==0)then eU {x5 with Index:=p1.next.e0} p1 else none))))))
def fu [Fuel] (x1:aC) (x2:aj):Option aC:=((dK x2.aQ (w64 (x1.Index - 1))).bind λx3=>((je x2 x1.Index).bind λx4=>(some {x1 with rC:=x3,Tf:=x2.commit,Entries:=x4})))
theorem FC [Fuel] (x1:aC) (x2:aj):eU x1 x2=(fu x1 x2).bind (λx=>some (x,x2)):=by
  simp only [eU,fu,d9,bV,eu,eB,eD,bW,bX,bY]
def iy [Fuel] (p1:aj) (p2:Int):Option aC:=((dP p1 3 p2).bind λx5=>(bif(p2==4)then fu {x5 with Index:=p1.next.e4} p1 else(bif(p2==3)then fu {x5 with Index:=p1.next.e3} p1 else(bif(p2==2)then fu {x5 with Index:=p1.next.e2} p1 else(bif(p2==1)then fu {x5 with Index:=p1.next.e1} p1 else(bif(p2==0)then fu {x5 with Index:=p1.next.e0} p1 else none))))))
theorem Jh [Fuel] (p1:aj) (p2:Int):su p1 p2=(iy p1 p2).bind λx=>some (x,p1):=by
  simp only [su,iy,d9,bV,eu,eB,eD,bW,bX,bY,FC]
def iF (lI:(List aC)->Int->Option ((List aC)×aj)) (x1:Int) (x2:List aC):Option ((List aC)×aj):=lI x2 (w64 (x1+1))
def gB [Fuel] (x3:Int) (x4:aj):Nat->(List aC)->Int->Option ((List aC)×aj)|0,_,_=>none|fu1+1,x5,x1=>(bif(decide (x1<x3))then(bif(x1 !=x4.id)then((iy x4 x1).bind λx6=>(chk (decide ((x5.length+ [x6].length)*88<=room)) (iF (gB x3 x4 fu1) x1 (x5++ [x6]))))else iF (gB x3 x4 fu1) x1 x5)else(some (x5,x4)))
def ql [Fuel] (p1:aj):Option ((List aC)×aj):=gB p1.n p1 fuel ([]:List aC) 0
def jv (iN:(List aC)->Int->Option (List aC)) (x1:Int) (x2:List aC):Option (List aC):=iN x2 (w64 (x1+1))
theorem rG [Fuel] (G:(List aC)->Option ((List aC)×aj)) (iN:(List aC)->Int->Option (List aC)) (x1:Int) (x2:List aC):iF (λy1 y2=>(iN y1 y2).bind G) x1 x2=(jv iN x1 x2).bind G:=by
  simp only [iF,jv,d9,bV,eu,eB,eD,bW,bX,bY]
def gX [Fuel] (x3:Int) (x4:aj):Nat->(List aC)->Int->Option (List aC)|0,_,_=>none|fu1+1,x5,x1=>(bif(decide (x1<x3))then(bif(x1 !=x4.id)then((iy x4 x1).bind λx6=>(chk (decide ((x5.length+ [x6].length)*88<=room)) (jv (gX x3 x4 fu1) x1 (x5++ [x6]))))else jv (gX x3 x4 fu1) x1 x5)else(some x5))
theorem rH [Fuel] (x3:Int) (x4:aj):∀n:Nat,gB x3 x4 n=λx5 x1=>(gX x3 x4 n x5 x1).bind (λx=>some (x,x4))
  |0=>rfl
  | n+1=>by
    funext x5 x1
    simp only [gB,gX,rH x3 x4 n,d9,bV,eu,eB,eD,bW,bX,bY,rG]
def fI [Fuel] (p1:aj):Option (List aC):=gX p1.n p1 fuel ([]:List aC) 0
theorem Hf [Fuel] (p1:aj):ql p1=(fI p1).bind λx=>some (x,p1):=by
  simp only [ql,fI,d9,bV,eu,eB,eD,bW,bX,bY,rG,rH]
def Dx [Fuel] (p1:aj) (p2:aA):Option ((List aC)×Int×aj):=(bif(p1.role !=3)then(some (([]:List aC),4,p1))else((bN p1).bind λx1=>((wS p1.aQ x1 p2).bind λx2=>(bif(x2.1 !=0)then(some (([]:List aC),x2.1,{p1 with aQ:=x2.2}))else((sP x2.2).bind λx3=>((uV {p1 with aQ:=x3}).bind λx4=>((fI x4).bind λx5=>(some (x5,0,x4)))))))))
def zU [Fuel] (p1:aj):Option ((List aC)×aj):=(bif(p1.role !=3)then(some (([]:List aC),p1))else((fI p1).bind λx1=>(some (x1,p1))))
def qF [Fuel] (p1:aj):Option (List aC):=(bif(p1.role !=3)then(some ([]:List aC))else((fI p1).bind λx1=>(some x1)))
theorem NV [Fuel] (p1:aj):zU p1=(qF p1).bind λx=>some (x,p1):=by
  simp only [zU,qF,d9,bV,eu,eB,eD,bW,bX,bY]
def sQ (p1:aL) (p2:Int):Option aL:=((jQ p1.net p2 (w64 (p2+1))).bind λx1=>(some (⟨[(p1.au.getD 0 default)],x1,p1.committed⟩:aL)))
def uW (p1:aC) (x1:List aG) (x2:Int):Nat->Int->Int->Option Bool|0,_,_=>none|fu1+1,x3,x4=>(bif(decide (x4<x2))then(ixL x1 x4 λx5=>((JK x5.Entry).bind λx6=>(bif(((!x6)||(decide (x5.Term<x3)))||(decide (p1.Term<x5.Term)))then(some false)else(uW p1 x1 x2 fu1) x5.Term (w64 (x4+1)))))else(some true))
def zV [Fuel] (p1:aC):Option Bool:=(bif((!((p1.rC==0)==(p1.Index==0)))||(decide (4096<(w64 (p1.Index+((p1.Entries.length:Nat):Int))))))then(some false)else uW p1 p1.Entries ((p1.Entries.length:Nat):Int) fuel (UE 1 p1.rC) 0)
def iZ [Fuel] (p2:aC) (x1:Int) (x2:Bool) (x3:aj):Option (Bool×aj):=(bif x2 then(some (true,x3))else(bif(x1==3)then((zV p2).bind λx4=>(some (x4,x3)))else(some (false,x3))))
def wU [Fuel] (p1:aj) (p2:aC):Option (Bool×aj):=(bif((((((((((((p2.To !=p1.id)||(p2.From==p1.id))||(decide (p2.From<0)))||(decide (p1.n<=p2.From)))||(decide (p2.Term<1)))||(decide (1073741824<p2.Term)))||(decide (p2.Index<0)))||(decide (4096<p2.Index)))||(decide (p2.rC<0)))||(decide (p2.Term<p2.rC)))||(decide (p2.Tf<0)))||(decide (4096<p2.Tf)))then(some (false,p1))else(bif(p2.Kind==1)then iZ p2 p2.Kind (p2.Kind==1) p1 else(bif(p2.Kind==2)then iZ p2 p2.Kind (p2.Kind==2) p1 else iZ p2 p2.Kind (p2.Kind==4) p1)))
def jA [Fuel] (p2:aC) (x1:Int) (x2:Bool):Option Bool:=(bif x2 then(some true)else(bif(x1==3)then((zV p2).bind λx4=>(some x4))else(some false)))
theorem Ji [Fuel] (p2:aC) (x1:Int) (x2:Bool) (x3:aj):iZ p2 x1 x2 x3=(jA p2 x1 x2).bind (λx=>some (x,x3)):=by
  simp only [iZ,jA,d9,bV,eu,eB,eD,bW,bX,bY]
def oo [Fuel] (p1:aj) (p2:aC):Option Bool:=(bif((((((((((((p2.To !=p1.id)||(p2.From==p1.id))||(decide (p2.From<0)))||(decide (p1.n<=p2.From)))||(decide (p2.Term<1)))||(decide (1073741824<p2.Term)))||(decide (p2.Index<0)))||(decide (4096<p2.Index)))||(decide (p2.rC<0)))||(decide (p2.Term<p2.rC)))||(decide (p2.Tf<0)))||(decide (4096<p2.Tf)))then(some false)else(bif(p2.Kind==1)then jA p2 p2.Kind (p2.Kind==1)else(bif(p2.Kind==2)then jA p2 p2.Kind (p2.Kind==2)else jA p2 p2.Kind (p2.Kind==4))))
theorem LZ [Fuel] (p1:aj) (p2:aC):wU p1 p2=(oo p1 p2).bind λx=>some (x,p1):=by
  simp only [wU,oo,d9,bV,eu,eB,eD,bW,bX,bY,Ji]
def zW (p1:aJ):Option (Int×aJ):=(some (p1.RH,p1))
def mF (p1:aJ):Option Int:=(some p1.RH)
theorem NW [Fuel] (p1:aJ):zW p1=(mF p1).bind λx=>some (x,p1):=by
  simp only [zW,mF,d9,bV,eu,eB,eD,bW,bX,bY]
def zX (p1:aj):Option (Int×aj):=((mF p1.aQ).bind λx1=>(some (x1,p1)))
def mG (p1:aj):Option Int:=((mF p1.aQ).bind λx1=>(some x1))
theorem NY [Fuel] (p1:aj):zX p1=(mG p1).bind λx=>some (x,p1):=by
  simp only [zX,mG,d9,bV,eu,eB,eD,bW,bX,bY]
def oI (x1:aC) (x2:aj):Option ((List aC)×aj):=(some ([x1],x2))
def zB [Fuel] (p1:aj) (p2:aC):Option ((List aC)×aj):=((iJ p1).bind λx3=>((mG p1).bind λx4=>(((bif(!(x4==(-1)))then mG p1 else some default)).bind λx5=>(((bif((!(decide (x3<p2.rC)))&&(p2.rC==x3))then bG p1 else some default)).bind λx6=>((dP p1 2 p2.From).bind λx7=>((bN p1).bind λx8=>(bif(((p2.Term==x8)&&((x4==(-1))||(x5==p2.From)))&&((decide (x3<p2.rC))||((p2.rC==x3)&&(decide (x6<=p2.Index)))))then((oh p1 p2.Term p2.From).bind λx9=>oI {x7 with OK:=true} x9)else oI x7 p1)))))))
def nM [Fuel] (x1:Int) (x2:aj):Nat->Int->Int->Option ((List aC)×aj)|0,_,_=>none|fu1+1,x3,x4=>(bif(decide (x4<x1))then(chk (decide ((0:Int)<=(IntKind.u64.wrap x4))) ((nM x1 x2 fu1) (w64 (x3+(jN .i64 (oK .i64 x2.Di (IntKind.u64.wrap x4)) 1))) (w64 (x4+1))))else(bif(decide ((w64 (2*x3))<=x2.n))then(some (([]:List aC),x2))else((zR x2).bind λx5=>((fI x5).bind λx6=>(some (x6,x5))))))
def yu [Fuel] (p1:aj) (p2:aC):Option ((List aC)×aj):=(((bif(!(p1.role !=2))then bN p1 else some default)).bind λx7=>(bif(((p1.role !=2)||(p2.Term !=x7))||(!p2.OK))then(some (([]:List aC),p1))else(chk (decide ((0:Int)<=(IntKind.u64.wrap p2.From))) (nM p1.n {p1 with Di:=(orK .i64 p1.Di (Dk .i64 1 (IntKind.u64.wrap p2.From)))} fuel 0 0))))
def wV (p1:aj) (p2 p3:Int) (p4:Bool):Option ((List aC)×aj):=((dP p1 4 p2).bind λx1=>(some ([{x1 with Index:=p3,OK:=p4}],p1)))
def jo (p1:aj) (p2 p3:Int) (p4:Bool):Option (List aC):=((dP p1 4 p2).bind λx1=>(some [{x1 with Index:=p3,OK:=p4}]))
theorem L6 [Fuel] (p1:aj) (p2 p3:Int) (p4:Bool):wV p1 p2 p3 p4=(jo p1 p2 p3 p4).bind λx=>some (x,p1):=by
  simp only [wV,jo,d9,bV,eu,eB,eD,bW,bX,bY]
def BS (p1:aJ) (p2:Int):Option (Int×aJ):=none
def rJ (p1:aJ) (p2:Int):Option Int:=none
theorem PK [Fuel] (p1:aJ) (p2:Int):BS p1 p2=(rJ p1 p2).bind λx=>some (x,p1):=by
  simp only [BS,rJ,d9,bV,eu,eB,eD,bW,bX,bY]
def qX [Fuel] (p3:List aG) (x1 x2 x3 x4 x5 x6 x7 x8 x9 x10 x11 x12 x13 x14 x15 x16:Int):Nat->Int->Int->(List aG)->aZ->Int->Option aj|0,_,_,_,_,_=>none|fu1+1,x17,x18,x19,x20,x21=>(bif(decide (x21<x16))then(ixL p3 x21 λx22=>((wS (⟨x20,x17,x18,x19⟩:aJ) x22.Term x22.Entry).bind λx23=>(qX p3 x1 x2 x3 x4 x5 x6 x7 x8 x9 x10 x11 x12 x13 x14 x15 x16 fu1) x23.2.term x23.2.RH x23.2.log x23.2.uw (w64 (x21+1))))else((sP (⟨x20,x17,x18,x19⟩:aJ)).bind λx24=>(some (⟨x24,x1,x2,x3,x4,x5,⟨x6,x7,x8,x9,x10⟩,⟨x11,x12,x13,x14,x15⟩⟩:aj))))
def qY [Fuel] (p3:List aG) (x25:aj):Option aj:=qX p3 x25.id x25.n x25.role x25.commit x25.Di x25.next.e0 x25.next.e1 x25.next.e2 x25.next.e3 x25.next.e4 x25.match_.e0 x25.match_.e1 x25.match_.e2 x25.match_.e3 x25.match_.e4 ((p3.length:Nat):Int) fuel x25.aQ.term x25.aQ.RH x25.aQ.log x25.aQ.uw 0
def Dy [Fuel] (p1:aj) (p2:Int) (p3:List aG):Option aj:=((bG p1).bind λx26=>(bif(decide (p2<x26))then((rJ p1.aQ p2).bind λx27=>qY p3 p1)else qY p3 p1))
def mJ (p2:aC) (x1:aj):Option ((List aC)×aj):=((jo (⟨x1.aQ,x1.id,x1.n,x1.role,(UE x1.commit (Qk p2.Tf (w64 (p2.Index+((p2.Entries.length:Nat):Int))))),x1.Di,x1.next,x1.match_⟩:aj) p2.From (w64 (p2.Index+((p2.Entries.length:Nat):Int))) true).bind λx2=>(some (x2,(⟨x1.aQ,x1.id,x1.n,x1.role,(UE x1.commit (Qk p2.Tf (w64 (p2.Index+((p2.Entries.length:Nat):Int))))),x1.Di,x1.next,x1.match_⟩:aj))))
def mK [Fuel] (p2:aC) (x3:aj):Nat->Int->Option ((List aC)×aj)|0,_=>none|fu1+1,x4=>(((bif(decide (x4<((p2.Entries.length:Nat):Int)))then dK x3.aQ (w64 (p2.Index+x4))else some default)).bind λx5=>(ixG (decide (x4<((p2.Entries.length:Nat):Int))) p2.Entries x4 λx6=>(bif((decide (x4<((p2.Entries.length:Nat):Int)))&&(x5==x6.Term))then(mK p2 x3 fu1) (w64 (x4+1))else(bif(decide (x4<((p2.Entries.length:Nat):Int)))then(bif(decide ((w64 (p2.Index+x4))<x3.commit))then(some (([]:List aC),x3))else(chk (decide (0<=x4/\x4<=((p2.Entries.length:Nat):Int)/\((p2.Entries.length:Nat):Int)<=((p2.Entries.length:Nat):Int))) ((Dy x3 (w64 (p2.Index+x4)) (p2.Entries.drop (Int.toNat x4))).bind λx7=>mJ p2 x7)))else mJ p2 x3))))
def xD [Fuel] (p1:aj) (p2:aC):Option ((List aC)×aj):=((bN p1).bind λx8=>(bif(decide (p2.Term<x8))then((jo p1 p2.From 0 false).bind λx9=>(some (x9,p1)))else(bif(p1.role==3)then(some (([]:List aC),p1))else((bG {p1 with role:=1}).bind λx10=>(((bif((!(decide (x10<p2.Index)))&&(decide (0<p2.Index)))then dK p1.aQ (w64 (p2.Index - 1))else some default)).bind λx11=>(bif((decide (x10<p2.Index))||((decide (0<p2.Index))&&(x11 !=p2.rC)))then((bG {p1 with role:=1}).bind λx12=>((jo {p1 with role:=1} p2.From (Qk x12 (w64 (p2.Index - 1))) false).bind λx13=>(some (x13,{p1 with role:=1}))))else mK p2 {p1 with role:=1} fuel 0))))))
def fT [Fuel] (x1:aC) (x2:aj):Option ((List aC)×aj):=((iy x2 x1.From).bind λx3=>(some ([x3],x2)))
def mM (x4:aj):Option ((List aC)×aj):=(some (([]:List aC),x4))
def fU [Fuel] (x5:aj):Option ((List aC)×aj):=((uV x5).bind λx6=>mM x6)
def fV [Fuel] (x7:aC) (x8:aj):Option ((List aC)×aj):=(bif(x7.From==4)then fU (⟨x8.aQ,x8.id,x8.n,x8.role,x8.commit,x8.Di,⟨x8.next.e0,x8.next.e1,x8.next.e2,x8.next.e3,x8.match_.e4⟩,x8.match_⟩:aj)else(bif(x7.From==3)then fU (⟨x8.aQ,x8.id,x8.n,x8.role,x8.commit,x8.Di,⟨x8.next.e0,x8.next.e1,x8.next.e2,x8.match_.e3,x8.next.e4⟩,x8.match_⟩:aj)else(bif(x7.From==2)then fU (⟨x8.aQ,x8.id,x8.n,x8.role,x8.commit,x8.Di,⟨x8.next.e0,x8.next.e1,x8.match_.e2,x8.next.e3,x8.next.e4⟩,x8.match_⟩:aj)else(bif(x7.From==1)then fU (⟨x8.aQ,x8.id,x8.n,x8.role,x8.commit,x8.Di,⟨x8.next.e0,x8.match_.e1,x8.next.e2,x8.next.e3,x8.next.e4⟩,x8.match_⟩:aj)else(bif(x7.From==0)then fU (⟨x8.aQ,x8.id,x8.n,x8.role,x8.commit,x8.Di,⟨x8.match_.e0,x8.next.e1,x8.next.e2,x8.next.e3,x8.next.e4⟩,x8.match_⟩:aj)else none)))))
def xE [Fuel] (p1:aj) (p2:aC):Option ((List aC)×aj):=(((bif(!(p1.role !=3))then bN p1 else some default)).bind λx9=>(bif((p1.role !=3)||(p2.Term !=x9))then(some (([]:List aC),p1))else(bif(!p2.OK)then(bif(p2.From==4)then fT {p2 with From:=4} {p1 with next:={p1.next with e4:=(UE 0 (Qk (w64 (p1.next.e4 - 1)) p2.Index))}}else(bif(p2.From==3)then fT {p2 with From:=3} {p1 with next:={p1.next with e3:=(UE 0 (Qk (w64 (p1.next.e3 - 1)) p2.Index))}}else(bif(p2.From==2)then fT {p2 with From:=2} {p1 with next:={p1.next with e2:=(UE 0 (Qk (w64 (p1.next.e2 - 1)) p2.Index))}}else(bif(p2.From==1)then fT {p2 with From:=1} {p1 with next:={p1.next with e1:=(UE 0 (Qk (w64 (p1.next.e1 - 1)) p2.Index))}}else(bif(p2.From==0)then fT {p2 with From:=0} {p1 with next:={p1.next with e0:=(UE 0 (Qk (w64 (p1.next.e0 - 1)) p2.Index))}}else none)))))else((bG p1).bind λx10=>(bif(decide (p2.Index<=x10))then(bif(p2.From==4)then fV {p2 with From:=4} {p1 with match_:={p1.match_ with e4:=(UE p1.match_.e4 p2.Index)}}else(bif(p2.From==3)then fV {p2 with From:=3} {p1 with match_:={p1.match_ with e3:=(UE p1.match_.e3 p2.Index)}}else(bif(p2.From==2)then fV {p2 with From:=2} {p1 with match_:={p1.match_ with e2:=(UE p1.match_.e2 p2.Index)}}else(bif(p2.From==1)then fV {p2 with From:=1} {p1 with match_:={p1.match_ with e1:=(UE p1.match_.e1 p2.Index)}}else(bif(p2.From==0)then fV {p2 with From:=0} {p1 with match_:={p1.match_ with e0:=(UE p1.match_.e0 p2.Index)}}else none)))))else mM p1)))))
def sD [Fuel] (p2:aC) (x1:aj):Option ((List aC)×aj):=(bif(p2.Kind==1)then((zB x1 p2).bind λx2=>(some (x2.1,x2.2)))else(bif(p2.Kind==2)then((yu x1 p2).bind λx3=>(some (x3.1,x3.2)))else(bif(p2.Kind==3)then((xD x1 p2).bind λx4=>(some (x4.1,x4.2)))else(bif(p2.Kind==4)then((xE x1 p2).bind λx5=>(some (x5.1,x5.2)))else(some (([]:List aC),x1))))))
def qG [Fuel] (p1:aj) (p2:aC):Option ((List aC)×aj):=((oo p1 p2).bind λx6=>(bif(!x6)then(some (([]:List aC),p1))else((bN p1).bind λx7=>(bif(decide (x7<p2.Term))then((oh p1 p2.Term (-1)).bind λx8=>sD p2 {x8 with role:=1})else sD p2 p1))))
def yw (p1:aJ) (p2:Int):Option aJ:=none
def pG (p1:aJ) (p2:Int):Option Unit:=none
theorem MI [Fuel] (p1:aJ) (p2:Int):yw p1 p2=(pG p1 p2).bind λx=>some p1:=by
  simp only [yw,pG,d9,bV,eu,eB,eD,bW,bX,bY]
def Hg (p1:aj) (p2:Int):Option aj:=((pG p1.aQ p2).bind λx1=>(some {p1 with role:=1,commit:=0}))
def wW (p1:aj):Option (Int×aj):=(some (p1.commit,p1))
def gD (p1:aj):Option Int:=(some p1.commit)
theorem L8 [Fuel] (p1:aj):wW p1=(gD p1).bind λx=>some (x,p1):=by
  simp only [wW,gD,d9,bV,eu,eB,eD,bW,bX,bY]
def BU [Fuel] (p1:aj):Option ((List aG)×aj):=((je p1 0).bind λx1=>(some (x1,p1)))
def kP [Fuel] (p1:aj):Option (List aG):=((je p1 0).bind λx1=>(some x1))
theorem PL [Fuel] (p1:aj):BU p1=(kP p1).bind λx=>some (x,p1):=by
  simp only [BU,kP,d9,bV,eu,eB,eD,bW,bX,bY]
def yx (x1 x2:Int) (x3:aL):Option aL:=(bif(decide ((w64 (x2+1))<x1))then none else(some x3))
def yA (x4 x5:Int) (x6:List aG) (x7:Int) (x8:aL):Nat->(List aA)->Int->Option aL|0,_,_=>none|fu1+1,x9,x10=>(bif(decide (x10<x7))then(ixL x6 x10 λx11=>(chk (decide ((x9.length+ [x11.Entry].length)*72<=room)) ((yA x4 x5 x6 x7 x8 fu1) (x9++ [x11.Entry]) (w64 (x10+1)))))else yx x4 x5 (⟨[(x8.au.getD 0 default)],x8.net,x9⟩:aL))
def Dz [Fuel] (p1:aL):Option aL:=(bif(decide (0<1))then((gD (p1.au.getD 0 default)).bind λx12=>(bif(decide (x12<=((p1.committed.length:Nat):Int)))then yx 1 0 {p1 with au:= [(p1.au.getD 0 default)]}else((gD (p1.au.getD 0 default)).bind λx13=>(chk (decide ((0:Int)<=0/\(0:Int)<=x13/\(x13:Int)<=9223372036854775807/\(x13:Int)*72<=140737488355328)) ((kP (p1.au.getD 0 default)).bind λx14=>((gD (p1.au.getD 0 default)).bind λx15=>(chk (decide (0<=x15/\x15<=((x14.length:Nat):Int))) (yA 1 0 (x14.take (Int.toNat x15)) (((x14.take (Int.toNat x15)).length:Nat):Int) {p1 with au:= [(p1.au.getD 0 default)]} fuel (List.replicate (Int.toNat 0) (default:aA)) 0))))))))else none)
def iO [Fuel] (x1:aL):Option (Int×aL):=((Dz x1).bind λx2=>(some (0,{x2 with au:= [(x2.au.getD 0 default)]})))
def Iu [Fuel] (p1:aL) (p2:gF):Option (Int×aL):=((nk {p1 with au:= [(p1.au.getD 0 default)]} p2).bind λx3=>(bif(!x3)then(some (1,{p1 with au:= [(p1.au.getD 0 default)]}))else(bif(p2.Kind==1)then(bif(p2.Who==0)then((CJ (p1.au.getD 0 default)).bind λx4=>((lG {p1 with au:= [x4.2]} x4.1).bind λx5=>iO {x5 with au:= [(x5.au.getD 0 default)]}))else none)else(bif(p2.Kind==2)then(bif(p2.Who==0)then((Dx (p1.au.getD 0 default) p2.Entry).bind λx6=>(bif(x6.2.1 !=0)then(some (x6.2.1,{p1 with au:= [x6.2.2]}))else((lG {p1 with au:= [x6.2.2]} x6.1).bind λx7=>iO {x7 with au:= [(x7.au.getD 0 default)]})))else none)else(bif(p2.Kind==3)then(bif(p2.Who==0)then((qF (p1.au.getD 0 default)).bind λx8=>((lG {p1 with au:= [(p1.au.getD 0 default)]} x8).bind λx9=>iO {x9 with au:= [(x9.au.getD 0 default)]}))else none)else(bif(p2.Kind==4)then(ixL p1.net p2.N λx10=>((sQ {p1 with au:= [(p1.au.getD 0 default)]} p2.N).bind λx11=>(bif(x10.To==0)then((qG (x11.au.getD 0 default) {x10 with To:=0}).bind λx12=>((lG {x11 with au:= [x12.2]} x12.1).bind λx13=>iO {x13 with au:= [(x13.au.getD 0 default)]}))else none)))else(bif(p2.Kind==5)then(ixL p1.net p2.N λx14=>(bif(x14.To==0)then((qG (p1.au.getD 0 default) {x14 with To:=0}).bind λx15=>((lG {p1 with au:= [x15.2]} x15.1).bind λx16=>iO {x16 with au:= [(x16.au.getD 0 default)]}))else none))else(bif(p2.Kind==6)then((sQ {p1 with au:= [(p1.au.getD 0 default)]} p2.N).bind λx17=>iO {x17 with au:= [(x17.au.getD 0 default)]})else(bif(p2.Kind==7)then(bif(p2.Who==0)then((Hg (p1.au.getD 0 default) p2.N).bind λx18=>iO {p1 with au:= [x18]})else none)else iO {p1 with au:= [(p1.au.getD 0 default)]})))))))))
def qH [Fuel] (p2:Int):Nat->(List aC)->(List aA)->Int->Int->Int->Int->Int->Int->Int->Int->Int->Int->Int->Int->Int->Int->Int->Int->Int->(List aG)->aZ->Int->Option (Int×aL)|0,_,_,_,_,_,_,_,_,_,_,_,_,_,_,_,_,_,_,_,_,_,_=>none|fu1+1,x1,x2,x3,x4,x5,x6,x7,x8,x9,x10,x11,x12,x13,x14,x15,x16,x17,x18,x19,x20,x21,x22=>(bif((decide (0<((x1.length:Nat):Int)))&&(decide (x22<5000)))then(ixL x1 0 λx23=>((sQ (⟨[⟨⟨x21,x18,x19,x20⟩,x3,x4,x5,x6,x7,⟨x8,x9,x10,x11,x12⟩,⟨x13,x14,x15,x16,x17⟩⟩],x1,x2⟩:aL) 0).bind λx24=>(chk (decide ((0:Int)<=(IntKind.u64.wrap x23.From))) (chk (!(!((jN .i64 (oK .i64 p2 (IntKind.u64.wrap x23.From)) 1)==0))||decide ((0:Int)<=(IntKind.u64.wrap x23.To))) (bif(((jN .i64 (oK .i64 p2 (IntKind.u64.wrap x23.From)) 1)==0)||((jN .i64 (oK .i64 p2 (IntKind.u64.wrap x23.To)) 1)==0))then(qH p2 fu1) x24.net x24.committed ((x24.au.getD 0 default).id) ((x24.au.getD 0 default).n) ((x24.au.getD 0 default).role) ((x24.au.getD 0 default).commit) ((x24.au.getD 0 default).Di) ((x24.au.getD 0 default).next.e0) ((x24.au.getD 0 default).next.e1) ((x24.au.getD 0 default).next.e2) ((x24.au.getD 0 default).next.e3) ((x24.au.getD 0 default).next.e4) ((x24.au.getD 0 default).match_.e0) ((x24.au.getD 0 default).match_.e1) ((x24.au.getD 0 default).match_.e2) ((x24.au.getD 0 default).match_.e3) ((x24.au.getD 0 default).match_.e4) ((x24.au.getD 0 default).aQ.term) ((x24.au.getD 0 default).aQ.RH) ((x24.au.getD 0 default).aQ.log) ((x24.au.getD 0 default).aQ.uw) x22 else(bif(x23.To==0)then((qG (x24.au.getD 0 default) {x23 with To:=0}).bind λx25=>((lG {x24 with au:= [x25.2]} x25.1).bind λx26=>((Dz {x26 with au:= [(x26.au.getD 0 default)]}).bind λx27=>(qH p2 fu1) x27.net x27.committed ((x27.au.getD 0 default).id) ((x27.au.getD 0 default).n) ((x27.au.getD 0 default).role) ((x27.au.getD 0 default).commit) ((x27.au.getD 0 default).Di) ((x27.au.getD 0 default).next.e0) ((x27.au.getD 0 default).next.e1) ((x27.au.getD 0 default).next.e2) ((x27.au.getD 0 default).next.e3) ((x27.au.getD 0 default).next.e4) ((x27.au.getD 0 default).match_.e0) ((x27.au.getD 0 default).match_.e1) ((x27.au.getD 0 default).match_.e2) ((x27.au.getD 0 default).match_.e3) ((x27.au.getD 0 default).match_.e4) ((x27.au.getD 0 default).aQ.term) ((x27.au.getD 0 default).aQ.RH) ((x27.au.getD 0 default).aQ.log) ((x27.au.getD 0 default).aQ.uw) (w64 (x22+1)))))else none))))))else(some (x22,(⟨[⟨⟨x21,x18,x19,x20⟩,x3,x4,x5,x6,x7,⟨x8,x9,x10,x11,x12⟩,⟨x13,x14,x15,x16,x17⟩⟩],x1,x2⟩:aL))))
def BX [Fuel] (p1:aL) (p2:Int):Option (Int×aL):=qH p2 fuel p1.net p1.committed ((p1.au.getD 0 default).id) ((p1.au.getD 0 default).n) ((p1.au.getD 0 default).role) ((p1.au.getD 0 default).commit) ((p1.au.getD 0 default).Di) ((p1.au.getD 0 default).next.e0) ((p1.au.getD 0 default).next.e1) ((p1.au.getD 0 default).next.e2) ((p1.au.getD 0 default).next.e3) ((p1.au.getD 0 default).next.e4) ((p1.au.getD 0 default).match_.e0) ((p1.au.getD 0 default).match_.e1) ((p1.au.getD 0 default).match_.e2) ((p1.au.getD 0 default).match_.e3) ((p1.au.getD 0 default).match_.e4) ((p1.au.getD 0 default).aQ.term) ((p1.au.getD 0 default).aQ.RH) ((p1.au.getD 0 default).aQ.log) ((p1.au.getD 0 default).aQ.uw) 0
def zY (p1:aL) (p2:Int):Option (Int×aL):=((iL {p1 with au:= [(p1.au.getD 0 default)]} p2).bind λx1=>(bif(!x1)then(some (0,{p1 with au:= [(p1.au.getD 0 default)]}))else(bif(p2==0)then((gD (p1.au.getD 0 default)).bind λx2=>(some (x2,{p1 with au:= [(p1.au.getD 0 default)]})))else none)))
def qI (p1:aL) (p2:Int):Option Int:=((iL {p1 with au:= [(p1.au.getD 0 default)]} p2).bind λx1=>(bif(!x1)then(some 0)else(bif(p2==0)then((gD (p1.au.getD 0 default)).bind λx2=>(some x2))else none)))
theorem NZ [Fuel] (p1:aL) (p2:Int):zY p1 p2=(qI p1 p2).bind λx=>some (x,{p1 with au:= [(p1.au.getD 0 default)]}):=by
  simp only [zY,qI,d9,bV,eu,eB,eD,bW,bX,bY]
def FD [Fuel] (p1:aL) (p2:Int):Option ((List aG)×aL):=((iL {p1 with au:= [(p1.au.getD 0 default)]} p2).bind λx1=>(bif(!x1)then(some (([]:List aG),{p1 with au:= [(p1.au.getD 0 default)]}))else(bif(p2==0)then((kP (p1.au.getD 0 default)).bind λx2=>(some (x2,{p1 with au:= [(p1.au.getD 0 default)]})))else none)))
def qm [Fuel] (p1:aL) (p2:Int):Option (List aG):=((iL {p1 with au:= [(p1.au.getD 0 default)]} p2).bind λx1=>(bif(!x1)then(some ([]:List aG))else(bif(p2==0)then((kP (p1.au.getD 0 default)).bind λx2=>(some x2))else none)))
theorem SB [Fuel] (p1:aL) (p2:Int):FD p1 p2=(qm p1 p2).bind λx=>some (x,{p1 with au:= [(p1.au.getD 0 default)]}):=by
  simp only [FD,qm,d9,bV,eu,eB,eD,bW,bX,bY]
def mO (jf:Int->Int->Int->Int->Option (Int×aV)) (x1 x2 x3 x4:Int):Option (Int×aV):=jf x1 x2 x3 (w64 (x4+1))
def qo (jf:Int->Int->Int->Int->Option (Int×aV)) (x5 x6 x7 x8:Int) (x9:List aG) (x10 x11:Int):Option (Int×aV):=(bif((decide (x6<x10))||((x10==x6)&&(decide (x7<((x9.length:Nat):Int)))))then mO jf x8 x10 ((x9.length:Nat):Int) x11 else mO jf x5 x6 x7 x11)
def kM [Fuel] (x12:Int) (x13:aV):Nat->Int->Int->Int->Int->Option (Int×aV)|0,_,_,_,_=>none|fu1+1,x5,x6,x7,x8=>(bif(decide (x8<x12))then((og x13 x8).bind λx14=>(bif(!x14)then mO (kM x12 x13 fu1) x5 x6 x7 x8 else((qm x13.net x8).bind λx9=>(bif(decide (0<((x9.length:Nat):Int)))then(ixL x9 (w64 (((x9.length:Nat):Int) - 1)) λx15=>qo (kM x12 x13 fu1) x5 x6 x7 x8 x9 x15.Term x8)else qo (kM x12 x13 fu1) x5 x6 x7 x8 x9 0 x8))))else(some (x5,x13)))
def Iw [Fuel] (p1:aV):Option (Int×aV):=kM ((p1.config.bO.length:Nat):Int) {p1 with net:={p1.net with au:= [(p1.net.au.getD 0 default)]}} fuel (-1) (-1) (-1) 0
def nN (eF:Int->Int->Int->Int->Option Int) (x1 x2 x3 x4:Int):Option Int:=eF x1 x2 x3 (w64 (x4+1))
theorem wX [Fuel] (G:Int->Option (Int×aV)) (eF:Int->Int->Int->Int->Option Int) (x1 x2 x3 x4:Int):mO (λy1 y2 y3 y4=>(eF y1 y2 y3 y4).bind G) x1 x2 x3 x4=(nN eF x1 x2 x3 x4).bind G:=by
  simp only [mO,nN,d9,bV,eu,eB,eD,bW,bX,bY]
def rM (eF:Int->Int->Int->Int->Option Int) (x5 x6 x7 x8:Int) (x9:List aG) (x10 x11:Int):Option Int:=(bif((decide (x6<x10))||((x10==x6)&&(decide (x7<((x9.length:Nat):Int)))))then nN eF x8 x10 ((x9.length:Nat):Int) x11 else nN eF x5 x6 x7 x11)
theorem EN [Fuel] (G:Int->Option (Int×aV)) (eF:Int->Int->Int->Int->Option Int) (x5 x6 x7 x8:Int) (x9:List aG) (x10 x11:Int):qo (λy1 y2 y3 y4=>(eF y1 y2 y3 y4).bind G) x5 x6 x7 x8 x9 x10 x11=(rM eF x5 x6 x7 x8 x9 x10 x11).bind G:=by
  simp only [qo,rM,d9,bV,eu,eB,eD,bW,bX,bY,wX]
def kQ [Fuel] (x12:Int) (x13:aV):Nat->Int->Int->Int->Int->Option Int|0,_,_,_,_=>none|fu1+1,x5,x6,x7,x8=>(bif(decide (x8<x12))then((og x13 x8).bind λx14=>(bif(!x14)then nN (kQ x12 x13 fu1) x5 x6 x7 x8 else((qm x13.net x8).bind λx9=>(bif(decide (0<((x9.length:Nat):Int)))then(ixL x9 (w64 (((x9.length:Nat):Int) - 1)) λx15=>rM (kQ x12 x13 fu1) x5 x6 x7 x8 x9 x15.Term x8)else rM (kQ x12 x13 fu1) x5 x6 x7 x8 x9 0 x8))))else(some x5))
theorem EO [Fuel] (x12:Int) (x13:aV):∀n:Nat,kM x12 x13 n=λx5 x6 x7 x8=>(kQ x12 x13 n x5 x6 x7 x8).bind (λx=>some (x,x13))
  |0=>rfl
  | n+1=>by
    funext x5 x6 x7 x8
    simp only [kM,kQ,EO x12 x13 n,d9,bV,eu,eB,eD,bW,bX,bY,EN,wX]
def xG [Fuel] (p1:aV):Option Int:=kQ ((p1.config.bO.length:Nat):Int) {p1 with net:={p1.net with au:= [(p1.net.au.getD 0 default)]}} fuel (-1) (-1) (-1) 0
theorem Ug [Fuel] (p1:aV):Iw p1=(xG p1).bind λx=>some (x,{p1 with net:={p1.net with au:= [(p1.net.au.getD 0 default)]}}):=by
  simp only [Iw,xG,d9,bV,eu,eB,eD,bW,bX,bY,EN,wX,EO]
def yB [Fuel] (tF:(List aC)->(List aA)->Int->Int->Int->Int->Int->Int->Int->Int->Int->Int->Int->Int->Int->Int->Int->Int->Int->(List aG)->aZ->Int->Option (Bool×aV)) (x1 x2:Int) (x3:Bool) (x4:aV):Option (Bool×aV):=(bif x3 then((BX x4.net x4.up).bind λx5=>((qI {x5.2 with au:= [(x5.2.au.getD 0 default)]} x2).bind λx6=>(some ((decide (x4.state.Count<x6)),(⟨x4.config,{x5.2 with au:= [(x5.2.au.getD 0 default)]},x4.up,x4.state⟩:aV)))))else((xG x4).bind λx7=>((Iu x4.net (⟨1,x7,0,⟨0,0,0,0,0,0,0,0,0⟩⟩:gF)).bind λx8=>((BX {x8.2 with au:= [(x8.2.au.getD 0 default)]} x4.up).bind λx9=>tF x9.2.net x9.2.committed ((x9.2.au.getD 0 default).id) ((x9.2.au.getD 0 default).n) ((x9.2.au.getD 0 default).role) ((x9.2.au.getD 0 default).commit) ((x9.2.au.getD 0 default).Di) ((x9.2.au.getD 0 default).next.e0) ((x9.2.au.getD 0 default).next.e1) ((x9.2.au.getD 0 default).next.e2) ((x9.2.au.getD 0 default).next.e3) ((x9.2.au.getD 0 default).next.e4) ((x9.2.au.getD 0 default).match_.e0) ((x9.2.au.getD 0 default).match_.e1) ((x9.2.au.getD 0 default).match_.e2) ((x9.2.au.getD 0 default).match_.e3) ((x9.2.au.getD 0 default).match_.e4) ((x9.2.au.getD 0 default).aQ.term) ((x9.2.au.getD 0 default).aQ.RH) ((x9.2.au.getD 0 default).aQ.log) ((x9.2.au.getD 0 default).aQ.uw) (w64 (x1+1))))))
def rO [Fuel] (p2:aA) (x10:Int) (x11:List dn) (x12:List cu) (x13:List aW) (x14:List aY) (x15 x16:List Int) (x17 x18 x19 x20 x21 x22:Int) (x23:List ay) (x24:List aH) (x25 x26 x27 x28:Int):Nat->(List aC)->(List aA)->Int->Int->Int->Int->Int->Int->Int->Int->Int->Int->Int->Int->Int->Int->Int->Int->Int->(List aG)->aZ->Int->Option (Bool×aV)|0,_,_,_,_,_,_,_,_,_,_,_,_,_,_,_,_,_,_,_,_,_,_=>none|fu1+1,x29,x30,x31,x32,x33,x34,x35,x36,x37,x38,x39,x40,x41,x42,x43,x44,x45,x46,x47,x48,x49,x1=>(bif(decide (x1<4))then((IW (⟨[⟨⟨x49,x46,x47,x48⟩,x31,x32,x33,x34,x35,⟨x36,x37,x38,x39,x40⟩,⟨x41,x42,x43,x44,x45⟩⟩],x29,x30⟩:aL)).bind λx50=>((og (⟨⟨x10,x11,x12,x13,x14,x15,x16,x17,x18,x19⟩,{x50.2 with au:= [(x50.2.au.getD 0 default)]},x20,⟨x21,x22,x23,x24,x25,x26,x27,x28⟩⟩:aV) x50.1).bind λx51=>(bif x51 then((Iu {x50.2 with au:= [(x50.2.au.getD 0 default)]} (⟨2,x50.1,0,p2⟩:gF)).bind λx52=>yB (rO p2 x10 x11 x12 x13 x14 x15 x16 x17 x18 x19 x20 x21 x22 x23 x24 x25 x26 x27 x28 fu1) x1 x50.1 (x52.1==0) (⟨⟨x10,x11,x12,x13,x14,x15,x16,x17,x18,x19⟩,{x52.2 with au:= [(x52.2.au.getD 0 default)]},x20,⟨x21,x22,x23,x24,x25,x26,x27,x28⟩⟩:aV))else yB (rO p2 x10 x11 x12 x13 x14 x15 x16 x17 x18 x19 x20 x21 x22 x23 x24 x25 x26 x27 x28 fu1) x1 x50.1 false (⟨⟨x10,x11,x12,x13,x14,x15,x16,x17,x18,x19⟩,{x50.2 with au:= [(x50.2.au.getD 0 default)]},x20,⟨x21,x22,x23,x24,x25,x26,x27,x28⟩⟩:aV))))else(some (false,(⟨⟨x10,x11,x12,x13,x14,x15,x16,x17,x18,x19⟩,⟨[⟨⟨x49,x46,x47,x48⟩,x31,x32,x33,x34,x35,⟨x36,x37,x38,x39,x40⟩,⟨x41,x42,x43,x44,x45⟩⟩],x29,x30⟩,x20,⟨x21,x22,x23,x24,x25,x26,x27,x28⟩⟩:aV))))
def Ld [Fuel] (p1:aV) (p2:aA):Option (Bool×aV):=rO p2 p1.config.bK p1.config.kW p1.config.Cells p1.config.ah p1.config.bf p1.config.bO p1.config.cO p1.config.BM p1.config.Lease p1.config.Uz p1.up p1.state.Tick p1.state.Count p1.state.ah p1.state.Cells p1.state.jY p1.state.bg p1.state.Low p1.state.High fuel p1.net.net p1.net.committed ((p1.net.au.getD 0 default).id) ((p1.net.au.getD 0 default).n) ((p1.net.au.getD 0 default).role) ((p1.net.au.getD 0 default).commit) ((p1.net.au.getD 0 default).Di) ((p1.net.au.getD 0 default).next.e0) ((p1.net.au.getD 0 default).next.e1) ((p1.net.au.getD 0 default).next.e2) ((p1.net.au.getD 0 default).next.e3) ((p1.net.au.getD 0 default).next.e4) ((p1.net.au.getD 0 default).match_.e0) ((p1.net.au.getD 0 default).match_.e1) ((p1.net.au.getD 0 default).match_.e2) ((p1.net.au.getD 0 default).match_.e3) ((p1.net.au.getD 0 default).match_.e4) ((p1.net.au.getD 0 default).aQ.term) ((p1.net.au.getD 0 default).aQ.RH) ((p1.net.au.getD 0 default).aQ.log) ((p1.net.au.getD 0 default).aQ.uw) 0
def JX [Fuel] (p1:aV) (p2:aA):Option (Int×Int×aV):=((uR {p1 with net:={p1.net with au:= [(p1.net.au.getD 0 default)]}}).bind λx1=>(bif(!x1)then(some (0,16,{p1 with net:={p1.net with au:= [(p1.net.au.getD 0 default)]}}))else((Fz p1.config p1.state p2).bind λx2=>(bif(x2.2 !=0)then(some (0,x2.2,{p1 with net:={p1.net with au:= [(p1.net.au.getD 0 default)]}}))else((Ld {p1 with net:={p1.net with au:= [(p1.net.au.getD 0 default)]}} p2).bind λx3=>(bif(!x3.1)then(some (0,16,{x3.2 with net:={x3.2.net with au:= [(x3.2.net.au.getD 0 default)]}}))else(some (x3.2.state.Count,0,{x3.2 with net:={x3.2.net with au:= [(x3.2.net.au.getD 0 default)]},state:=x2.1}))))))))
def DC (x1:xW):Option (Bool×xW):=(some (true,x1))
def DF [Fuel] (p1:xW) (p2:aA):Option (Bool×xW):=((JX {p1.p with net:={p1.p.net with au:= [(p1.p.net.au.getD 0 default)]}} p2).bind λx2=>(bif(x2.2.1 !=0)then(some (false,{p1 with p:={x2.2.2 with net:={x2.2.2.net with au:= [(x2.2.2.net.au.getD 0 default)]}},copies:= [[((p1.copies.getD 0 default).getD 0 default),((p1.copies.getD 0 default).getD 1 default)]]}))else(bif(p2.Kind==2)then(chk (decide ((p1.granted.length+ [(⟨p2.aD,x2.1,{p2 with Version:=p2.N}⟩:bE)].length)*56<=room)) (DC {p1 with p:={x2.2.2 with net:={x2.2.2.net with au:= [(x2.2.2.net.au.getD 0 default)]}},copies:= [[((p1.copies.getD 0 default).getD 0 default),((p1.copies.getD 0 default).getD 1 default)]],granted:=(p1.granted++ [(⟨p2.aD,x2.1,{p2 with Version:=p2.N}⟩:bE)])}))else DC {p1 with p:={x2.2.2 with net:={x2.2.2.net with au:= [(x2.2.2.net.au.getD 0 default)]}},copies:= [[((p1.copies.getD 0 default).getD 0 default),((p1.copies.getD 0 default).getD 1 default)]]})))
def N7 (p1 p2:Int):Option Int:=(chk (decide (p2≠(0:Int))) (chk (decide (p2≠(0:Int))) (some (Int.tmod (w64 ((Int.tmod p1 p2)+p2)) p2))))
def abM (p1:aT):Option Bool:=(some ((((((((decide (1<=p1.Epoch))&&(decide (p1.Epoch<=1048576)))&&(decide (0<=p1.Version)))&&(decide (p1.Version<30)))&&(decide (0<=p1.From)))&&(decide (p1.From<=1073741824)))&&(decide (p1.From<p1.Until)))&&(decide (p1.Until<=1073743824))))
def cmp_isNaN_int (p1:Int):Option Bool:=(some (p1 !=p1))
def cmp_Compare_int (p1 p2:Int):Option Int:=((cmp_isNaN_int p1).bind λx1=>((cmp_isNaN_int p2).bind λx2=>(bif x1 then(bif x2 then(some 0)else(some (-1)))else(bif x2 then(some 1)else(bif(decide (p1<p2))then(some (-1))else(bif(decide (p2<p1))then(some 1)else(some 0)))))))
def uX (p1:List Int) (x1 x2:Int):Nat->Int->Option Int|0,_=>none|fu1+1,x3=>(bif(decide (x3<x2))then(ixL p1 x3 λx4=>(bif(x4 !=x1)then(some x4)else(uX p1 x1 x2 fu1) (w64 (x3+1))))else(some x1))
def JC [Fuel] (p1:(List Int)):Option Int:=uX p1 0 ((p1.length:Nat):Int) fuel 0
def QD [Fuel] (p1 p2:aT):Option Int:=((cmp_Compare_int p1.From p2.From).bind λx1=>((cmp_Compare_int p1.Epoch p2.Epoch).bind λx2=>((cmp_Compare_int p1.Until p2.Until).bind λx3=>((cmp_Compare_int p1.Version p2.Version).bind λx4=>((JC [x1,x2,x3,x4]).bind λx5=>(some x5))))))
def dh [Fuel] (p1:List aT) (p2:aT) (x1:Int):Nat->Int->Int->Option (Int×Bool)|0,_,_=>none|fu1+1,x2,x3=>(bif(decide (x2<x3))then(ixL p1 (IntKind.i64.wrap (oK .u64 (IntKind.u64.wrap (w64 (x2+x3))) 1)) λx4=>((QD x4 p2).bind λx5=>(bif(decide (x5<0))then(dh p1 p2 x1 fu1) (w64 ((IntKind.i64.wrap (oK .u64 (IntKind.u64.wrap (w64 (x2+x3))) 1))+1)) x3 else(dh p1 p2 x1 fu1) x2 (IntKind.i64.wrap (oK .u64 (IntKind.u64.wrap (w64 (x2+x3))) 1)))))else(ixG (decide (x2<x1)) p1 x2 λx6=>(((bif(decide (x2<x1))then QD x6 p2 else some default)).bind λx7=>(some (x2,((decide (x2<x1))&&(x7==0)))))))
def iT [Fuel] (p1:List aT) (p2:aT):Option (Int×Bool):=dh p1 p2 ((p1.length:Nat):Int) fuel 0 ((p1.length:Nat):Int)
def qp (p1:List aT) (p2:Int) (p3:List aT):Option (List aT):=(chk (decide (0<=p2/\p2<=((p1.length:Nat):Int)/\((p1.length:Nat):Int)<=((p1.length:Nat):Int))) (bif(((p3.length:Nat):Int)==0)then(some p1)else(bif(p2==((p1.length:Nat):Int))then(chk (decide ((p1.length+p3.length)*40<=room)) (some (p1++p3)))else none)))
def FE (x1:bU):Option (Int×bU):=(some (0,x1))
def L9 [Fuel] (p1:bU) (p2:aT):Option (Int×bU):=((abM p2).bind λx2=>(bif(!x2)then(some (1,p1))else(bif(p2.Cell !=p1.cell)then(some (5,p1))else(bif(decide (p2.Epoch<=p1.closed))then(some (7,p1))else((iT p1.windows p2).bind λx3=>(bif(!x3.2)then((qp p1.windows x3.1 [p2]).bind λx4=>FE {p1 with windows:=x4})else FE p1))))))
def QE [Fuel] (p1:xW) (p2:Int):Option xW:=(bif(((p1.granted.length:Nat):Int)==0)then(some {p1 with p:={p1.p with net:={p1.p.net with au:= [(p1.p.net.au.getD 0 default)]}},copies:= [[((p1.copies.getD 0 default).getD 0 default),((p1.copies.getD 0 default).getD 1 default)]]})else((N7 p2 ((p1.granted.length:Nat):Int)).bind λx1=>(ixL p1.granted x1 λx2=>(bif(x2.aD==0)then(bif(x2.Window.Cell==1)then((oH ((p1.copies.getD 0 default).getD 1 default)).bind λx3=>((L9 (((p1.copies.getD 0 default).getD 1 default).gate) {x2.Window with Cell:=1}).bind λx4=>(some {p1 with p:={p1.p with net:={p1.p.net with au:= [(p1.p.net.au.getD 0 default)]}},copies:= [[((p1.copies.getD 0 default).getD 0 default),{((p1.copies.getD 0 default).getD 1 default)with gate:=x4.2}]]})))else(bif(x2.Window.Cell==0)then((oH ((p1.copies.getD 0 default).getD 0 default)).bind λx5=>((L9 (((p1.copies.getD 0 default).getD 0 default).gate) {x2.Window with Cell:=0}).bind λx6=>(some {p1 with p:={p1.p with net:={p1.p.net with au:= [(p1.p.net.au.getD 0 default)]}},copies:= [[{((p1.copies.getD 0 default).getD 0 default)with gate:=x6.2},((p1.copies.getD 0 default).getD 1 default)]]})))else none))else none))))
def RY (p1:ByteArray):Option Bool:=(some ((decide (1<=((p1.size:Nat):Int)))&&(decide (((p1.size:Nat):Int)<=16))))
def QF (p1:ByteArray):Option Bool:=(some (decide (((p1.size:Nat):Int)<=64)))
def abN (p1:bJ):Option Bool:=(bif((((decide (p1.aD<0))||(decide (32<=p1.aD)))||(decide (p1.Client<1)))||(decide (8<p1.Client)))then(some false)else(bif(p1.Op==1)then(((bif((p1.Number==0)&&(p1.Item==0))then RY p1.Key else some default)).bind λx1=>(some ((((p1.Number==0)&&(p1.Item==0))&&x1)&&(p1.Value.toList==ByteArray.empty.toList))))else(bif(p1.Op==2)then(((bif(((decide (1<=p1.Number))&&(decide (p1.Number<=1048576)))&&(p1.Item==0))then RY p1.Key else some default)).bind λx2=>(((bif((((decide (1<=p1.Number))&&(decide (p1.Number<=1048576)))&&(p1.Item==0))&&x2)then QF p1.Value else some default)).bind λx3=>(some (((((decide (1<=p1.Number))&&(decide (p1.Number<=1048576)))&&(p1.Item==0))&&x2)&&x3))))else(bif(p1.Op==3)then(((bif(((decide (1<=p1.Number))&&(decide (p1.Number<=1048576)))&&(p1.Item==0))then RY p1.Key else some default)).bind λx4=>(some (((((decide (1<=p1.Number))&&(decide (p1.Number<=1048576)))&&(p1.Item==0))&&x4)&&(p1.Value.toList==ByteArray.empty.toList))))else(bif(p1.Op==4)then(((bif((((decide (1<=p1.Number))&&(decide (p1.Number<=1048576)))&&(p1.Item==0))&&(p1.Key.toList==ByteArray.empty.toList))then QF p1.Value else some default)).bind λx5=>(some (((((decide (1<=p1.Number))&&(decide (p1.Number<=1048576)))&&(p1.Item==0))&&(p1.Key.toList==ByteArray.empty.toList))&&x5)))else(bif(p1.Op==5)then(some ((((p1.Number==0)&&(p1.Item==0))&&(p1.Key.toList==ByteArray.empty.toList))&&(p1.Value.toList==ByteArray.empty.toList)))else(bif(p1.Op==6)then(some ((((((decide (1<=p1.Number))&&(decide (p1.Number<=1048576)))&&(decide (1<=p1.Item)))&&(decide (p1.Item<=4096)))&&(p1.Key.toList==ByteArray.empty.toList))&&(p1.Value.toList==ByteArray.empty.toList)))else(some false))))))))
def oP (uY:Int->Int->Option (Int×Bool×bU)) (x1 x2:Int):Option (Int×Bool×bU):=uY x2 (w64 (x1+1))
def lT (p1:bU) (p2 p3 x3:Int):Nat->Int->Int->Option (Int×Bool×bU)|0,_,_=>none|fu1+1,x4,x1=>(bif(decide (x1<x3))then(ixL p1.windows x1 λx5=>(bif(((x5.Version==p2)&&(decide (x5.From<=p3)))&&(decide (p3<x5.Until)))then oP (lT p1 p2 p3 x3 fu1) x1 (UE x4 x5.Epoch)else oP (lT p1 p2 p3 x3 fu1) x1 x4))else(some (x4,(decide (0<x4)),p1)))
def FI [Fuel] (p1:bU) (p2 p3:Int):Option (Int×Bool×bU):=lT p1 p2 p3 ((p1.windows.length:Nat):Int) fuel 0 0
def qJ (ny:Int->Int->Option (Int×Bool)) (x1 x2:Int):Option (Int×Bool):=ny x2 (w64 (x1+1))
theorem DI [Fuel] (G:(Int×Bool)->Option (Int×Bool×bU)) (ny:Int->Int->Option (Int×Bool)) (x1 x2:Int):oP (λy1 y2=>(ny y1 y2).bind G) x1 x2=(qJ ny x1 x2).bind G:=by
  simp only [oP,qJ,d9,bV,eu,eB,eD,bW,bX,bY]
def mH (p1:bU) (p2 p3 x3:Int):Nat->Int->Int->Option (Int×Bool)|0,_,_=>none|fu1+1,x4,x1=>(bif(decide (x1<x3))then(ixL p1.windows x1 λx5=>(bif(((x5.Version==p2)&&(decide (x5.From<=p3)))&&(decide (p3<x5.Until)))then qJ (mH p1 p2 p3 x3 fu1) x1 (UE x4 x5.Epoch)else qJ (mH p1 p2 p3 x3 fu1) x1 x4))else(some (x4,(decide (0<x4)))))
theorem DJ [Fuel] (p1:bU) (p2 p3 x3:Int):∀n:Nat,lT p1 p2 p3 x3 n=λx4 x1=>(mH p1 p2 p3 x3 n x4 x1).bind (λx=>some (x.1,x.2,p1))
  |0=>rfl
  | n+1=>by
    funext x4 x1
    simp only [lT,mH,DJ p1 p2 p3 x3 n,d9,bV,eu,eB,eD,bW,bX,bY,DI]
def uZ [Fuel] (p1:bU) (p2 p3:Int):Option (Int×Bool):=mH p1 p2 p3 ((p1.windows.length:Nat):Int) fuel 0 0
theorem SE [Fuel] (p1:bU) (p2 p3:Int):FI p1 p2 p3=(uZ p1 p2 p3).bind λx=>some (x.1,x.2,p1):=by
  simp only [FI,uZ,d9,bV,eu,eB,eD,bW,bX,bY,DI,DJ]
def JY (p1:dN):Option (Int×dN):=(bif(((p1.history.length:Nat):Int)==0)then(some (0,p1))else(ixL p1.history (w64 (((p1.history.length:Nat):Int) - 1)) λx1=>(some (x1.Epoch,p1))))
def tH (p1:dN):Option Int:=(bif(((p1.history.length:Nat):Int)==0)then(some 0)else(ixL p1.history (w64 (((p1.history.length:Nat):Int) - 1)) λx1=>(some x1.Epoch)))
theorem U7 [Fuel] (p1:dN):JY p1=(tH p1).bind λx=>some (x,p1):=by
  simp only [JY,tH,d9,bV,eu,eB,eD,bW,bX,bY]
def JZ (p1:dM) (p2:ByteArray):Option (ByteArray×Int×Bool×dM):=(chk (p1.values.isEmpty) (some (ByteArray.empty,0,false,p1)))
def qd (p1:dM) (p2:ByteArray):Option (ByteArray×Int×Bool):=(chk (p1.values.isEmpty) (some (ByteArray.empty,0,false)))
theorem U8 [Fuel] (p1:dM) (p2:ByteArray):JZ p1 p2=(qd p1 p2).bind λx=>some (x.1,x.2.1,x.2.2,p1):=by
  simp only [JZ,qd,d9,bV,eu,eB,eD,bW,bX,bY]
def fA (p1:aM) (p3:Int) (x1:bQ):Option (eP×Int×aM):=(bif(p3==(w64 (x1.number+1)))then(some ((⟨0,0,0,ByteArray.empty⟩:eP),34,p1))else(bif(p3==x1.number)then(some (x1.reply,0,p1))else(some ((⟨0,0,0,ByteArray.empty⟩:eP),32,p1))))
def DK (p1:aM) (p2 p3:Int):Option (eP×Int×aM):=(bif((((decide (p2<1))||(decide (8<p2)))||(decide (p3<1)))||(decide (1048576<p3)))then(some ((⟨0,0,0,ByteArray.empty⟩:eP),1,p1))else(bif(p2==8)then fA p1 p3 p1.sessions.e7 else(bif(p2==7)then fA p1 p3 p1.sessions.e6 else(bif(p2==6)then fA p1 p3 p1.sessions.e5 else(bif(p2==5)then fA p1 p3 p1.sessions.e4 else(bif(p2==4)then fA p1 p3 p1.sessions.e3 else(bif(p2==3)then fA p1 p3 p1.sessions.e2 else(bif(p2==2)then fA p1 p3 p1.sessions.e1 else(bif(p2==1)then fA p1 p3 p1.sessions.e0 else(bif(p2==0)then none else none))))))))))
def eY (p3:Int) (x1:bQ):Option (eP×Int):=(bif(p3==(w64 (x1.number+1)))then(some ((⟨0,0,0,ByteArray.empty⟩:eP),34))else(bif(p3==x1.number)then(some (x1.reply,0))else(some ((⟨0,0,0,ByteArray.empty⟩:eP),32))))
theorem MJ [Fuel] (p1:aM) (p3:Int) (x1:bQ):fA p1 p3 x1=(eY p3 x1).bind (λx=>some (x.1,x.2,p1)):=by
  simp only [fA,eY,d9,bV,eu,eB,eD,bW,bX,bY]
def oQ (p1:aM) (p2 p3:Int):Option (eP×Int):=(bif((((decide (p2<1))||(decide (8<p2)))||(decide (p3<1)))||(decide (1048576<p3)))then(some ((⟨0,0,0,ByteArray.empty⟩:eP),1))else(bif(p2==8)then eY p3 p1.sessions.e7 else(bif(p2==7)then eY p3 p1.sessions.e6 else(bif(p2==6)then eY p3 p1.sessions.e5 else(bif(p2==5)then eY p3 p1.sessions.e4 else(bif(p2==4)then eY p3 p1.sessions.e3 else(bif(p2==3)then eY p3 p1.sessions.e2 else(bif(p2==2)then eY p3 p1.sessions.e1 else(bif(p2==1)then eY p3 p1.sessions.e0 else(bif(p2==0)then none else none))))))))))
theorem QG [Fuel] (p1:aM) (p2 p3:Int):DK p1 p2 p3=(oQ p1 p2 p3).bind λx=>some (x.1,x.2,p1):=by
  simp only [DK,oQ,d9,bV,eu,eB,eD,bW,bX,bY,MJ]
def N8 (p1:dN):Option (Int×dN):=(some (((p1.history.length:Nat):Int),p1))
def tJ (p1:dN):Option Int:=(some ((p1.history.length:Nat):Int))
theorem X7 [Fuel] (p1:dN):N8 p1=(tJ p1).bind λx=>some (x,p1):=by
  simp only [N8,tJ,d9,bV,eu,eB,eD,bW,bX,bY]
def Iy (p1:dM):Option ((List ByteArray)×dM):=(chk (p1.values.isEmpty) (some ([],p1)))
def rP (p1:dM):Option (List ByteArray):=(chk (p1.values.isEmpty) (some []))
theorem Uh [Fuel] (p1:dM):Iy p1=(rP p1).bind λx=>some (x,p1):=by
  simp only [Iy,rP,d9,bV,eu,eB,eD,bW,bX,bY]
def jV (p1:(List bP)):Option (List bP):=(chk (decide ((([]:List bP).length+p1.length)*24<=room)) (some (([]:List bP)++p1)))
def FJ (p1:aO):Option ((List bP)×aO):=((jV p1.items).bind λx1=>(some (x1,p1)))
def kN (p1:aO):Option (List bP):=((jV p1.items).bind λx1=>(some x1))
theorem SF [Fuel] (p1:aO):FJ p1=(kN p1).bind λx=>some (x,p1):=by
  simp only [FJ,kN,d9,bV,eu,eB,eD,bW,bX,bY]
def yC (p1:bP) (p2:bJ):Option (Bool×bJ):=(some ((p1.Number==p2.Item),p2))
def lJ (p1:bP) (p2:bJ):Option Bool:=(some (p1.Number==p2.Item))
theorem MK [Fuel] (p1:bP) (p2:bJ):yC p1 p2=(lJ p1 p2).bind λx=>some (x,p2):=by
  simp only [yC,lJ,d9,bV,eu,eB,eD,bW,bX,bY]
def fK (p1:List bP) (p2:bJ) (x1:Int):Nat->Int->Option (Int×bJ)|0,_=>none|fu1+1,x2=>(bif(decide (x2<x1))then(ixL p1 x2 λx3=>((lJ x3 p2).bind λx4=>(bif x4 then(some (x2,p2))else(fK p1 p2 x1 fu1) (w64 (x2+1)))))else(some ((-1),p2)))
def kX [Fuel] (p1:List bP) (p2:bJ):Option (Int×bJ):=fK p1 p2 ((p1.length:Nat):Int) fuel 0
def gM (p1:List bP) (p2:bJ) (x1:Int):Nat->Int->Option Int|0,_=>none|fu1+1,x2=>(bif(decide (x2<x1))then(ixL p1 x2 λx3=>((lJ x3 p2).bind λx4=>(bif x4 then(some x2)else(gM p1 p2 x1 fu1) (w64 (x2+1)))))else(some (-1)))
theorem mU [Fuel] (p1:List bP) (p2:bJ) (x1:Int):∀n:Nat,fK p1 p2 x1 n=λx2=>(gM p1 p2 x1 n x2).bind (λx=>some (x,p2))
  |0=>rfl
  | n+1=>by
    funext x2
    simp only [fK,gM,mU p1 p2 x1 n,d9,bV,eu,eB,eD,bW,bX,bY]
def fP [Fuel] (p1:List bP) (p2:bJ):Option Int:=gM p1 p2 ((p1.length:Nat):Int) fuel 0
theorem zZ [Fuel] (p1:List bP) (p2:bJ):kX p1 p2=(fP p1 p2).bind λx=>some (x,p2):=by
  simp only [kX,fP,d9,bV,eu,eB,eD,bW,bX,bY,mU]
def jR [Fuel] (p1:List bP) (p2:bJ):Option (Bool×bJ):=((fP p1 p2).bind λx1=>(some ((decide (0<=x1)),p2)))
def fC [Fuel] (p1:List bP) (p2:bJ):Option Bool:=((fP p1 p2).bind λx1=>(some (decide (0<=x1))))
theorem xO [Fuel] (p1:List bP) (p2:bJ):jR p1 p2=(fC p1 p2).bind λx=>some (x,p2):=by
  simp only [jR,fC,d9,bV,eu,eB,eD,bW,bX,bY]
def WB (p1:bH) (p2 p3:Int):Option Bool:=(some ((p1.Epoch==p2)&&(decide (p3<p1.Until))))
def oU (p1:aO) (p2 p3 p4 p5:Int) (x1:List bH) (x2:Int):Nat->Int->Option (Bool×aO)|0,_=>none|fu1+1,x3=>(bif(decide (x3<x2))then(ixL x1 x3 λx4=>(((bif((x4.Item==p4)&&(x4.Client==p2))then WB x4 p3 p5 else some default)).bind λx5=>(bif(((x4.Item==p4)&&(x4.Client==p2))&&x5)then(some (true,p1))else(oU p1 p2 p3 p4 p5 x1 x2 fu1) (w64 (x3+1)))))else(some (false,p1)))
def FK [Fuel] (p1:aO) (p2 p3 p4 p5:Int):Option (Bool×aO):=oU p1 p2 p3 p4 p5 p1.Dl ((p1.Dl.length:Nat):Int) fuel 0
def qK (p2 p3 p4 p5:Int) (x1:List bH) (x2:Int):Nat->Int->Option Bool|0,_=>none|fu1+1,x3=>(bif(decide (x3<x2))then(ixL x1 x3 λx4=>(((bif((x4.Item==p4)&&(x4.Client==p2))then WB x4 p3 p5 else some default)).bind λx5=>(bif(((x4.Item==p4)&&(x4.Client==p2))&&x5)then(some true)else(qK p2 p3 p4 p5 x1 x2 fu1) (w64 (x3+1)))))else(some false))
theorem DL [Fuel] (p1:aO) (p2 p3 p4 p5:Int) (x1:List bH) (x2:Int):∀n:Nat,oU p1 p2 p3 p4 p5 x1 x2 n=λx3=>(qK p2 p3 p4 p5 x1 x2 n x3).bind (λx=>some (x,p1))
  |0=>rfl
  | n+1=>by
    funext x3
    simp only [oU,qK,DL p1 p2 p3 p4 p5 x1 x2 n,d9,bV,eu,eB,eD,bW,bX,bY]
def qw [Fuel] (p1:aO) (p2 p3 p4 p5:Int):Option Bool:=qK p2 p3 p4 p5 p1.Dl ((p1.Dl.length:Nat):Int) fuel 0
theorem SG [Fuel] (p1:aO) (p2 p3 p4 p5:Int):FK p1 p2 p3 p4 p5=(qw p1 p2 p3 p4 p5).bind λx=>some (x,p1):=by
  simp only [FK,qw,d9,bV,eu,eB,eD,bW,bX,bY,DL]
def BZ [Fuel] (p1:dN) (p2 p3:Int) (p4:bJ):Option (Int×Int×dN):=((qd p1.now.Store p4.Key).bind λx1=>(bif(p4.Op==2)then(((bif(!x1.2.2)then rP p1.now.Store else some default)).bind λx2=>(bif((!x1.2.2)&&(decide (32<=((x2.length:Nat):Int))))then(some (0,33,p1))else(some (1,0,p1))))else(bif(p4.Op==3)then(bif(!x1.2.2)then(some (0,34,p1))else(some (2,0,p1)))else(bif(p4.Op==4)then((kN p1.now.Queue).bind λx3=>(bif(decide (16<=((x3.length:Nat):Int)))then(some (0,33,p1))else(some (3,0,p1))))else((kN p1.now.Queue).bind λx4=>((fC x4 p4).bind λx5=>(bif(!x5)then(some (0,34,p1))else((qw p1.now.Queue p4.Client p2 p4.Item p3).bind λx6=>(bif(!x6)then(some (0,35,p1))else(some (4,0,p1)))))))))))
def rQ [Fuel] (p1:dN) (p2 p3:Int) (p4:bJ):Option (Int×Int):=((qd p1.now.Store p4.Key).bind λx1=>(bif(p4.Op==2)then(((bif(!x1.2.2)then rP p1.now.Store else some default)).bind λx2=>(bif((!x1.2.2)&&(decide (32<=((x2.length:Nat):Int))))then(some (0,33))else(some (1,0))))else(bif(p4.Op==3)then(bif(!x1.2.2)then(some (0,34))else(some (2,0)))else(bif(p4.Op==4)then((kN p1.now.Queue).bind λx3=>(bif(decide (16<=((x3.length:Nat):Int)))then(some (0,33))else(some (3,0))))else((kN p1.now.Queue).bind λx4=>((fC x4 p4).bind λx5=>(bif(!x5)then(some (0,34))else((qw p1.now.Queue p4.Client p2 p4.Item p3).bind λx6=>(bif(!x6)then(some (0,35))else(some (4,0)))))))))))
theorem PN [Fuel] (p1:dN) (p2 p3:Int) (p4:bJ):BZ p1 p2 p3 p4=(rQ p1 p2 p3 p4).bind λx=>some (x.1,x.2,p1):=by
  simp only [BZ,rQ,d9,bV,eu,eB,eD,bW,bX,bY]
def Ui (p1:ByteArray):Option Bool:=(some ((decide (1<=((p1.size:Nat):Int)))&&(decide (((p1.size:Nat):Int)<=16))))
def N9 (p1:ByteArray):Option Bool:=(some (decide (((p1.size:Nat):Int)<=64)))
def J2 (p1:aU):Option Bool:=(bif((((((((decide (p1.Epoch<1))||(decide (1048576<p1.Epoch)))||(decide (p1.Seq<1)))||(decide (4096<p1.Seq)))||(decide (p1.Client<1)))||(decide (8<p1.Client)))||(decide (p1.Number<1)))||(decide (1048576<p1.Number)))then(some false)else(bif(p1.Kind==1)then((Ui p1.Key).bind λx1=>(((bif x1 then N9 p1.Value else some default)).bind λx2=>(some ((x1&&x2)&&(p1.Item==0)))))else(bif(p1.Kind==2)then((Ui p1.Key).bind λx3=>(some ((x3&&(p1.Value.toList==ByteArray.empty.toList))&&(p1.Item==0))))else(bif(p1.Kind==3)then(((bif(p1.Key.toList==ByteArray.empty.toList)then N9 p1.Value else some default)).bind λx4=>(some (((p1.Key.toList==ByteArray.empty.toList)&&x4)&&(p1.Item==0))))else(bif(p1.Kind==4)then(some ((((p1.Key.toList==ByteArray.empty.toList)&&(p1.Value.toList==ByteArray.empty.toList))&&(decide (1<=p1.Item)))&&(decide (p1.Item<p1.Seq))))else(some false))))))
def iU (p1:(List (Value×Value))):Option ((List (Value×Value))×(List (Value×Value))):=(some (p1,p1))
def O6 (p1:dM):Option (dM×dM):=((iU p1.values).bind λx1=>(some ((⟨x1.1⟩:dM),(⟨x1.2⟩:dM))))
def sK (p1:(List bH)):Option (List bH):=(chk (decide ((([]:List bH).length+p1.length)*32<=room)) (some (([]:List bH)++p1)))
def O7 (p1:aO):Option (aO×aO):=((jV p1.items).bind λx1=>((sK p1.Dl).bind λx2=>(some ((⟨x1,x2,p1.greatest⟩:aO),p1))))
def DN (p1:aM):Option (aM×aM):=(some (p1,p1))
def sS (p1:aM):Option aM:=(some p1)
theorem QH [Fuel] (p1:aM):DN p1=(sS p1).bind λx=>some (x,p1):=by
  simp only [DN,sS,d9,bV,eu,eB,eD,bW,bX,bY]
def QI (p1:oL):Option (oL×dM×aO×aM):=((O6 p1.Store).bind λx1=>((O7 p1.Queue).bind λx2=>((sS p1.Table).bind λx3=>(some ((⟨x1.1,x2.1,x3⟩:oL),x1.2,x2.2,p1.Table)))))
def qL (x1:aM):Option (Int×aM):=(some (0,x1))
def J3 (p1:aM) (p2:aU):Option (Int×aM):=((J2 p2).bind λx2=>(bif(!x2)then(some (1,p1))else(bif(p2.Client==1)then(bif(p2.Number !=(w64 (p1.sessions.e0.number+1)))then(some (32,p1))else(bif(p2.Kind==3)then qL (⟨{p1.sessions with e0:=(⟨p2.Number,⟨0,p2.Seq,p2.Seq,ByteArray.empty⟩⟩:bQ)}⟩:aM)else(bif(p2.Kind==4)then qL (⟨{p1.sessions with e0:=(⟨p2.Number,⟨0,p2.Seq,p2.Item,ByteArray.empty⟩⟩:bQ)}⟩:aM)else qL (⟨{p1.sessions with e0:=(⟨p2.Number,⟨0,p2.Seq,0,ByteArray.empty⟩⟩:bQ)}⟩:aM))))else none)))
def z8 (x1:(List (Value×Value))):Option (Int×dM):=(some (0,(⟨x1⟩:dM)))
def ML (p1:dM) (p2:aU):Option (Int×dM):=((J2 p2).bind λx2=>(bif(!x2)then(some (1,p1))else(chk (p1.values.isEmpty) (bif(p2.Kind==1)then(bif((!false)&&(decide (32<=((p1.values.length:Nat):Int))))then(some (33,p1))else(chk (p1.values.isEmpty) (z8 [(Value.string p2.Key,Value.agg #[Value.string p2.Value,Value.int .i64 p2.Seq])])))else(bif(p2.Kind==2)then(bif(!false)then(some (34,p1))else none)else z8 p1.values)))))
def Ca (p1:bP) (p2:aU):Option (Bool×aU):=(some ((p1.Number==p2.Item),p2))
def nO (p1:bP) (p2:aU):Option Bool:=(some (p1.Number==p2.Item))
theorem PO [Fuel] (p1:bP) (p2:aU):Ca p1 p2=(nO p1 p2).bind λx=>some (x,p2):=by
  simp only [Ca,nO,d9,bV,eu,eB,eD,bW,bX,bY]
def eX (p1:List bP) (p2:aU) (x1:Int):Nat->Int->Option (Int×aU)|0,_=>none|fu1+1,x2=>(bif(decide (x2<x1))then(ixL p1 x2 λx3=>((nO x3 p2).bind λx4=>(bif x4 then(some (x2,p2))else(eX p1 p2 x1 fu1) (w64 (x2+1)))))else(some ((-1),p2)))
def jS [Fuel] (p1:List bP) (p2:aU):Option (Int×aU):=eX p1 p2 ((p1.length:Nat):Int) fuel 0
def gq (p1:List bP) (p2:aU) (x1:Int):Nat->Int->Option Int|0,_=>none|fu1+1,x2=>(bif(decide (x2<x1))then(ixL p1 x2 λx3=>((nO x3 p2).bind λx4=>(bif x4 then(some x2)else(gq p1 p2 x1 fu1) (w64 (x2+1)))))else(some (-1)))
theorem lK [Fuel] (p1:List bP) (p2:aU) (x1:Int):∀n:Nat,eX p1 p2 x1 n=λx2=>(gq p1 p2 x1 n x2).bind (λx=>some (x,p2))
  |0=>rfl
  | n+1=>by
    funext x2
    simp only [eX,gq,lK p1 p2 x1 n,d9,bV,eu,eB,eD,bW,bX,bY]
def gN [Fuel] (p1:List bP) (p2:aU):Option Int:=gq p1 p2 ((p1.length:Nat):Int) fuel 0
theorem xP [Fuel] (p1:List bP) (p2:aU):jS p1 p2=(gN p1 p2).bind λx=>some (x,p2):=by
  simp only [jS,gN,d9,bV,eu,eB,eD,bW,bX,bY,lK]
def tK (p1:List bP) (p2 p3:Int):Option (List bP):=none
def Cb (p1:bH) (p2:aU):Option (Bool×aU):=(some ((p1.Item==p2.Item),p2))
def kR (p1:bH) (p2:aU):Option Bool:=(some (p1.Item==p2.Item))
theorem PS [Fuel] (p1:bH) (p2:aU):Cb p1 p2=(kR p1 p2).bind λx=>some (x,p2):=by
  simp only [Cb,kR,d9,bV,eu,eB,eD,bW,bX,bY]
def fD (p1:List bH) (p2:aU) (x1:Int):Nat->Int->Option (Int×aU)|0,_=>none|fu1+1,x2=>(bif(decide (x2<x1))then(ixL p1 x2 λx3=>((kR x3 p2).bind λx4=>(bif x4 then(some (x2,p2))else(fD p1 p2 x1 fu1) (w64 (x2+1)))))else(some ((-1),p2)))
def jZ [Fuel] (p1:List bH) (p2:aU):Option (Int×aU):=fD p1 p2 ((p1.length:Nat):Int) fuel 0
def gu (p1:List bH) (p2:aU) (x1:Int):Nat->Int->Option Int|0,_=>none|fu1+1,x2=>(bif(decide (x2<x1))then(ixL p1 x2 λx3=>((kR x3 p2).bind λx4=>(bif x4 then(some x2)else(gu p1 p2 x1 fu1) (w64 (x2+1)))))else(some (-1)))
theorem lV [Fuel] (p1:List bH) (p2:aU) (x1:Int):∀n:Nat,fD p1 p2 x1 n=λx2=>(gu p1 p2 x1 n x2).bind (λx=>some (x,p2))
  |0=>rfl
  | n+1=>by
    funext x2
    simp only [fD,gu,lV p1 p2 x1 n,d9,bV,eu,eB,eD,bW,bX,bY]
def gV [Fuel] (p1:List bH) (p2:aU):Option Int:=gu p1 p2 ((p1.length:Nat):Int) fuel 0
theorem yD [Fuel] (p1:List bH) (p2:aU):jZ p1 p2=(gV p1 p2).bind λx=>some (x,p2):=by
  simp only [jZ,gV,d9,bV,eu,eB,eD,bW,bX,bY,lV]
def jm (iP:(List bH)->Int->Int->Option ((List bH)×aU)) (x1:Int) (x2:List bH) (x3:Int):Option ((List bH)×aU):=iP x2 x3 (w64 (x1+1))
def gI (p2:aU):Nat->(List bH)->Int->Int->Option ((List bH)×aU)|0,_,_,_=>none|fu1+1,x4,x5,x1=>(bif(decide (x1<((x4.length:Nat):Int)))then(ixL x4 x1 λx6=>((kR x6 p2).bind λx7=>(bif(!x7)then(ixL x4 x5 λx8=>(dZ (x4.set (Int.toNat x5) x6) λx9=>jm (gI p2 fu1) x1 x9 (w64 (x5+1))))else jm (gI p2 fu1) x1 x4 x5)))else(chk (decide (0<=x5/\x5<=((x4.length:Nat):Int)/\((x4.length:Nat):Int)<=((x4.length:Nat):Int))) (chk (decide ((0+Int.toNat x5)+(Int.toNat ((x4.length:Nat):Int) - Int.toNat x5)<=x4.length)) (chk (decide (0<=x5/\x5<=(((ajc (0+Int.toNat x5) (Int.toNat ((x4.length:Nat):Int) - Int.toNat x5) x4 (List.replicate (Int.toNat ((x4.length:Nat):Int) - Int.toNat x5) (default:bH))).length:Nat):Int))) (chk (decide ((Int.toNat x5)<=(ajc (0+Int.toNat x5) (Int.toNat ((x4.length:Nat):Int) - Int.toNat x5) x4 (List.replicate (Int.toNat ((x4.length:Nat):Int) - Int.toNat x5) (default:bH))).length)) (some (((ajc (0+Int.toNat x5) (Int.toNat ((x4.length:Nat):Int) - Int.toNat x5) x4 (List.replicate (Int.toNat ((x4.length:Nat):Int) - Int.toNat x5) (default:bH))).take (Int.toNat x5)),p2)))))))
def oV [Fuel] (p1:List bH) (p2:aU):Option ((List bH)×aU):=((gV p1 p2).bind λx10=>(bif(x10==(-1))then(some (p1,p2))else gI p2 fuel p1 x10 (w64 (x10+1))))
def sU (x1:aO):Option (Int×aO):=(some (0,x1))
def MN [Fuel] (p1:aO) (p2:aU):Option (Int×aO):=((J2 p2).bind λx2=>(bif(!x2)then(some (1,p1))else(bif(p2.Kind==3)then(bif(decide (p2.Seq<=p1.greatest))then(some (36,p1))else(bif(decide (16<=((p1.items.length:Nat):Int)))then(some (33,p1))else(chk (decide ((p1.items.length+ [(⟨p2.Seq,p2.Value⟩:bP)].length)*24<=room)) (sU (⟨(p1.items++ [(⟨p2.Seq,p2.Value⟩:bP)]),p1.Dl,p2.Seq⟩:aO)))))else(bif(p2.Kind==4)then((gN p1.items p2).bind λx3=>(bif(decide (x3<0))then(some (34,p1))else((tK p1.items x3 (w64 (x3+1))).bind λx4=>((oV p1.Dl p2).bind λx5=>sU (⟨x4,x5.1,p1.greatest⟩:aO)))))else sU p1))))
def Tj [Fuel] (p1:oL) (p2:aU):Option (Int×dM×aO×aM):=((J3 p1.Table p2).bind λx1=>(bif(x1.1 !=0)then(some (x1.1,p1.Store,p1.Queue,x1.2))else((ML p1.Store p2).bind λx2=>(bif(x2.1 !=0)then(some (x2.1,x2.2,p1.Queue,x1.2))else((MN p1.Queue p2).bind λx3=>(some (x3.1,x2.2,x3.2,x1.2)))))))
def QJ [Fuel] (p1:dN) (p2:aU):Option (Int×dN):=((J2 p2).bind λx1=>(bif(!x1)then(some (1,p1))else((tJ p1).bind λx2=>(((bif(!(p2.Seq !=(w64 (x2+1))))then tH p1 else some default)).bind λx3=>(bif((p2.Seq !=(w64 (x2+1)))||(decide (p2.Epoch<x3)))then(some (36,p1))else((QI p1.now).bind λx4=>((Tj x4.1 p2).bind λx5=>(bif(x5.1 !=0)then(some (x5.1,{p1 with now:=(⟨x4.2.1,x4.2.2.1,x4.2.2.2⟩:oL)}))else(chk (decide ((p1.history.length+ [p2].length)*80<=room)) (some (0,{p1 with history:=(p1.history++ [p2]),now:=(⟨x5.2.1,x5.2.2.1,x5.2.2.2⟩:oL)})))))))))))
def DR (p4:bJ) (x1:Int) (x2:dN):Option (eP×dN):=(bif(x1 !=0)then(some ((⟨x1,0,0,ByteArray.empty⟩:eP),x2))else((oQ x2.now.Table p4.Client p4.Number).bind λx3=>(some (x3.1,x2))))
def QK [Fuel] (p1:dN) (p2 p3:Int) (p4:bJ):Option (eP×dN):=((oQ p1.now.Table p4.Client p4.Number).bind λx4=>(bif(x4.2==0)then(some (x4.1,p1))else(bif(x4.2 !=34)then(some ((⟨x4.2,0,0,ByteArray.empty⟩:eP),p1))else((tJ p1).bind λx5=>(bif(decide (4096<=x5))then(some ((⟨2,0,0,ByteArray.empty⟩:eP),p1))else((rQ p1 p2 p3 p4).bind λx6=>(bif(x6.2==0)then((tJ p1).bind λx7=>((QJ p1 (⟨p2,(w64 (x7+1)),x6.1,p4.Client,p4.Number,p4.Item,p4.Key,p4.Value⟩:aU)).bind λx8=>DR p4 x8.1 x8.2))else DR p4 x6.2 p1)))))))
def MO [Fuel] (p1:dN) (p2 p3:Int) (p4:bJ):Option (eP×dN):=((abN p4).bind λx1=>(bif((((!x1)||(p4.aD !=p1.xC))||(decide (p3<0)))||(decide (1073741824<p3)))then(some ((⟨1,0,0,ByteArray.empty⟩:eP),p1))else((uZ p1.gate p2 p3).bind λx2=>(((bif(!(!x2.2))then tH p1 else some default)).bind λx3=>(bif((!x2.2)||(decide (x2.1<x3)))then(some ((⟨30,0,0,ByteArray.empty⟩:eP),p1))else(bif(p4.Op==1)then((qd p1.now.Store p4.Key).bind λx4=>(bif(!x4.2.2)then(some ((⟨34,0,0,ByteArray.empty⟩:eP),p1))else(some ((⟨0,x4.2.1,0,x4.1⟩:eP),p1))))else(bif(p4.Op==5)then none else((QK p1 x2.1 p3 p4).bind λx5=>(some (x5.1,x5.2))))))))))
def l6 (p1:(List aA)):Option (List aA):=(chk (decide ((([]:List aA).length+p1.length)*72<=room)) (some (([]:List aA)++p1)))
def u6 (p1:aL):Option ((List aA)×aL):=((l6 p1.committed).bind λx1=>(some (x1,{p1 with au:= [(p1.au.getD 0 default)]})))
def j3 (p1:aL):Option (List aA):=((l6 p1.committed).bind λx1=>(some x1))
theorem KT [Fuel] (p1:aL):u6 p1=(j3 p1).bind λx=>some (x,{p1 with au:= [(p1.au.getD 0 default)]}):=by
  simp only [u6,j3,d9,bV,eu,eB,eD,bW,bX,bY]
def Cc (p1:aV):Option ((List aA)×aV):=((j3 {p1.net with au:= [(p1.net.au.getD 0 default)]}).bind λx1=>(some (x1,{p1 with net:={p1.net with au:= [(p1.net.au.getD 0 default)]}})))
def rR (p1:aV):Option (List aA):=((j3 {p1.net with au:= [(p1.net.au.getD 0 default)]}).bind λx1=>(some x1))
theorem PU [Fuel] (p1:aV):Cc p1=(rR p1).bind λx=>some (x,{p1 with net:={p1.net with au:= [(p1.net.au.getD 0 default)]}}):=by
  simp only [Cc,rR,d9,bV,eu,eB,eD,bW,bX,bY]
def DT [Fuel] (p1:ak) (p2 x1:List aA) (x2:Int):Nat->aB->Int->Option (aB×Int×Int)|0,_,_=>none|fu1+1,x3,x4=>(bif(decide (x4<x2))then(ixL x1 x4 λx5=>((Fz p1 x3 x5).bind λx6=>(bif(x6.2 !=0)then(some (x3,x4,x6.2))else(DT p1 p2 x1 x2 fu1) x6.1 (w64 (x4+1)))))else(some (x3,((p2.length:Nat):Int),0)))
def MP [Fuel] (p1:ak) (p2:List aA):Option (aB×Int×Int):=((Qv p1).bind λx7=>DT p1 p2 p2 ((p2.length:Nat):Int) fuel x7 0)
def Iz (Ce:(List bE)->Int->Option (List bE)) (x1:Int) (x2:List bE):Option (List bE):=Ce x2 (w64 (x1+1))
def BD (p2:aA) (x3:Int):Nat->(List bE)->Int->Option (List bE)|0,_,_=>none|fu1+1,x4,x1=>(bif(decide (x1<x3))then(ixL x4 x1 λx5=>(bif(x5.aD==p2.aD)then(ixL x4 x1 λx6=>(dZ (x4.set (Int.toNat x1) {x6 with Window:={x6.Window with Until:=(Qk x6.Window.Until (w64 (p2.Tick+1)))}}) λx7=>(dZ (x7.getD (Int.toNat x1) default) λx8=>(dZ (x7.set (Int.toNat x1) {x8 with Window:={x8.Window with From:=(Qk x8.Window.From x8.Window.Until)}}) λx9=>Iz (BD p2 x3 fu1) x1 x9))))else Iz (BD p2 x3 fu1) x1 x4))else(some x4))
def U9 [Fuel] (p1:List bE) (p2:aA):Option (List bE):=BD p2 ((p1.length:Nat):Int) fuel p1 0
def Cg (p1:bE):Option Bool:=(some (p1.Window.From==p1.Window.Until))
def jT (p1:List bE) (x1:Int):Nat->Int->Option Int|0,_=>none|fu1+1,x2=>(bif(decide (x2<x1))then(ixL p1 x2 λx3=>((Cg x3).bind λx4=>(bif x4 then(some x2)else(jT p1 x1 fu1) (w64 (x2+1)))))else(some (-1)))
def qO [Fuel] (p1:(List bE)):Option Int:=jT p1 ((p1.length:Nat):Int) fuel 0
def jI (jg:(List bE)->Int->Int->Option (List bE)) (x1:Int) (x2:List bE) (x3:Int):Option (List bE):=jg x2 x3 (w64 (x1+1))
def gW:Nat->(List bE)->Int->Int->Option (List bE)|0,_,_,_=>none|fu1+1,x4,x5,x1=>(bif(decide (x1<((x4.length:Nat):Int)))then(ixL x4 x1 λx6=>((Cg x6).bind λx7=>(bif(!x7)then(ixL x4 x5 λx8=>(dZ (x4.set (Int.toNat x5) x6) λx9=>jI (gW fu1) x1 x9 (w64 (x5+1))))else jI (gW fu1) x1 x4 x5)))else(chk (decide (0<=x5/\x5<=((x4.length:Nat):Int)/\((x4.length:Nat):Int)<=((x4.length:Nat):Int))) (chk (decide ((0+Int.toNat x5)+(Int.toNat ((x4.length:Nat):Int) - Int.toNat x5)<=x4.length)) (chk (decide (0<=x5/\x5<=(((ajc (0+Int.toNat x5) (Int.toNat ((x4.length:Nat):Int) - Int.toNat x5) x4 (List.replicate (Int.toNat ((x4.length:Nat):Int) - Int.toNat x5) (default:bE))).length:Nat):Int))) (chk (decide ((Int.toNat x5)<=(ajc (0+Int.toNat x5) (Int.toNat ((x4.length:Nat):Int) - Int.toNat x5) x4 (List.replicate (Int.toNat ((x4.length:Nat):Int) - Int.toNat x5) (default:bE))).length)) (some ((ajc (0+Int.toNat x5) (Int.toNat ((x4.length:Nat):Int) - Int.toNat x5) x4 (List.replicate (Int.toNat ((x4.length:Nat):Int) - Int.toNat x5) (default:bE))).take (Int.toNat x5))))))))
def qx [Fuel] (p1:(List bE)):Option (List bE):=((qO p1).bind λx10=>(bif(x10==(-1))then(some p1)else gW fuel p1 x10 (w64 (x10+1))))
def Ch [Fuel] (p1 p2:bE):Option Int:=((cmp_Compare_int p1.aD p2.aD).bind λx1=>((cmp_Compare_int p1.Index p2.Index).bind λx2=>((JC [x1,x2]).bind λx3=>(some x3))))
def CO [Fuel] (p1:(List bE)):Option (List bE):=(ajp (λx y=>Ch x y) p1)
def sV (u7:(List bE)->Int->Option (List bE)) (x1:Int) (x2:List bE):Option (List bE):=u7 x2 (w64 (x1+1))
def oW [Fuel] (x3:List aA) (x4:Int):Nat->(List bE)->Int->Option (List bE)|0,_,_=>none|fu1+1,x5,x1=>(bif(decide (x1<x4))then(ixL x3 x1 λx6=>(bif(x6.Kind==2)then(chk (decide ((x5.length+ [(⟨x6.aD,x1,⟨x6.Cell,x6.Epoch,x6.N,x6.From,x6.Until⟩⟩:bE)].length)*56<=room)) (sV (oW x3 x4 fu1) x1 (x5++ [(⟨x6.aD,x1,⟨x6.Cell,x6.Epoch,x6.N,x6.From,x6.Until⟩⟩:bE)])))else(bif(x6.Kind==3)then((U9 x5 x6).bind λx7=>sV (oW x3 x4 fu1) x1 x7)else sV (oW x3 x4 fu1) x1 x5)))else((qx x5).bind λx8=>((CO x8).bind λx9=>(some x9))))
def MQ [Fuel] (p1:ak) (p2:List aA):Option (List bE):=((MP p1 p2).bind λx10=>(chk (decide (0<=x10.2.1/\x10.2.1<=((p2.length:Nat):Int))) (oW (p2.take (Int.toNat x10.2.1)) (((p2.take (Int.toNat x10.2.1)).length:Nat):Int) fuel ([]:List bE) 0)))
def Lf (p1:aT) (p2:Int):Option Bool:=(some ((decide (p1.From<=p2))&&(decide (p2<p1.Until))))
def Ci (p3 p4:Int) (x1:List bE) (x2:Int):Nat->Int->Option (bE×Bool)|0,_=>none|fu1+1,x3=>(bif(decide (x3<x2))then(ixL x1 x3 λx4=>(((bif(x4.aD==p3)then Lf x4.Window p4 else some default)).bind λx5=>(bif((x4.aD==p3)&&x5)then(some (x4,true))else(Ci p3 p4 x1 x2 fu1) (w64 (x3+1)))))else(some ((⟨0,0,⟨0,0,0,0,0⟩⟩:bE),false)))
def O8 [Fuel] (p1:ak) (p2:List aA) (p3 p4:Int):Option (bE×Bool):=((MQ p1 p2).bind λx1=>Ci p3 p4 x1 ((x1.length:Nat):Int) fuel 0)
def Hl [Fuel] (x1:Bool) (x2:xW):Option Bool:=(bif x1 then(some false)else((QE x2 0).bind λx3=>((MO ((x3.copies.getD 0 default).getD 0 default) 0 3 (⟨0,1,1,2,0,(ByteArray.mk #[97]),(ByteArray.mk #[98])⟩:bJ)).bind λx4=>((rR {x3.p with net:={x3.p.net with au:= [(x3.p.net.au.getD 0 default)]}}).bind λx5=>((O8 x3.c x5 0 3).bind λx6=>(some ((((x4.1.Err==0)&&(x4.1.Seq==1))&&x6.2)&&(x6.1.Window.Cell==0))))))))
def Va [Fuel]:Option Bool:=((akP).bind λx7=>((aeC x7).bind λx8=>(bif false then(bif true then Hl true {x8 with p:={x8.p with net:={x8.p.net with au:= [(x8.p.net.au.getD 0 default)]}},copies:= [[((x8.copies.getD 0 default).getD 0 default),((x8.copies.getD 0 default).getD 1 default)]]}else((DF {x8 with p:={x8.p with net:={x8.p.net with au:= [(x8.p.net.au.getD 0 default)]}},copies:= [[((x8.copies.getD 0 default).getD 0 default),((x8.copies.getD 0 default).getD 1 default)]]} (⟨2,0,0,0,(-1),1,0,20,0⟩:aA)).bind λx9=>Hl (!x9.1) {x9.2 with p:={x9.2.p with net:={x9.2.p.net with au:= [(x9.2.p.net.au.getD 0 default)]}},copies:= [[((x9.2.copies.getD 0 default).getD 0 default),((x9.2.copies.getD 0 default).getD 1 default)]]}))else((DF {x8 with p:={x8.p with net:={x8.p.net with au:= [(x8.p.net.au.getD 0 default)]}},copies:= [[((x8.copies.getD 0 default).getD 0 default),((x8.copies.getD 0 default).getD 1 default)]]} (⟨1,0,0,0,1,0,0,0,0⟩:aA)).bind λx10=>(bif(!x10.1)then Hl true {x10.2 with p:={x10.2.p with net:={x10.2.p.net with au:= [(x10.2.p.net.au.getD 0 default)]}},copies:= [[((x10.2.copies.getD 0 default).getD 0 default),((x10.2.copies.getD 0 default).getD 1 default)]]}else((DF {x10.2 with p:={x10.2.p with net:={x10.2.p.net with au:= [(x10.2.p.net.au.getD 0 default)]}},copies:= [[((x10.2.copies.getD 0 default).getD 0 default),((x10.2.copies.getD 0 default).getD 1 default)]]} (⟨2,0,0,0,(-1),1,0,20,0⟩:aA)).bind λx11=>Hl (!x11.1) {x11.2 with p:={x11.2.p with net:={x11.2.p.net with au:= [(x11.2.p.net.au.getD 0 default)]}},copies:= [[((x11.2.copies.getD 0 default).getD 0 default),((x11.2.copies.getD 0 default).getD 1 default)]]}))))))
def RZ (p1:(List Int)):Option Bool:=(some (decide (((p1.length:Nat):Int)<=200)))
def Vb (p1:(List Int)):Option aP:=(some (⟨p1,0⟩:aP))
def bC (p1:aP) (p2:Int):Option (Int×aP):=(bif(((p1.L.length:Nat):Int)==0)then(some (0,p1))else(chk (decide (((p1.L.length:Nat):Int)≠(0:Int))) (ixL p1.L (Int.tmod p1.At ((p1.L.length:Nat):Int)) λx1=>(chk (decide (((p1.L.length:Nat):Int)≠(0:Int))) ((N7 x1 1073741824).bind λx2=>((N7 (w64 (x2+(w64 ((w64 (Int.tdiv p1.At ((p1.L.length:Nat):Int)))*7)))) p2).bind λx3=>(some (x3,{p1 with At:=(w64 (p1.At+1))}))))))))
def Lg (p1 p2 p3:Int):Option Int:=((N7 p1 (w64 ((w64 (p3 - p2))+1))).bind λx1=>(some (w64 (p2+x1))))
def gP (p1:aP) (p2 p3:Int):Option (Int×aP):=((bC p1 (w64 ((w64 (p3 - p2))+1))).bind λx1=>(some ((w64 (p2+x1.1)),x1.2)))
def dV (p1:aP) (p2:Int):Option (Bool×aP):=((bC p1 p2).bind λx1=>(some ((x1.1==0),x1.2)))
def AP (FL:aP->ak->Int->Option ak) (x1:ak) (x2:Int) (x3:aP) (x4:aW):Option ak:=(chk (decide ((x1.ah.length+ [x4].length)*56<=room)) (FL x3 {x1 with ah:=(x1.ah++ [x4]),bf:=([]:List aY),bO:=([]:List Int),cO:=([]:List Int)} (w64 (x2 - 1))))
def AQ:Nat->aP->ak->Int->Option ak|0,_,_,_=>none|fu1+1,x5,x6,x7=>(bif(decide (0<x7))then((bC x5 ((x6.kW.length:Nat):Int)).bind λx8=>(chk (decide ((x6.cO.length+ [x8.1].length)*8<=room)) ((AQ fu1) x8.2 {x6 with cO:=(x6.cO++ [x8.1])} (w64 (x7 - 1)))))else(some x6))
def AR [Fuel]:Nat->aP->ak->Int->Option ak|0,_,_,_=>none|fu2+1,x9,x10,x11=>(bif(decide (0<x11))then((bC x9 ((x10.kW.length:Nat):Int)).bind λx12=>(chk (decide ((x10.bO.length+ [x12.1].length)*8<=room)) ((AR fu2) x12.2 {x10 with bO:=(x10.bO++ [x12.1]),cO:=([]:List Int)} (w64 (x11 - 1)))))else((gP x9 1 4).bind λx13=>AQ fuel x13.2 {x10 with cO:=([]:List Int)} x13.1))
def AU [Fuel]:Nat->aP->ak->Int->Option ak|0,_,_,_=>none|fu3+1,x14,x15,x16=>(bif(decide (0<x16))then((bC x14 2).bind λx17=>((bC x17.2 3).bind λx18=>(chk (decide ((x15.bf.length+ [(⟨x17.1,(w64 (x17.1+x18.1))⟩:aY)].length)*16<=room)) ((AU fu3) x18.2 {x15 with bf:=(x15.bf++ [(⟨x17.1,(w64 (x17.1+x18.1))⟩:aY)]),bO:=([]:List Int),cO:=([]:List Int)} (w64 (x16 - 1))))))else((bC x14 2).bind λx19=>AR fuel x19.2 {x15 with bO:=([]:List Int),cO:=([]:List Int)} (w64 ((w64 (2*x19.1))+1))))
def sF [Fuel]:Nat->aP->ak->Int->Option ak|0,_,_,_=>none|fu4+1,x20,x1,x2=>(bif(decide (0<x2))then((gP x20 1 12).bind λx21=>((bC x21.2 (w64 (x21.1+1))).bind λx22=>((bC x22.2 4).bind λx23=>((gP x23.2 (-1) 3).bind λx24=>(chk (decide ((0:Int)<=(IntKind.u64.wrap x1.bK))) ((bC x24.2 3).bind λx25=>((dV x25.2 4).bind λx26=>((dV x26.2 4).bind λx27=>(bif x27.1 then(chk (decide ((0:Int)<=(IntKind.u64.wrap x1.bK))) ((gP x27.2 1 (w64 ((Dk .i64 1 (IntKind.u64.wrap x1.bK)) - 1))).bind λx28=>AP (sF fu4) x1 x2 x28.2 (⟨x21.1,x22.1,x23.1,x24.1,x28.1,x25.1,x26.1⟩:aW)))else AP (sF fu4) x1 x2 x27.2 (⟨x21.1,x22.1,x23.1,x24.1,(w64 ((Dk .i64 1 (IntKind.u64.wrap x1.bK)) - 1)),x25.1,x26.1⟩:aW))))))))))else((bC x20 3).bind λx29=>((bC x29.2 3).bind λx30=>AU fuel x30.2 {x1 with bf:= [(⟨0,x29.1⟩:aY)],bO:=([]:List Int),cO:=([]:List Int)} x30.1)))
def AX [Fuel]:Nat->aP->ak->Int->Option ak|0,_,_,_=>none|fu5+1,x31,x32,x33=>(((bif(!(decide (x33<((x32.kW.length:Nat):Int))))then dV x31 2 else some (default,x31))).bind λx34=>(bif((decide (x33<((x32.kW.length:Nat):Int)))||(x34.1&&(decide (x33<7))))then(chk (decide (((x32.kW.length:Nat):Int)≠(0:Int))) ((gP x34.2 1 4).bind λx35=>(chk (decide ((x32.Cells.length+ [(⟨(Int.tmod x33 ((x32.kW.length:Nat):Int)),(w64 (x35.1*10))⟩:cu)].length)*16<=room)) ((AX fu5) x35.2 {x32 with Cells:=(x32.Cells++ [(⟨(Int.tmod x33 ((x32.kW.length:Nat):Int)),(w64 (x35.1*10))⟩:cu)]),ah:=([]:List aW),bf:=([]:List aY),bO:=([]:List Int),cO:=([]:List Int)} (w64 (x33+1))))))else((bC x34.2 6).bind λx36=>sF fuel x36.2 {x32 with ah:=([]:List aW),bf:=([]:List aY),bO:=([]:List Int),cO:=([]:List Int)} x36.1)))
def AY [Fuel]:Nat->aP->ak->Int->Option ak|0,_,_,_=>none|fu6+1,x37,x38,x39=>(((bif(!(decide (x39<x38.bK)))then dV x37 3 else some (default,x37))).bind λx40=>(bif((decide (x39<x38.bK))||(x40.1&&(decide (x39<6))))then(chk (decide (x38.bK≠(0:Int))) (chk (decide ((x38.kW.length+ [(⟨(Int.tmod x39 x38.bK)⟩:dn)].length)*8<=room)) ((AY fu6) x40.2 (⟨x38.bK,(x38.kW++ [(⟨(Int.tmod x39 x38.bK)⟩:dn)]),([]:List cu),([]:List aW),([]:List aY),([]:List Int),([]:List Int),x38.BM,x38.Lease,x38.Uz⟩:ak) (w64 (x39+1)))))else AX fuel x40.2 {x38 with Cells:=([]:List cu),ah:=([]:List aW),bf:=([]:List aY),bO:=([]:List Int),cO:=([]:List Int)} 0))
def Oa [Fuel] (p1:(List Int)):Option ak:=((Vb p1).bind λx41=>((bC x41 5).bind λx42=>((Lg (w64 (x42.1+1)) 1 3).bind λx43=>((gP x42.2 1 3).bind λx44=>((gP x44.2 2 12).bind λx45=>((bC x45.2 9).bind λx46=>AY fuel x46.2 (⟨x43,([]:List dn),([]:List cu),([]:List aW),([]:List aY),([]:List Int),([]:List Int),x44.1,x45.1,x46.1⟩:ak) 0))))))
def sG [Fuel] (p1 p2:Int) (p3:ak):Option Int:=(ixL p3.ah p1 λx1=>(ixL p3.ah p2 λx2=>((cmp_Compare_int x2.Priority x1.Priority).bind λx3=>((cmp_Compare_int x2.Load x1.Load).bind λx4=>((cmp_Compare_int p1 p2).bind λx5=>((JC [x3,x4,x5]).bind λx6=>(some x6)))))))
def Cj [Fuel] (p1:List Int) (p2:ak):Option ((List Int)×ak):=((abX (λx y=>sG x y p2) p1).bind λl=>some (l,p2))
def nP [Fuel] (p1:ak) (x1:Int):Nat->(List Int)->Int->Option (List Int)|0,_,_=>none|fu1+1,x2,x3=>(bif(decide (x3<x1))then(chk (decide ((x2.length+ [x3].length)*8<=room)) ((nP p1 x1 fu1) (x2++ [x3]) (w64 (x3+1))))else((Cj x2 p1).bind λx4=>(some x4.1)))
def Lh [Fuel] (p1:ak):Option (List Int):=(chk (decide ((0:Int)<=0/\(0:Int)<=((p1.ah.length:Nat):Int)/\(((p1.ah.length:Nat):Int):Int)<=9223372036854775807/\(((p1.ah.length:Nat):Int):Int)*8<=140737488355328)) (nP p1 ((p1.ah.length:Nat):Int) fuel (List.replicate (Int.toNat 0) (default:Int)) 0))
def pW (p1:aF) (p2:Int):Option Bool:=(bif((decide (p2<0))||(decide (((p1.Config.ah.length:Nat):Int)<=p2)))then(some false)else(ixL p1.Config.ah p2 λx1=>((uQ (IntKind.u64.wrap x1.Allowed)).bind λx2=>(some (x2==1)))))
def DU (IB:(List Int)->Int->Option (List Int)) (x1:Int) (x2:List Int):Option (List Int):=IB x2 (w64 (x1+1))
def pI (p1:aF) (x3:List Int) (x4:Int):Nat->(List Int)->Int->Option (List Int)|0,_,_=>none|fu1+1,x5,x1=>(bif(decide (x1<x4))then(ixL x3 x1 λx6=>(chk (decide ((x5.length+ [(w64 (2*x6))].length)*8<=room)) ((pW p1 x6).bind λx7=>(bif(!x7)then(chk (decide (((x5++ [(w64 (2*x6))]).length+ [(w64 ((w64 (2*x6))+1))].length)*8<=room)) (DU (pI p1 x3 x4 fu1) x1 ((x5++ [(w64 (2*x6))])++ [(w64 ((w64 (2*x6))+1))])))else DU (pI p1 x3 x4 fu1) x1 (x5++ [(w64 (2*x6))])))))else(some x5))
def R6 [Fuel] (p1:aF):Option (List Int):=((uD p1.Config).bind λx8=>(bif(x8 !=0)then(some ([]:List Int))else((Lh p1.Config).bind λx3=>pI p1 x3 ((x3.length:Nat):Int) fuel ([]:List Int) 0)))
def Ho (p2:List aK) (x1 x2:Int):Nat->Int->Option Bool|0,_=>none|fu1+1,x3=>(bif(decide (x3<x2))then(ixL p2 x3 λx4=>(bif((((decide (x4.Home<(-1)))||(decide (x1<=x4.Home)))||(decide (x4.aN<(-1))))||(decide (x1<=x4.aN)))then(some false)else(Ho p2 x1 x2 fu1) (w64 (x3+1))))else(some true))
def DV [Fuel] (p1:aF) (p2:List aK):Option Bool:=((uD p1.Config).bind λx5=>(bif((x5 !=0)||(((p2.length:Nat):Int) !=((p1.Config.ah.length:Nat):Int)))then(some false)else Ho p2 ((p1.Config.Cells.length:Nat):Int) ((p2.length:Nat):Int) fuel 0))
def DW (lM:(List Int)->Int->Option (List Int)) (x1:Int) (x2:List Int):Option (List Int):=lM x2 (w64 (x1+1))
def yE (lM:(List Int)->Int->Option (List Int)) (p1:aF) (x3:Int) (x4:aK) (x5:List Int) (x1:Int):Option (List Int):=(bif(x4.aN !=(-1))then(ixL x5 x4.aN λx6=>(ixL p1.Config.ah x3 λx7=>(ixL x5 x4.aN λx8=>(dZ (x5.set (Int.toNat x4.aN) (w64 (x6+x7.pR))) λx9=>DW lM x1 x9))))else DW lM x1 x5)
def j4 (p1:aF) (p2:List aK) (x10:Int):Nat->(List Int)->Int->Option (List Int)|0,_,_=>none|fu1+1,x11,x3=>(bif(decide (x3<x10))then(ixL p2 x3 λx4=>(bif(x4.Home !=(-1))then(ixL x11 x4.Home λx12=>(ixL p1.Config.ah x3 λx13=>(ixL x11 x4.Home λx14=>(dZ (x11.set (Int.toNat x4.Home) (w64 (x12+x13.Load))) λx15=>yE (j4 p1 p2 x10 fu1) p1 x3 x4 x15 x3))))else yE (j4 p1 p2 x10 fu1) p1 x3 x4 x11 x3))else(some x11))
def Hq [Fuel] (p1:aF) (p2:List aK):Option (List Int):=((DV p1 p2).bind λx16=>(bif(!x16)then(some ([]:List Int))else(chk (decide ((0:Int)<=((p1.Config.Cells.length:Nat):Int)/\(((p1.Config.Cells.length:Nat):Int):Int)<=((p1.Config.Cells.length:Nat):Int)/\(((p1.Config.Cells.length:Nat):Int):Int)<=9223372036854775807/\(((p1.Config.Cells.length:Nat):Int):Int)*8<=140737488355328)) (j4 p1 p2 ((p2.length:Nat):Int) fuel (List.replicate (Int.toNat ((p1.Config.Cells.length:Nat):Int)) (default:Int)) 0))))
def QL (p1 p2:Int):Option Bool:=(chk (!((decide (0<=p2))&&(decide (p2<64)))||decide ((0:Int)<=p2)) (some (((decide (0<=p2))&&(decide (p2<64)))&&((jN .i64 (oK .i64 p1 p2) 1)==1))))
def Ma (p1 p2:Int) (p3:aF):Option (Bool×aF):=((QL p3.Cells p2).bind λx1=>(some ((!x1),p3)))
def ru (p1 p2:Int) (p3:aF):Option Bool:=((QL p3.Cells p2).bind λx1=>(some (!x1)))
theorem WC [Fuel] (p1 p2:Int) (p3:aF):Ma p1 p2 p3=(ru p1 p2 p3).bind λx=>some (x,p3):=by
  simp only [Ma,ru,d9,bV,eu,eB,eD,bW,bX,bY]
def Jj (IC:(List aI)->Int->Option ((List aI)×aF)) (x1:Int) (x2:List aI):Option ((List aI)×aF):=IC x2 (w64 (x1+1))
def pJ (wD:(List aI)->Int->Option ((List aI)×aF)) (p1:Int) (p3:aF) (x3 x4:Int) (x5:List Int) (x6:Int):Nat->(List aI)->Int->Option ((List aI)×aF)|0,_,_=>none|fu1+1,x7,x1=>(bif(decide (x1<x6))then(ixL x5 x1 λx8=>(((bif(x8 !=(-1))then ru x3 x8 p3 else some default)).bind λx9=>(bif((x8 !=(-1))&&x9)then(chk (decide ((x7.length+ [(⟨p1,x3,(-1),x8,(-1)⟩:aI)].length)*40<=room)) (Jj (pJ wD p1 p3 x3 x4 x5 x6 fu1) x1 (x7++ [(⟨p1,x3,(-1),x8,(-1)⟩:aI)])))else Jj (pJ wD p1 p3 x3 x4 x5 x6 fu1) x1 x7)))else wD x7 (w64 (x4+1)))
def lN [Fuel] (p1:Int) (p2:List aK) (p3:aF) (x10:Int):Nat->(List aI)->Int->Option ((List aI)×aF)|0,_,_=>none|fu2+1,x11,x3=>(bif(decide (x3<x10))then(ixL p2 x3 λx12=>pJ (lN p1 p2 p3 x10 fu2) p1 p3 x3 x3 [x12.Home,x12.aN] (([x12.Home,x12.aN].length:Nat):Int) fuel x11 0)else(some (x11,p3)))
def R7 [Fuel] (p1:Int) (p2:List aK) (p3:aF):Option ((List aI)×aF):=lN p1 p2 p3 ((p2.length:Nat):Int) fuel ([]:List aI) 0
def Li [Fuel] (p1:aF) (p2:List aK):Option (List aI):=((R7 3 p2 p1).bind λx1=>(some x1.1))
def J4 (p1 p2:Int) (p3:aF):Option (Bool×aF):=((wK p3.Config p1 p2).bind λx1=>(some ((!x1),p3)))
def qg (p1 p2:Int) (p3:aF):Option Bool:=((wK p3.Config p1 p2).bind λx1=>(some (!x1)))
theorem Vd [Fuel] (p1 p2:Int) (p3:aF):J4 p1 p2 p3=(qg p1 p2 p3).bind λx=>some (x,p3):=by
  simp only [J4,qg,d9,bV,eu,eB,eD,bW,bX,bY]
def BF (Ck:(List aI)->Int->Option ((List aI)×aF)) (x1:Int) (x2:List aI):Option ((List aI)×aF):=Ck x2 (w64 (x1+1))
def kH (qy:(List aI)->Int->Option ((List aI)×aF)) (p1:Int) (p3:aF) (x3 x4:Int) (x5:List Int) (x6:Int):Nat->(List aI)->Int->Option ((List aI)×aF)|0,_,_=>none|fu1+1,x7,x1=>(bif(decide (x1<x6))then(ixL x5 x1 λx8=>(((bif(x8 !=(-1))then qg x3 x8 p3 else some default)).bind λx9=>(bif((x8 !=(-1))&&x9)then(chk (decide ((x7.length+ [(⟨p1,x3,(-1),x8,(-1)⟩:aI)].length)*40<=room)) (BF (kH qy p1 p3 x3 x4 x5 x6 fu1) x1 (x7++ [(⟨p1,x3,(-1),x8,(-1)⟩:aI)])))else BF (kH qy p1 p3 x3 x4 x5 x6 fu1) x1 x7)))else qy x7 (w64 (x4+1)))
def iX [Fuel] (p1:Int) (p2:List aK) (p3:aF) (x10:Int):Nat->(List aI)->Int->Option ((List aI)×aF)|0,_,_=>none|fu2+1,x11,x3=>(bif(decide (x3<x10))then(ixL p2 x3 λx12=>kH (iX p1 p2 p3 x10 fu2) p1 p3 x3 x3 [x12.Home,x12.aN] (([x12.Home,x12.aN].length:Nat):Int) fuel x11 0)else(some (x11,p3)))
def Ob [Fuel] (p1:Int) (p2:List aK) (p3:aF):Option ((List aI)×aF):=iX p1 p2 p3 ((p2.length:Nat):Int) fuel ([]:List aI) 0
def Jk [Fuel] (p1:aF) (p2:List aK):Option (List aI):=((Ob 4 p2 p1).bind λx1=>(some x1.1))
def Gq (FM:(List aI)->Int->Option (List aI)) (x1:Int) (x2:List aI):Option (List aI):=FM x2 (w64 (x1+1))
def nA (p1:aF) (p2:List aK) (x3:Int):Nat->(List aI)->Int->Option (List aI)|0,_,_=>none|fu1+1,x4,x1=>(bif(decide (x1<x3))then(ixL p2 x1 λx5=>(((bif((x5.Home !=(-1))&&(x5.aN !=(-1)))then CF p1.Config x5.Home x5.aN else some default)).bind λx6=>(bif(((x5.Home !=(-1))&&(x5.aN !=(-1)))&&(!x6))then(chk (decide ((x4.length+ [(⟨5,x1,(-1),x5.aN,(-1)⟩:aI)].length)*40<=room)) (Gq (nA p1 p2 x3 fu1) x1 (x4++ [(⟨5,x1,(-1),x5.aN,(-1)⟩:aI)])))else Gq (nA p1 p2 x3 fu1) x1 x4)))else(some x4))
def Oc [Fuel] (p1:aF) (p2:List aK):Option (List aI):=nA p1 p2 ((p2.length:Nat):Int) fuel ([]:List aI) 0
def Od (p1 p2:Int) (p3:aF) (p4:List aK):Option (Bool×aF×(List aK)):=(ixL p3.Config.ah p1 λx1=>(ixG (decide (0<x1.sO)) p3.Config.ah p2 λx2=>(ixG ((decide (0<x1.sO))&&(x1.sO==x2.sO)) p4 p1 λx3=>(((bif((decide (0<x1.sO))&&(x1.sO==x2.sO))then BO p3.Config x3.Home else some default)).bind λx4=>(ixG ((decide (0<x1.sO))&&(x1.sO==x2.sO)) p4 p2 λx5=>(((bif((decide (0<x1.sO))&&(x1.sO==x2.sO))then BO p3.Config x5.Home else some default)).bind λx6=>(some ((((decide (0<x1.sO))&&(x1.sO==x2.sO))&&(x4==x6)),p3,p4))))))))
def tL (p1 p2:Int) (p3:aF) (p4:List aK):Option Bool:=(ixL p3.Config.ah p1 λx1=>(ixG (decide (0<x1.sO)) p3.Config.ah p2 λx2=>(ixG ((decide (0<x1.sO))&&(x1.sO==x2.sO)) p4 p1 λx3=>(((bif((decide (0<x1.sO))&&(x1.sO==x2.sO))then BO p3.Config x3.Home else some default)).bind λx4=>(ixG ((decide (0<x1.sO))&&(x1.sO==x2.sO)) p4 p2 λx5=>(((bif((decide (0<x1.sO))&&(x1.sO==x2.sO))then BO p3.Config x5.Home else some default)).bind λx6=>(some (((decide (0<x1.sO))&&(x1.sO==x2.sO))&&(x4==x6)))))))))
theorem X8 [Fuel] (p1 p2:Int) (p3:aF) (p4:List aK):Od p1 p2 p3 p4=(tL p1 p2 p3 p4).bind λx=>some (x,p3,p4):=by
  simp only [Od,tL,d9,bV,eu,eB,eD,bW,bX,bY]
def Gs (FN:(List aI)->Int->Option ((List aI)×aF×(List aK))) (x1:Int) (x2:List aI):Option ((List aI)×aF×(List aK)):=FN x2 (w64 (x1+1))
def nC (tN:(List aI)->Int->Option ((List aI)×aF×(List aK))) (p1:Int) (p2:List aK) (p3:aF) (p4:List aK) (x3 x4 x5:Int):Nat->(List aI)->Int->Option ((List aI)×aF×(List aK))|0,_,_=>none|fu1+1,x6,x1=>(bif(decide (x1<x5))then(ixL p2 x3 λx7=>(ixG (x7.Home !=(-1)) p2 x1 λx8=>(((bif((x7.Home !=(-1))&&(x8.Home !=(-1)))then tL x3 x1 p3 p4 else some default)).bind λx9=>(bif(((x7.Home !=(-1))&&(x8.Home !=(-1)))&&x9)then(ixL p2 x1 λx10=>(chk (decide ((x6.length+ [(⟨p1,x3,x1,x10.Home,(-1)⟩:aI)].length)*40<=room)) (Gs (nC tN p1 p2 p3 p4 x3 x4 x5 fu1) x1 (x6++ [(⟨p1,x3,x1,x10.Home,(-1)⟩:aI)]))))else Gs (nC tN p1 p2 p3 p4 x3 x4 x5 fu1) x1 x6))))else tN x6 (w64 (x4+1)))
def j5 [Fuel] (p1:Int) (p2:List aK) (p3:aF) (p4:List aK) (x11:Int):Nat->(List aI)->Int->Option ((List aI)×aF×(List aK))|0,_,_=>none|fu2+1,x12,x3=>(bif(decide (x3<x11))then nC (j5 p1 p2 p3 p4 x11 fu2) p1 p2 p3 p4 x3 x3 x3 fuel x12 0 else(some (x12,p3,p4)))
def Oe [Fuel] (p1:Int) (p2:List aK) (p3:aF) (p4:List aK):Option ((List aI)×aF×(List aK)):=j5 p1 p2 p3 p4 ((p2.length:Nat):Int) fuel ([]:List aI) 0
def Og [Fuel] (p1:aF) (p2:List aK):Option (List aI):=((Oe 6 p2 p1 p2).bind λx1=>(some x1.1))
def Oh (p1 p2:Int) (p3:aF) (p4:List aK):Option (Bool×aF×(List aK)):=(ixL p3.Config.ah p1 λx1=>(ixG x1.LM p3.Config.ah p2 λx2=>(ixG (x1.LM&&x2.LM) p4 p1 λx3=>(ixG (x1.LM&&x2.LM) p4 p2 λx4=>(some (((x1.LM&&x2.LM)&&(x3.Home==x4.Home)),p3,p4))))))
def tO (p1 p2:Int) (p3:aF) (p4:List aK):Option Bool:=(ixL p3.Config.ah p1 λx1=>(ixG x1.LM p3.Config.ah p2 λx2=>(ixG (x1.LM&&x2.LM) p4 p1 λx3=>(ixG (x1.LM&&x2.LM) p4 p2 λx4=>(some ((x1.LM&&x2.LM)&&(x3.Home==x4.Home)))))))
theorem X9 [Fuel] (p1 p2:Int) (p3:aF) (p4:List aK):Oh p1 p2 p3 p4=(tO p1 p2 p3 p4).bind λx=>some (x,p3,p4):=by
  simp only [Oh,tO,d9,bV,eu,eB,eD,bW,bX,bY]
def za (Aa:(List aI)->Int->Option ((List aI)×aF×(List aK))) (x1:Int) (x2:List aI):Option ((List aI)×aF×(List aK)):=Aa x2 (w64 (x1+1))
def jJ (oZ:(List aI)->Int->Option ((List aI)×aF×(List aK))) (p1:Int) (p2:List aK) (p3:aF) (p4:List aK) (x3 x4 x5:Int):Nat->(List aI)->Int->Option ((List aI)×aF×(List aK))|0,_,_=>none|fu1+1,x6,x1=>(bif(decide (x1<x5))then(ixL p2 x3 λx7=>(ixG (x7.Home !=(-1)) p2 x1 λx8=>(((bif((x7.Home !=(-1))&&(x8.Home !=(-1)))then tO x3 x1 p3 p4 else some default)).bind λx9=>(bif(((x7.Home !=(-1))&&(x8.Home !=(-1)))&&x9)then(ixL p2 x1 λx10=>(chk (decide ((x6.length+ [(⟨p1,x3,x1,x10.Home,(-1)⟩:aI)].length)*40<=room)) (za (jJ oZ p1 p2 p3 p4 x3 x4 x5 fu1) x1 (x6++ [(⟨p1,x3,x1,x10.Home,(-1)⟩:aI)]))))else za (jJ oZ p1 p2 p3 p4 x3 x4 x5 fu1) x1 x6))))else oZ x6 (w64 (x4+1)))
def iA [Fuel] (p1:Int) (p2:List aK) (p3:aF) (p4:List aK) (x11:Int):Nat->(List aI)->Int->Option ((List aI)×aF×(List aK))|0,_,_=>none|fu2+1,x12,x3=>(bif(decide (x3<x11))then jJ (iA p1 p2 p3 p4 x11 fu2) p1 p2 p3 p4 x3 x3 x3 fuel x12 0 else(some (x12,p3,p4)))
def Gt [Fuel] (p1:Int) (p2:List aK) (p3:aF) (p4:List aK):Option ((List aI)×aF×(List aK)):=iA p1 p2 p3 p4 ((p2.length:Nat):Int) fuel ([]:List aI) 0
def Oi [Fuel] (p1:aF) (p2:List aK):Option (List aI):=((Gt 7 p2 p1 p2).bind λx1=>(some x1.1))
def ze (Ab:(List aI)->Int->Option (List aI)) (x1:Int) (x2:List aI):Option (List aI):=Ab x2 (w64 (x1+1))
def jK (p2:List Int) (x3:List cu) (x4:Int):Nat->(List aI)->Int->Option (List aI)|0,_,_=>none|fu1+1,x5,x1=>(bif(decide (x1<x4))then(ixL x3 x1 λx6=>(ixL p2 x1 λx7=>(bif(decide (x6.kV<x7))then(chk (decide ((x5.length+ [(⟨8,(-1),(-1),x1,(-1)⟩:aI)].length)*40<=room)) (ze (jK p2 x3 x4 fu1) x1 (x5++ [(⟨8,(-1),(-1),x1,(-1)⟩:aI)])))else ze (jK p2 x3 x4 fu1) x1 x5)))else(some x5))
def Gu [Fuel] (p1:aF) (p2:List Int):Option (List aI):=jK p2 p1.Config.Cells ((p1.Config.Cells.length:Nat):Int) fuel ([]:List aI) 0
def Gv (FP:(List Int)->Int->Option (List Int)) (x1:Int) (x2:List Int):Option (List Int):=FP x2 (w64 (x1+1))
def AZ (p1:aF) (p2:List aK) (p3 x3:Int):Nat->(List Int)->Int->Option (List Int)|0,_,_=>none|fu1+1,x4,x1=>(bif(decide (x1<x3))then(ixL p2 x1 λx5=>(bif((x5.Home==(-1))||(x5.aN==(-1)))then Gv (AZ p1 p2 p3 x3 fu1) x1 x4 else((kE p1.Config x5.Home).bind λx6=>(((bif(x6==p3)then kE p1.Config x5.aN else some default)).bind λx7=>(bif((x6==p3)&&(x7 !=p3))then(ixL x4 x5.aN λx8=>(ixL p1.Config.ah x1 λx9=>(ixL p1.Config.ah x1 λx10=>(ixL x4 x5.aN λx11=>(dZ (x4.set (Int.toNat x5.aN) (w64 (x8+(w64 (x9.Load - x10.pR))))) λx12=>Gv (AZ p1 p2 p3 x3 fu1) x1 x12)))))else Gv (AZ p1 p2 p3 x3 fu1) x1 x4)))))else(some x4))
def Zr [Fuel] (p1:aF) (p2:List aK) (p3:Int):Option (List Int):=((DV p1 p2).bind λx13=>(bif(!x13)then(some ([]:List Int))else(chk (decide ((0:Int)<=((p1.Config.Cells.length:Nat):Int)/\(((p1.Config.Cells.length:Nat):Int):Int)<=((p1.Config.Cells.length:Nat):Int)/\(((p1.Config.Cells.length:Nat):Int):Int)<=9223372036854775807/\(((p1.Config.Cells.length:Nat):Int):Int)*8<=140737488355328)) (AZ p1 p2 p3 ((p2.length:Nat):Int) fuel (List.replicate (Int.toNat ((p1.Config.Cells.length:Nat):Int)) (default:Int)) 0))))
def FQ (Ac:(List aI)->Int->Option (List aI)) (x1:Int) (x2:List aI):Option (List aI):=Ac x2 (w64 (x1+1))
def zf (pq:(List aI)->Int->Option (List aI)) (p1:aF) (p3:List Int) (x3:Int) (x4:List Int) (x5:Int) (x6:List cu) (x7:Int):Nat->(List aI)->Int->Option (List aI)|0,_,_=>none|fu1+1,x8,x1=>(bif(decide (x1<x7))then(ixL x6 x1 λx9=>((kE p1.Config x1).bind λx10=>(ixG (x10 !=x3) p3 x1 λx11=>(ixG (x10 !=x3) x4 x1 λx12=>(bif((x10 !=x3)&&(decide (x9.kV<(w64 (x11+x12)))))then(chk (decide ((x8.length+ [(⟨9,(-1),(-1),x1,x3⟩:aI)].length)*40<=room)) (FQ (zf pq p1 p3 x3 x4 x5 x6 x7 fu1) x1 (x8++ [(⟨9,(-1),(-1),x1,x3⟩:aI)])))else FQ (zf pq p1 p3 x3 x4 x5 x6 x7 fu1) x1 x8)))))else pq x8 (w64 (x5+1)))
def FR [Fuel] (p1:aF) (p2:List aK) (p3:List Int) (x13:Int):Nat->(List aI)->Int->Option (List aI)|0,_,_=>none|fu2+1,x14,x3=>(bif(decide (x3<x13))then((Zr p1 p2 x3).bind λx4=>zf (FR p1 p2 p3 x13 fu2) p1 p3 x3 x4 x3 p1.Config.Cells ((p1.Config.Cells.length:Nat):Int) fuel x14 0)else(some x14))
def Gw [Fuel] (p1:aF) (p2:List aK) (p3:List Int):Option (List aI):=(bif(!p1.Gd)then(some ([]:List aI))else FR p1 p2 p3 p1.Config.bK fuel ([]:List aI) 0)
def iB (x1:(List aI)):Option (List aI):=(some x1)
def jl (p1:Int):Option (List aI):=(bif(decide (p1<0))then none else(bif(decide (0<(w64 (p1 - (w64 (0 - ((0:Nat):Int)))))))then(chk (decide ((0:Int)<(w64 (p1 - (w64 (0 - ((0:Nat):Int)))))/\((w64 (p1 - (w64 (0 - ((0:Nat):Int))))):Int)*40<=140737488355328)) (chk (decide (0<=((0:Nat):Int)/\((0:Nat):Int)<=(((List.replicate (Int.toNat (w64 (p1 - (w64 (0 - ((0:Nat):Int)))))) (default:aI)).length:Nat):Int))) (chk (decide ((Int.toNat ((0:Nat):Int))<=(List.replicate (Int.toNat (w64 (p1 - (w64 (0 - ((0:Nat):Int)))))) (default:aI)).length)) (iB ((List.replicate (Int.toNat (w64 (p1 - (w64 (0 - ((0:Nat):Int)))))) (default:aI)).take (Int.toNat ((0:Nat):Int)))))))else iB ([]:List aI)))
def bR (p1:(List (List aI))) (x1:Int):Nat->(List aI)->Int->Option (List aI)|0,_,_=>none|fu1+1,x2,x3=>(bif(decide (x3<x1))then(ixL p1 x3 λx4=>(chk (decide ((x2.length+x4.length)*40<=room)) ((bR p1 x1 fu1) (x2++x4) (w64 (x3+1)))))else(some x2))
def bS [Fuel] (p1:(List (List aI))) (x5:(List (List aI))) (x6:Int):Nat->Int->Int->Option (List aI)|0,_,_=>none|fu2+1,x7,x8=>(bif(decide (x8<x6))then(ixL x5 x8 λx9=>(bif(decide ((w64 (x7+((x9.length:Nat):Int)))<0))then none else(bS p1 x5 x6 fu2) (w64 (x7+((x9.length:Nat):Int))) (w64 (x8+1))))else((jl x7).bind λx10=>bR p1 ((p1.length:Nat):Int) fuel x10 0))
def iQ [Fuel] (p1:(List (List aI))):Option (List aI):=bS p1 p1 ((p1.length:Nat):Int) fuel 0 0
def DX [Fuel] (p1:aF) (p2:List aK):Option (List aI):=((DV p1 p2).bind λx1=>(bif(!x1)then(some ([]:List aI))else((Hq p1 p2).bind λx2=>((Li p1 p2).bind λx3=>((Jk p1 p2).bind λx4=>((Oc p1 p2).bind λx5=>((Og p1 p2).bind λx6=>((Oi p1 p2).bind λx7=>((Gu p1 x2).bind λx8=>((Gw p1 p2 x2).bind λx9=>((iQ [x3,x4,x5,x6,x7,x8,x9]).bind λx10=>(some x10))))))))))))
def MR (p1 p2:Int):Option Bool:=(chk (!((decide (0<=p2))&&(decide (p2<64)))||decide ((0:Int)<=p2)) (some (((decide (0<=p2))&&(decide (p2<64)))&&((jN .i64 (oK .i64 p1 p2) 1)==1))))
def Gx (FT:Int->Int->Option Int) (x1 x2:Int):Option Int:=FT x2 (w64 (x1+1))
def nD (p1:aF) (p2 x3:Int):Nat->Int->Int->Option Int|0,_,_=>none|fu1+1,x4,x1=>(bif(decide (x1<x3))then((kE p1.Config x1).bind λx5=>(((bif(decide (0<=x5))then MR p1.Cells x1 else some default)).bind λx6=>(((bif((decide (0<=x5))&&x6)then wK p1.Config p2 x1 else some default)).bind λx7=>(bif(((decide (0<=x5))&&x6)&&x7)then(chk (decide ((0:Int)<=x5)) (Gx (nD p1 p2 x3 fu1) x1 (orK .i64 x4 (Dk .i64 1 x5))))else Gx (nD p1 p2 x3 fu1) x1 x4))))else(some x4))
def FU [Fuel] (p1:aF) (p2:Int):Option Int:=nD p1 p2 ((p1.Config.Cells.length:Nat):Int) fuel 0 0
def BG (Cm:(List bM)->Int->Option (List bM)) (x1:Int) (x2:List bM):Option (List bM):=Cm x2 (w64 (x1+1))
def kI [Fuel] (p1:aF) (p2:List aK) (x3:Int):Nat->(List bM)->Int->Option (List bM)|0,_,_=>none|fu1+1,x4,x1=>(bif(decide (x1<x3))then(ixL p2 x1 λx5=>(bif(x5.Home==(-1))then(ixL p1.Config.ah x1 λx6=>((FU p1 x1).bind λx7=>(chk (decide ((x4.length+ [(⟨x6.Load,x7⟩:bM)].length)*16<=room)) (BG (kI p1 p2 x3 fu1) x1 (x4++ [(⟨x6.Load,x7⟩:bM)])))))else BG (kI p1 p2 x3 fu1) x1 x4))else(some x4))
def DY [Fuel] (p1:aF) (p2:List aK):Option (List bM):=kI p1 p2 ((p2.length:Nat):Int) fuel ([]:List bM) 0
def Gy (FV:(List Int)->Int->Option (List Int)) (x1:Int) (x2:List Int):Option (List Int):=FV x2 (w64 (x1+1))
def nE (p1:aF) (x3:List Int) (x4:List cu) (x5:Int):Nat->(List Int)->Int->Option (List Int)|0,_,_=>none|fu1+1,x6,x1=>(bif(decide (x1<x5))then(ixL x4 x1 λx7=>((MR p1.Cells x1).bind λx8=>(bif x8 then((kE p1.Config x1).bind λx9=>(ixL x6 x9 λx10=>(ixL x3 x1 λx11=>(ixL x6 x9 λx12=>(dZ (x6.set (Int.toNat x9) (w64 (x10+(w64 (x7.kV - x11))))) λx13=>Gy (nE p1 x3 x4 x5 fu1) x1 x13)))))else Gy (nE p1 x3 x4 x5 fu1) x1 x6)))else(some x6))
def J5 [Fuel] (p1:aF) (p2:List aK):Option (List Int):=(chk (decide ((0:Int)<=p1.Config.bK/\(p1.Config.bK:Int)<=p1.Config.bK/\(p1.Config.bK:Int)<=9223372036854775807/\(p1.Config.bK:Int)*8<=140737488355328)) ((Hq p1 p2).bind λx3=>nE p1 x3 p1.Config.Cells ((p1.Config.Cells.length:Nat):Int) fuel (List.replicate (Int.toNat p1.Config.bK) (default:Int)) 0))
def Jl (IE:Int->Int->Option Int) (x1 x2:Int):Option Int:=IE x2 (w64 (x1+1))
def pK (p1:List bM) (p2 x3:Int):Nat->Int->Int->Option Int|0,_,_=>none|fu1+1,x4,x1=>(bif(decide (x1<x3))then(ixL p1 x1 λx5=>(bif((Nr .i64 x5.reach p2)==0)then Jl (pK p1 p2 x3 fu1) x1 (w64 (x4+x5.load))else Jl (pK p1 p2 x3 fu1) x1 x4))else(some x4))
def MS [Fuel] (p1:List bM) (p2:Int):Option Int:=pK p1 p2 ((p1.length:Nat):Int) fuel 0 0
def Jm (IG:Int->Int->Option Int) (x1 x2:Int):Option Int:=IG x2 (w64 (x1+1))
def pO (p1:List Int) (p2 x3:Int):Nat->Int->Int->Option Int|0,_,_=>none|fu1+1,x4,x1=>(bif(decide (x1<x3))then(ixL p1 x1 λx5=>((MR p2 x1).bind λx6=>(bif x6 then Jm (pO p1 p2 x3 fu1) x1 (w64 (x4+x5))else Jm (pO p1 p2 x3 fu1) x1 x4)))else(some x4))
def MU [Fuel] (p1:List Int) (p2:Int):Option Int:=pO p1 p2 ((p1.length:Nat):Int) fuel 0 0
def tQ [Fuel] (p1:aF) (x1:List bM) (x2:List Int):Nat->Int->Option (Int×Bool)|0,_=>none|fu1+1,x3=>(chk (decide ((0:Int)<=p1.Config.bK)) (bif(decide (x3<(Dk .i64 1 p1.Config.bK)))then((MS x1 x3).bind λx4=>((MU x2 x3).bind λx5=>(bif(decide (x5<x4))then(some (x3,true))else(tQ p1 x1 x2 fu1) (w64 (x3+1)))))else(some (0,false))))
def Gz [Fuel] (p1:aF) (p2:List aK):Option (Int×Bool):=((DV p1 p2).bind λx6=>(bif(!x6)then(some (0,false))else((DY p1 p2).bind λx1=>((J5 p1 p2).bind λx2=>tQ p1 x1 x2 fuel 1))))
def vg (wY:bB->Int->Option (Bool×Int×bB)) (x1:Int) (x2:bB):Option (Bool×Int×bB):=wY x2 (w64 (x1+1))
def gQ (eZ:bB->Int->Option (Bool×Int×bB)) (p2:Int) (x3:Nat) (x4:Int):Nat->bB->Int->Option (Bool×Int×bB)|0,_,_=>none|fu1+1,x5,x1=>(bif(decide (x1<x4))then(chk (decide ((0:Int)<=x1)) (bif((jN .i64 (oK .i64 x5.problem.Cells x1) 1)==0)then vg (gQ eZ p2 x3 x4 fu1) x1 x5 else(dZ (x5.places.getD x3 default) λx6=>(dZ (x5.places.set x3 {x6 with aN:=x1}) λx7=>((eZ {x5 with places:=x7} (w64 (p2+1))).bind λx8=>(bif(x8.1||(x8.2.1 !=0))then(some (x8.1,x8.2.1,x8.2.2))else vg (gQ eZ p2 x3 x4 fu1) x1 x8.2.2))))))else(dZ (x5.places.getD x3 default) λx9=>(dZ (x5.places.set x3 {x9 with aN:=(-1)}) λx10=>(some (false,0,{x5 with places:=x10})))))
def vk (wZ:bB->Int->Option (Bool×Int×bB)) (x11:Int) (x12:bB):Option (Bool×Int×bB):=wZ x12 (w64 (x11+1))
def gT (eZ:bB->Int->Option (Bool×Int×bB)) (p2:Int) (x13:Nat) (x14:Int):Nat->bB->Int->Option (Bool×Int×bB)|0,_,_=>none|fu2+1,x15,x11=>(bif(decide (x11<x14))then(chk (decide ((0:Int)<=x11)) (bif((jN .i64 (oK .i64 x15.problem.Cells x11) 1)==0)then vk (gT eZ p2 x13 x14 fu2) x11 x15 else(dZ (x15.places.getD x13 default) λx16=>(dZ (x15.places.set x13 {x16 with Home:=x11}) λx17=>((eZ {x15 with places:=x17} (w64 (p2+1))).bind λx18=>(bif(x18.1||(x18.2.1 !=0))then(some (x18.1,x18.2.1,x18.2.2))else vk (gT eZ p2 x13 x14 fu2) x11 x18.2.2))))))else(dZ (x15.places.getD x13 default) λx19=>(dZ (x15.places.set x13 {x19 with Home:=(-1)}) λx20=>(some (false,0,{x15 with places:=x20})))))
def DZ [Fuel] (eZ:bB->Int->Option (Bool×Int×bB)) (p1:bB) (p2:Int):Option (Bool×Int×bB):=(bif(decide (2048<(w64 (p1.count+1))))then(some (false,2,{p1 with count:=(w64 (p1.count+1))}))else((DX p1.problem p1.places).bind λx21=>(bif(decide (0<((x21.length:Nat):Int)))then(ixL x21 0 λx22=>(chk (decide ((p1.tree.length+ [(⟨2,0,0,x22⟩:dQ)].length)*64<=room)) (some (false,0,{p1 with tree:=(p1.tree++ [(⟨2,0,0,x22⟩:dQ)]),count:=(w64 (p1.count+1))}))))else((Gz p1.problem p1.places).bind λx23=>(bif x23.2 then(chk (decide ((p1.tree.length+ [(⟨3,0,x23.1,⟨0,0,0,0,0⟩⟩:dQ)].length)*64<=room)) (some (false,0,{p1 with tree:=(p1.tree++ [(⟨3,0,x23.1,⟨0,0,0,0,0⟩⟩:dQ)]),count:=(w64 (p1.count+1))})))else(bif(p2==((p1.vars.length:Nat):Int))then(some (true,0,{p1 with count:=(w64 (p1.count+1))}))else(ixL p1.vars p2 λx24=>(ixL p1.places (w64 (Int.tdiv x24 2)) λx25=>(bif((Int.tmod x24 2)==1)then(ixL p1.places (w64 (Int.tdiv x24 2)) λx26=>(chk (decide ((p1.tree.length+ [(⟨1,x24,0,⟨0,0,0,0,0⟩⟩:dQ)].length)*64<=room)) (gQ eZ p2 (Int.toNat (w64 (Int.tdiv x24 2))) ((p1.problem.Config.Cells.length:Nat):Int) fuel {p1 with tree:=(p1.tree++ [(⟨1,x24,0,⟨0,0,0,0,0⟩⟩:dQ)]),count:=(w64 (p1.count+1))} 0)))else(chk (decide ((p1.tree.length+ [(⟨1,x24,0,⟨0,0,0,0,0⟩⟩:dQ)].length)*64<=room)) (gT eZ p2 (Int.toNat (w64 (Int.tdiv x24 2))) ((p1.problem.Config.Cells.length:Nat):Int) fuel {p1 with tree:=(p1.tree++ [(⟨1,x24,0,⟨0,0,0,0,0⟩⟩:dQ)]),count:=(w64 (p1.count+1))} 0)))))))))))
def lW [Fuel]:Nat->bB->Int->Option (Bool×Int×bB)|0,_,_=>none|n+1,p1,p2=>DZ (lW n) p1 p2
def rT [Fuel] (x1:Int):Nat->eG->bB->Int->Option (eG×Int)|0,_,_,_=>none|fu1+1,x2,x3,x4=>(bif(decide (x4<x1))then(ixL x3.places x4 λx5=>(dZ (x3.places.set (Int.toNat x4) (⟨(-1),(-1)⟩:aK)) λx6=>(rT x1 fu1) (⟨([]:List aK),([]:List dQ)⟩:eG) {x3 with places:=x6} (w64 (x4+1))))else(((lW fuel) x3 0).bind λx7=>(bif(x7.2.1 !=0)then(some ((⟨([]:List aK),([]:List dQ)⟩:eG),x7.2.1))else(bif x7.1 then(some ((⟨x7.2.2.places,([]:List dQ)⟩:eG),0))else(some ((⟨([]:List aK),x7.2.2.tree⟩:eG),0))))))
def R8 [Fuel] (p1:aF):Option (eG×Int):=((uD p1.Config).bind λx8=>(bif(x8 !=0)then(some ((⟨([]:List aK),([]:List dQ)⟩:eG),1))else((R6 p1).bind λx9=>(chk (decide ((0:Int)<=((p1.Config.ah.length:Nat):Int)/\(((p1.Config.ah.length:Nat):Int):Int)<=((p1.Config.ah.length:Nat):Int)/\(((p1.Config.ah.length:Nat):Int):Int)<=9223372036854775807/\(((p1.Config.ah.length:Nat):Int):Int)*16<=140737488355328)) (rT (((List.replicate (Int.toNat ((p1.Config.ah.length:Nat):Int)) (default:aK)).length:Nat):Int) fuel (⟨([]:List aK),([]:List dQ)⟩:eG) (⟨p1,x9,(List.replicate (Int.toNat ((p1.Config.ah.length:Nat):Int)) (default:aK)),([]:List dQ),0⟩:bB) 0)))))
def Hr (p1:ak):Nat->aB->Int->Option aB|0,_,_=>none|fu1+1,x1,x2=>(bif(decide (x2<((p1.Cells.length:Nat):Int)))then(chk (decide ((x1.Cells.length+ [(⟨1,0,0,0⟩:aH)].length)*32<=room)) ((Hr p1 fu1) {x1 with Cells:=(x1.Cells++ [(⟨1,0,0,0⟩:aH)])} (w64 (x2+1))))else(some x1))
def Ht [Fuel] (p1:ak):Nat->aB->Int->Option aB|0,_,_=>none|fu2+1,x3,x4=>(bif(decide (x4<((p1.ah.length:Nat):Int)))then(chk (decide ((x3.ah.length+ [(⟨false,false,(-1),(-1),(-1),(-1),0,⟨(-1),0,0,0,0⟩⟩:ay)].length)*88<=room)) ((Ht p1 fu2) {x3 with ah:=(x3.ah++ [(⟨false,false,(-1),(-1),(-1),(-1),0,⟨(-1),0,0,0,0⟩⟩:ay)]),Cells:=([]:List aH)} (w64 (x4+1))))else Hr p1 fuel {x3 with Cells:=([]:List aH)} 0)
def Ve [Fuel] (p1:ak):Option aB:=Ht p1 fuel (⟨0,0,([]:List ay),([]:List aH),1,0,0,0⟩:aB) 0
def Mc (p1:aP):Option (Bool×aP):=(some ((decide (p1.At<((p1.L.length:Nat):Int))),p1))
def J6 (p1 p2:Int):Option aA:=(some (⟨p1,p2,(-1),(-1),(-1),0,0,0,0⟩:aA))
def Hu (p1 p2:Int):Option Bool:=(chk (!((decide (0<=p2))&&(decide (p2<62)))||decide ((0:Int)<=(IntKind.u64.wrap p2))) (chk (!((decide (0<=p2))&&(decide (p2<62)))||decide (2≠(0:Int))) (some (((decide (0<=p2))&&(decide (p2<62)))&&((Int.tmod (oK .i64 p1 (IntKind.u64.wrap p2)) 2) !=0)))))
def ig (x1:aP) (x2:aA):Option (aA×aP):=(some (x2,x1))
def rz (p2:ak) (p3:aB) (p4:Int) (x3:aA) (x4:aH) (x5:aP) (x6 x7:Int) (x8:Bool):Option (aA×aP):=(bif x8 then((bC x5 p2.Lease).bind λx9=>ig x9.2 {x3 with Kind:=11,Tick:=(w64 (p4+x9.1)),Cell:=x6,N:=x4.Wanted})else(bif(x7==8)then((bC x5 (w64 (p2.Uz+1))).bind λx10=>ig x10.2 {x3 with Kind:=12,Tick:=(w64 (p4+x10.1)),N:=x4.Running})else(bif(x7==9)then((bC x5 p2.bK).bind λx11=>((Hu p3.bg x11.1).bind λx12=>(bif x12 then ig x11.2 {x3 with Kind:=13,Other:=x11.1,N:=0}else ig x11.2 {x3 with Kind:=13,Other:=x11.1,N:=1})))else(bif(x7==10)then(bif(decide (p3.Low<p3.High))then ig x5 {x3 with Kind:=15}else ig x5 {x3 with Kind:=14})else((bC x5 100).bind λx13=>ig x13.2 {x3 with N:=x13.1})))))
def rA (p2:ak) (p3:aB) (p4:Int) (x3:aA) (x4:aH) (x5:aP) (x6 x7:Int) (x14:Bool):Option (aA×aP):=(bif x14 then((bC x5 ((p2.bf.length:Nat):Int)).bind λx15=>ig x15.2 {x3 with Kind:=10,Cell:=x6,N:=x15.1})else(bif(x7==5)then rz p2 p3 p4 x3 x4 x5 x6 x7 (x7==5)else(bif(x7==6)then rz p2 p3 p4 x3 x4 x5 x6 x7 (x7==6)else rz p2 p3 p4 x3 x4 x5 x6 x7 (x7==7))))
def Jo (p1:aP) (p2:ak) (p3:aB) (p4:Int):Option (aA×aP):=((J6 16 p4).bind λx3=>((bC p1 ((p2.Cells.length:Nat):Int)).bind λx16=>(ixL p3.Cells x16.1 λx4=>((bC x16.2 12).bind λx17=>(bif(x17.1==0)then((gP x17.2 1 3).bind λx18=>ig x18.2 {x3 with Kind:=9,Cell:=x16.1,N:=x18.1})else(bif(x17.1==1)then ig x17.2 {x3 with Kind:=9,Cell:=x16.1,N:=1}else(bif(x17.1==2)then rA p2 p3 p4 x3 x4 x17.2 x16.1 x17.1 (x17.1==2)else(bif(x17.1==3)then rA p2 p3 p4 x3 x4 x17.2 x16.1 x17.1 (x17.1==3)else rA p2 p3 p4 x3 x4 x17.2 x16.1 x17.1 (x17.1==4)))))))))
def QM (p1:ak) (p2:Int):Option Int:=(bif((decide (p2<0))||(decide (((p1.Cells.length:Nat):Int)<=p2)))then(some (-1))else(ixL p1.Cells p2 λx1=>(some x1.Zone)))
def sH (p1:ak) (p2:Int):Option Int:=((QM p1 p2).bind λx1=>(bif(decide (x1<0))then(some (-1))else(ixL p1.kW x1 λx2=>(some x2.Region))))
def D5 (p1:ak) (p2 p3:Int):Option Bool:=(ixG ((decide (0<=p2))&&(decide (p2<((p1.ah.length:Nat):Int)))) p1.ah p2 λx1=>(((bif((decide (0<=p2))&&(decide (p2<((p1.ah.length:Nat):Int))))then sH p1 p3 else some default)).bind λx2=>(((bif((decide (0<=p2))&&(decide (p2<((p1.ah.length:Nat):Int))))then Hu x1.Allowed x2 else some default)).bind λx3=>(some (((decide (0<=p2))&&(decide (p2<((p1.ah.length:Nat):Int))))&&x3)))))
def GA (FW:(List Int)->Int->Option (List Int)) (x1:Int) (x2:List Int):Option (List Int):=FW x2 (w64 (x1+1))
def wM (p1:ak) (p2:Int):Nat->(List Int)->Int->Option (List Int)|0,_,_=>none|fu1+1,x3,x1=>(bif(decide (x1<((p1.Cells.length:Nat):Int)))then((D5 p1 p2 x1).bind λx4=>(bif x4 then(chk (decide ((x3.length+ [x1].length)*8<=room)) (GA (wM p1 p2 fu1) x1 (x3++ [x1])))else GA (wM p1 p2 fu1) x1 x3))else(some x3))
def J7 [Fuel] (p1:ak) (p2:Int):Option (List Int):=wM p1 p2 fuel ([]:List Int) 0
def J8 (p1:aP) (p2:List Int):Option (Int×aP):=(bif(((p2.length:Nat):Int)==0)then(some ((-1),p1))else((bC p1 ((p2.length:Nat):Int)).bind λx1=>(ixL p2 x1.1 λx2=>(some (x2,x1.2)))))
def J9 (p1:ak) (p2 p3:Int):Option Bool:=((sH p1 p2).bind λx1=>((sH p1 p3).bind λx2=>(some (((decide (0<=x1))&&(decide (0<=x2)))&&(x1 !=x2)))))
def zh (Ad:(List Int)->Int->Option (List Int)) (x1:Int) (x2:List Int):Option (List Int):=Ad x2 (w64 (x1+1))
def qh (p1:ak) (p2 p3:Int):Nat->(List Int)->Int->Option (List Int)|0,_,_=>none|fu1+1,x3,x1=>(bif(decide (x1<((p1.Cells.length:Nat):Int)))then((D5 p1 p2 x1).bind λx4=>(((bif x4 then J9 p1 p3 x1 else some default)).bind λx5=>(bif(x4&&x5)then(chk (decide ((x3.length+ [x1].length)*8<=room)) (zh (qh p1 p2 p3 fu1) x1 (x3++ [x1])))else zh (qh p1 p2 p3 fu1) x1 x3)))else(some x3))
def A8 [Fuel] (p1:ak) (p2 p3:Int):Option (List Int):=qh p1 p2 p3 fuel ([]:List Int) 0
def Jp (x1:aP) (x2:aA):Option (aA×aP):=(some (x2,x1))
def D6 (p2:ak) (p3:aB) (x3:aP) (x4:aA):Option (aA×aP):=((gP x3 1 p2.Lease).bind λx5=>(ixL p3.Cells x4.Cell λx6=>((dV x5.2 15).bind λx7=>(bif x7.1 then((bC x7.2 30).bind λx8=>Jp x8.2 {x4 with From:=(UE 0 (w64 (x4.From - 1))),Until:=(w64 ((w64 (x4.From+x5.1))+x8.1)),N:=x6.Running})else Jp x7.2 {x4 with Until:=(w64 (x4.From+x5.1)),N:=x6.Running}))))
def D7 (p2:ak) (p3:aB) (x9:ay) (x10:aP) (x11:aA):Option (aA×aP):=((dV x10 5).bind λx12=>(bif x12.1 then((bC x12.2 3).bind λx13=>D6 p2 p3 x13.2 {x11 with From:=(w64 ((UE x11.Tick x9.Window.Until)+x13.1))})else D6 p2 p3 x12.2 {x11 with From:=(UE x11.Tick x9.Window.Until)}))
def D8 (p2:ak) (p3:aB) (x9:ay) (x14:aP) (x15:aA):Option (aA×aP):=(((bif(x15.Cell !=x9.Home)then bC x14 4 else some (default,x14))).bind λx16=>(bif((x15.Cell !=x9.Home)&&(decide (0<x16.1)))then D7 p2 p3 x9 x16.2 {x15 with Tick:=(UE x15.Tick x9.Window.Until)}else D7 p2 p3 x9 x16.2 x15))
def zi (p2:ak) (p3:aB) (x9:ay) (x17:aP) (x18:aA):Option (aA×aP):=(((bif(!((x18.Cell !=x9.Home)||(x9.Epoch==0)))then dV x17 4 else some (default,x17))).bind λx19=>(bif(((x18.Cell !=x9.Home)||(x9.Epoch==0))||x19.1)then D8 p2 p3 x9 x19.2 {x18 with Epoch:=(w64 (x9.Epoch+1))}else D8 p2 p3 x9 x19.2 {x18 with Epoch:=x9.Epoch}))
def R9 (p1:aP) (p2:ak) (p3:aB) (p4:aA):Option (aA×aP):=(ixL p3.ah p4.aD λx9=>(((bif(decide (0<=x9.Target))then dV p1 2 else some (default,p1))).bind λx20=>(bif((decide (0<=x9.Target))&&x20.1)then zi p2 p3 x9 x20.2 {p4 with Cell:=x9.Target}else(((bif(decide (0<=x9.aN))then dV x20.2 5 else some (default,x20.2))).bind λx21=>(bif((decide (0<=x9.aN))&&(x21.1||x9.Ap))then zi p2 p3 x9 x21.2 {p4 with Cell:=x9.aN}else zi p2 p3 x9 x21.2 {p4 with Cell:=x9.Home})))))
def pQ (x1:aP) (x2:aA):Option (aA×aP):=(some (x2,x1))
def D9 [Fuel] (p2:ak) (p3:aB) (x3:aP) (x4:Int):Option (aA×aP):=(((bif(!(((p2.ah.length:Nat):Int)==0))then dV x3 4 else some (default,x3))).bind λx5=>(bif((((p2.ah.length:Nat):Int)==0)||x5.1)then((Jo x5.2 p2 p3 x4).bind λx6=>(some (x6.1,x6.2)))else((bC x5.2 ((p2.ah.length:Nat):Int)).bind λx7=>(ixL p3.ah x7.1 λx8=>(bif(!x8.Placed)then((J6 1 x4).bind λx9=>((J7 p2 x7.1).bind λx10=>((J8 x7.2 x10).bind λx11=>((A8 p2 x7.1 (UE 0 x11.1)).bind λx12=>((J8 x11.2 x12).bind λx13=>(some ({x9 with aD:=x7.1,Cell:=(UE 0 x11.1),Other:=x13.1},x13.2)))))))else((J6 2 x4).bind λx14=>((bC x7.2 12).bind λx15=>(bif(x15.1==0)then pQ x15.2 {x14 with Kind:=3,aD:=x7.1,Epoch:=(UE 1 x8.Epoch)}else(bif(x15.1==1)then((A8 p2 x7.1 x8.Home).bind λx16=>((J8 x15.2 x16).bind λx17=>pQ x17.2 {x14 with Kind:=4,aD:=x7.1,Cell:=x17.1}))else(bif(x15.1==2)then pQ x15.2 {x14 with Kind:=5,aD:=x7.1,Cell:=(UE 0 x8.Next)}else(bif(x15.1==3)then((J7 p2 x7.1).bind λx18=>((J8 x15.2 x18).bind λx19=>pQ x19.2 {x14 with Kind:=6,aD:=x7.1,Cell:=(UE 0 x19.1)}))else(bif(x15.1==4)then pQ x15.2 {x14 with Kind:=7,aD:=x7.1}else(bif(x15.1==5)then(bif x8.Ap then pQ x15.2 {x14 with Kind:=8,aD:=x7.1,N:=0}else pQ x15.2 {x14 with Kind:=8,aD:=x7.1,N:=1})else((R9 x15.2 p2 p3 {x14 with aD:=x7.1}).bind λx20=>(some (x20.1,x20.2))))))))))))))))
def Sb [Fuel] (p1:aP) (p2:ak) (p3:aB):Option (aA×aP):=((bC p1 4).bind λx21=>((dV x21.2 20).bind λx22=>(bif x22.1 then D9 p2 p3 x22.2 (UE 0 (w64 (p3.Tick - 1)))else D9 p2 p3 x22.2 (w64 (p3.Tick+x21.1)))))
def rU (p1 p2 p3:Int):Option Bool:=(some ((decide (p2<=p1))&&(decide (p1<=p3))))
def WE (p1:Int):Option ByteArray:=(bif((decide (p1<1))||(decide ((([ByteArray.empty,(ByteArray.mk #[116,99,111]),(ByteArray.mk #[116,99,101,119,118]),(ByteArray.mk #[116,101]),(ByteArray.mk #[116,67]),(ByteArray.mk #[116,99]),(ByteArray.mk #[116,99]),(ByteArray.mk #[116]),(ByteArray.mk #[116,98]),(ByteArray.mk #[99,109]),(ByteArray.mk #[99,118]),(ByteArray.mk #[99,118]),(ByteArray.mk #[118]),(ByteArray.mk #[114,98]),ByteArray.empty,ByteArray.empty,(ByteArray.mk #[110])].length:Nat):Int)<=p1)))then(some (ByteArray.mk #[63]))else(ixL [ByteArray.empty,(ByteArray.mk #[116,99,111]),(ByteArray.mk #[116,99,101,119,118]),(ByteArray.mk #[116,101]),(ByteArray.mk #[116,67]),(ByteArray.mk #[116,99]),(ByteArray.mk #[116,99]),(ByteArray.mk #[116]),(ByteArray.mk #[116,98]),(ByteArray.mk #[99,109]),(ByteArray.mk #[99,118]),(ByteArray.mk #[99,118]),(ByteArray.mk #[118]),(ByteArray.mk #[114,98]),ByteArray.empty,ByteArray.empty,(ByteArray.mk #[110])] p1 λx1=>(some x1)))
def Lj (p2:Int) (x1:ByteArray):Nat->Int->Option Bool|0,_=>none|fu1+1,x2=>(bif(decide (x2<((x1.size:Nat):Int)))then(chk (decide (0<=x2/\x2<((x1.size:Nat):Int))) (bif((adr x1 x2)==p2)then(some true)else(Lj p2 x1 fu1) (w64 (x2+1))))else(some false))
def jO [Fuel] (p1 p2:Int):Option Bool:=((WE p1).bind λx1=>Lj p2 x1 fuel 0)
def yF (x1:Bool):Option Bool:=(bif x1 then(some false)else(some true))
def yG [Fuel] (p1:aA) (p3 p4 x2:Int) (x3:Bool):Option Bool:=(bif x3 then(some false)else((jO x2 111).bind λx4=>(((bif x4 then rU p1.Other (-1) (w64 (p3 - 1))else some default)).bind λx5=>(bif(x4&&((!x5)||(p1.Other==p1.Cell)))then yF (x4&&((!x5)||(p1.Other==p1.Cell)))else((jO x2 114).bind λx6=>(((bif x6 then rU p1.Other 0 (w64 (p4 - 1))else some default)).bind λx7=>(bif(x6&&(!x7))then yF (x6&&(!x7))else((jO x2 111).bind λx8=>(((bif(!x8)then jO x2 114 else some default)).bind λx9=>yF (((!x8)&&(!x9))&&(p1.Other !=(-1))))))))))))
def CQ [Fuel] (p1:aA) (p2 p3 p4:Int):Option Bool:=((jO p1.Kind 116).bind λx10=>(((bif(!(!(x10==(p1.aD !=(-1)))))then jO p1.Kind 116 else some default)).bind λx11=>(((bif((!(!(x10==(p1.aD !=(-1)))))&&x11)then rU p1.aD 0 (w64 (p2 - 1))else some default)).bind λx12=>(bif((!(x10==(p1.aD !=(-1))))||(x11&&(!x12)))then(some false)else((jO p1.Kind 99).bind λx13=>(((bif x13 then rU p1.Cell 0 (w64 (p3 - 1))else some default)).bind λx14=>(bif(x13&&(!x14))then yG p1 p3 p4 p1.Kind (x13&&(!x14))else((jO p1.Kind 67).bind λx15=>(((bif x15 then rU p1.Cell (-1) (w64 (p3 - 1))else some default)).bind λx16=>(bif(x15&&(!x16))then yG p1 p3 p4 p1.Kind (x15&&(!x16))else((jO p1.Kind 99).bind λx17=>(((bif(!x17)then jO p1.Kind 67 else some default)).bind λx18=>yG p1 p3 p4 p1.Kind (((!x17)&&(!x18))&&(p1.Cell !=(-1)))))))))))))))
def wE [Fuel] (p1:aA) (p2 x1:Int) (x2:Bool):Option Bool:=(bif x2 then(some false)else((jO x1 118).bind λx3=>(bif x3 then((rU p1.N 0 (w64 (p2 - 1))).bind λx4=>(some x4))else((jO x1 98).bind λx5=>(bif x5 then((rU p1.N 0 1).bind λx6=>(some x6))else((jO x1 109).bind λx7=>(bif x7 then((rU p1.N 1 3).bind λx8=>(some x8))else((jO x1 110).bind λx9=>(bif x9 then((rU p1.N 0 1073741824).bind λx10=>(some x10))else(some (p1.N==0)))))))))))
def BH [Fuel] (p1:aA) (p2 x1:Int) (x11:Bool):Option Bool:=(bif x11 then(some false)else((jO x1 119).bind λx12=>(((bif x12 then rU p1.From 0 1073741824 else some default)).bind λx13=>(((bif(x12&&(!(!x13)))then rU p1.Until 0 1073741824 else some default)).bind λx14=>(bif(x12&&((!x13)||(!x14)))then wE p1 p2 x1 (x12&&((!x13)||(!x14)))else((jO x1 119).bind λx15=>wE p1 p2 x1 ((!x15)&&((p1.From !=0)||(p1.Until !=0)))))))))
def zk [Fuel] (p1:aA) (p2:Int):Option Bool:=((jO p1.Kind 101).bind λx16=>(((bif x16 then rU p1.Epoch 1 1048576 else some default)).bind λx17=>(bif(x16&&(!x17))then BH p1 p2 p1.Kind (x16&&(!x17))else((jO p1.Kind 101).bind λx18=>BH p1 p2 p1.Kind ((!x18)&&(p1.Epoch !=0))))))
def Uj [Fuel] (p1:aA) (p2 p3 p4 p5:Int):Option Bool:=((rU p1.Kind 1 16).bind λx1=>(((bif x1 then rU p1.Tick 0 1073741824 else some default)).bind λx2=>(((bif(x1&&x2)then CQ p1 p2 p3 p4 else some default)).bind λx3=>(((bif((x1&&x2)&&x3)then zk p1 p5 else some default)).bind λx4=>(some (((x1&&x2)&&x3)&&x4))))))
def FX [Fuel] (p1:ak) (p2:aA):Option Bool:=((Uj p2 (Qk ((p1.ah.length:Nat):Int) 32) (Qk ((p1.Cells.length:Nat):Int) 16) (Qk p1.bK 4) (Qk ((p1.bf.length:Nat):Int) 30)).bind λx1=>(some x1))
def dY (p1:Int):Option (aB×Int):=(some ((⟨0,0,([]:List ay),([]:List aH),0,0,0,0⟩:aB),p1))
def Ll (p1:aB):Option aB:=(chk (decide ((([]:List ay).length+p1.ah.length)*88<=room)) (chk (decide ((([]:List aH).length+p1.Cells.length)*32<=room)) (some {p1 with ah:=(([]:List ay)++p1.ah),Cells:=(([]:List aH)++p1.Cells)})))
def yH (p1:ak) (p2:aB) (p3:Int):Option Bool:=((sH p1 p3).bind λx1=>((Hu p2.bg x1).bind λx2=>(some x2)))
def pX (p1:ak) (p2 p3:Int):Option Bool:=(((bif((decide (0<=p2))&&(decide (0<=p3)))then J9 p1 p2 p3 else some default)).bind λx1=>(some (((decide (0<=p2))&&(decide (0<=p3)))&&(!x1))))
def Ka (p1:List Int) (p2 p3:Int):Option (List Int):=(bif((decide (0<=p2))&&(decide (p2<((p1.length:Nat):Int))))then(ixL p1 p2 λx1=>(ixL p1 p2 λx2=>(dZ (p1.set (Int.toNat p2) (w64 (x1+p3))) λx3=>(some x3))))else(some p1))
def Ea (ou:(List Int)->Int->Option (List Int)) (x1:Int) (x2:List Int):Option (List Int):=ou x2 (w64 (x1+1))
def Eb (ou:(List Int)->Int->Option (List Int)) (x1:Int) (x3:ay) (x4:aW) (x5:List Int):Option (List Int):=((Ka x5 x3.aN x4.pR).bind λx6=>((Ka x6 x3.Next x4.pR).bind λx7=>Ea ou x1 x7))
def nQ (p1:ak) (p2:aB):Nat->(List Int)->Int->Option (List Int)|0,_,_=>none|fu1+1,x8,x1=>(bif(decide (x1<((p2.ah.length:Nat):Int)))then(ixL p2.ah x1 λx3=>(ixL p1.ah x1 λx4=>(bif(!x3.Placed)then Ea (nQ p1 p2 fu1) x1 x8 else(bif(!x3.Ap)then((Ka x8 x3.Home x4.Load).bind λx9=>((Ka x9 x3.Target x4.Load).bind λx10=>Eb (nQ p1 p2 fu1) x1 x3 x4 x10))else Eb (nQ p1 p2 fu1) x1 x3 x4 x8))))else(some x8))
def Lm [Fuel] (p1:ak) (p2:aB):Option (List Int):=(chk (decide ((0:Int)<=((p1.Cells.length:Nat):Int)/\(((p1.Cells.length:Nat):Int):Int)<=((p1.Cells.length:Nat):Int)/\(((p1.Cells.length:Nat):Int):Int)<=9223372036854775807/\(((p1.Cells.length:Nat):Int):Int)*8<=140737488355328)) (nQ p1 p2 fuel (List.replicate (Int.toNat ((p1.Cells.length:Nat):Int)) (default:Int)) 0))
def Jq (II:(List Int)->Int->Option (List Int)) (x1:Int) (x2:List Int):Option (List Int):=II x2 (w64 (x1+1))
def vo (p1:ak) (x3:List Int):Nat->(List Int)->Int->Option (List Int)|0,_,_=>none|fu1+1,x4,x1=>(bif(decide (x1<((x3.length:Nat):Int)))then(ixL x3 x1 λx5=>(ixL p1.Cells x1 λx6=>(bif(decide (x6.kV<x5))then(chk (decide ((x4.length+ [x1].length)*8<=room)) (Jq (vo p1 x3 fu1) x1 (x4++ [x1])))else Jq (vo p1 x3 fu1) x1 x4)))else(some x4))
def Sc [Fuel] (p1:ak) (p2:aB):Option (List Int):=((Lm p1 p2).bind λx3=>vo p1 x3 fuel ([]:List Int) 0)
def Ec [Fuel] (p1:ak) (p2:aB):Option (aB×Int):=((Sc p1 p2).bind λx1=>(bif(decide (0<((x1.length:Nat):Int)))then(some ((⟨0,0,([]:List ay),([]:List aH),0,0,0,0⟩:aB),10))else(some (p2,0))))
def Oj [Fuel] (p1:ak) (p2:aB) (p3:aA):Option (aB×Int):=(ixL p2.ah p3.aD λx1=>(bif x1.Placed then((dY 4).bind λx2=>(some (x2.1,x2.2)))else(ixL p2.Cells p3.Cell λx3=>(ixG ((!(x3.Mode !=1))&&(decide (0<=p3.Other))) p2.Cells p3.Other λx4=>(bif((x3.Mode !=1)||((decide (0<=p3.Other))&&(x4.Mode !=1)))then((dY 6).bind λx5=>(some (x5.1,x5.2)))else((yH p1 p2 p3.Cell).bind λx6=>(((bif((!x6)&&(decide (0<=p3.Other)))then yH p1 p2 p3.Other else some default)).bind λx7=>(bif(x6||((decide (0<=p3.Other))&&x7))then((dY 12).bind λx8=>(some (x8.1,x8.2)))else((D5 p1 p3.aD p3.Cell).bind λx9=>(((bif((!(!x9))&&(decide (0<=p3.Other)))then D5 p1 p3.aD p3.Other else some default)).bind λx10=>(((bif(((!(!x9))&&(decide (0<=p3.Other)))&&(!(!x10)))then pX p1 p3.Cell p3.Other else some default)).bind λx11=>(bif((!x9)||((decide (0<=p3.Other))&&((!x10)||x11)))then((dY 11).bind λx12=>(some (x12.1,x12.2)))else(dZ (p2.ah.set (Int.toNat p3.aD) {x1 with Placed:=true}) λx13=>(dZ (x13.getD (Int.toNat p3.aD) default) λx14=>(dZ (x13.set (Int.toNat p3.aD) {x14 with Home:=p3.Cell}) λx15=>(dZ (x15.getD (Int.toNat p3.aD) default) λx16=>(dZ (x15.set (Int.toNat p3.aD) {x16 with aN:=p3.Other}) λx17=>((Ec p1 {p2 with ah:=x17}).bind λx18=>(some (x18.1,x18.2))))))))))))))))))))
def Jr (p1:ak) (p2:aB) (p3:aA):Option Int:=(ixL p2.ah p3.aD λx1=>(ixL p2.Cells p3.Cell λx2=>(bif((x2.Mode==3)||((x2.Mode==2)&&(!(p3.Cell==x1.Home))))then(some 6)else(bif((((p3.Cell==x1.Home)&&(p3.Epoch !=x1.Epoch))&&(p3.Epoch !=(w64 (x1.Epoch+1))))||((!(p3.Cell==x1.Home))&&(p3.Epoch !=(w64 (x1.Epoch+1)))))then(some 7)else(bif((p3.N !=x2.Running)||(x2.Running !=x2.Wanted))then(some 8)else(bif(((((decide (p3.From<p3.Tick))||(decide ((w64 (p3.Tick+p1.Lease))<p3.From)))||(decide (p3.Until<=p3.From)))||(decide (p1.Lease<(w64 (p3.Until - p3.From)))))||(decide (p3.From<x1.Window.Until)))then(some 9)else(bif((!(p3.Cell==x1.Home))&&(decide (p3.Tick<x1.Window.Until)))then(some 9)else(some 0))))))))
def A9 [Fuel] (p1:ak) (x1:aB):Option (aB×Int):=((Ec p1 x1).bind λx2=>(some (x2.1,x2.2)))
def Ol [Fuel] (p1:ak) (p2:aB) (p3:aA):Option (aB×Int):=(ixL p2.ah p3.aD λx3=>(bif((!x3.Placed)||(x3.Ap&&(p3.Cell !=x3.aN)))then((dY 4).bind λx4=>(some (x4.1,x4.2)))else(bif(((p3.Cell !=x3.Home)&&(p3.Cell !=x3.aN))&&(p3.Cell !=x3.Target))then((dY 5).bind λx5=>(some (x5.1,x5.2)))else((Jr p1 p2 p3).bind λx6=>(bif(x6 !=0)then((dY x6).bind λx7=>(some (x7.1,x7.2)))else(dZ (p2.ah.set (Int.toNat p3.aD) {x3 with Window:=(⟨p3.Cell,p3.Epoch,p3.N,p3.From,p3.Until⟩:aT)}) λx8=>(dZ (x8.getD (Int.toNat p3.aD) default) λx9=>(dZ (x8.set (Int.toNat p3.aD) {x9 with Epoch:=p3.Epoch}) λx10=>(dZ (x10.getD (Int.toNat p3.aD) default) λx11=>(bif(p3.Cell==x11.Home)then A9 p1 {p2 with ah:=x10}else(bif(p3.Cell==x11.aN)then(dZ (x10.set (Int.toNat p3.aD) {x11 with Home:=p3.Cell}) λx12=>(dZ (x12.getD (Int.toNat p3.aD) default) λx13=>(dZ (x12.set (Int.toNat p3.aD) {x13 with aN:=(-1)}) λx14=>(dZ (x14.getD (Int.toNat p3.aD) default) λx15=>(dZ (x14.set (Int.toNat p3.aD) {x15 with Next:=(-1)}) λx16=>(dZ (x16.getD (Int.toNat p3.aD) default) λx17=>(dZ (x16.set (Int.toNat p3.aD) {x17 with Target:=(-1)}) λx18=>(dZ (x18.getD (Int.toNat p3.aD) default) λx19=>(dZ (x18.set (Int.toNat p3.aD) {x19 with Ap:=false}) λx20=>A9 p1 {p2 with ah:=x20})))))))))else(dZ (x10.set (Int.toNat p3.aD) {x11 with Home:=p3.Cell}) λx21=>(dZ (x21.getD (Int.toNat p3.aD) default) λx22=>(dZ (x21.set (Int.toNat p3.aD) {x22 with Target:=(-1)}) λx23=>A9 p1 {p2 with ah:=x23}))))))))))))))
def Zt (p1:aT) (p2:Int):Option aT:=(some {p1 with From:=(Qk p1.From (Qk p1.Until (w64 (p2+1)))),Until:=(Qk p1.Until (w64 (p2+1)))})
def Vf (p1:aB) (p2:aA):Option (aB×Int):=(ixL p1.ah p2.aD λx1=>(bif(!x1.Placed)then((dY 4).bind λx2=>(some (x2.1,x2.2)))else(bif(p2.Epoch !=x1.Epoch)then((dY 7).bind λx3=>(some (x3.1,x3.2)))else((Zt x1.Window p2.Tick).bind λx4=>(dZ (p1.ah.set (Int.toNat p2.aD) {x1 with Window:=x4}) λx5=>(some ({p1 with ah:=x5},0)))))))
def BI [Fuel] (p1:ak) (p2:aB) (p3:aA) (x1:Nat):Option (aB×Int):=(dZ (p2.ah.getD x1 default) λx2=>(dZ (p2.ah.set x1 {x2 with Next:=p3.Cell}) λx3=>((Ec p1 {p2 with ah:=x3}).bind λx4=>(some (x4.1,x4.2)))))
def Js [Fuel] (p1:ak) (p2:aB) (p3:aA):Option (aB×Int):=(ixL p2.ah p3.aD λx5=>(bif(!x5.Placed)then((dY 4).bind λx6=>(some (x6.1,x6.2)))else(bif(decide (p3.Cell<0))then BI p1 p2 p3 (Int.toNat p3.aD)else(bif(((p3.Cell==x5.Home)||(p3.Cell==x5.aN))||(p3.Cell==x5.Target))then((dY 5).bind λx7=>(some (x7.1,x7.2)))else(ixL p2.Cells p3.Cell λx8=>(bif(x8.Mode !=1)then((dY 6).bind λx9=>(some (x9.1,x9.2)))else((yH p1 p2 p3.Cell).bind λx10=>(bif x10 then((dY 12).bind λx11=>(some (x11.1,x11.2)))else((D5 p1 p3.aD p3.Cell).bind λx12=>(((bif(!(!x12))then pX p1 p3.Cell x5.Home else some default)).bind λx13=>(((bif(!((!x12)||x13))then pX p1 p3.Cell x5.Target else some default)).bind λx14=>(bif(((!x12)||x13)||x14)then((dY 11).bind λx15=>(some (x15.1,x15.2)))else BI p1 p2 p3 (Int.toNat p3.aD)))))))))))))
def Oo (p1:aB) (p2:aA):Option (aB×Int):=(ixL p1.ah p2.aD λx1=>(bif(!x1.Placed)then((dY 4).bind λx2=>(some (x2.1,x2.2)))else(bif(p2.Cell !=x1.Next)then((dY 5).bind λx3=>(some (x3.1,x3.2)))else(ixL p1.Cells p2.Cell λx4=>(bif(x4.Mode==3)then((dY 6).bind λx5=>(some (x5.1,x5.2)))else(dZ (p1.ah.set (Int.toNat p2.aD) {x1 with aN:=p2.Cell}) λx6=>(dZ (x6.getD (Int.toNat p2.aD) default) λx7=>(dZ (x6.set (Int.toNat p2.aD) {x7 with Next:=(-1)}) λx8=>(some ({p1 with ah:=x8},0))))))))))
def Jt [Fuel] (p1:ak) (p2:aB) (p3:aA):Option (aB×Int):=(ixL p2.ah p3.aD λx1=>(bif(((!x1.Placed)||x1.Ap)||(decide (0<=x1.Target)))then((dY 4).bind λx2=>(some (x2.1,x2.2)))else(bif(((p3.Cell==x1.Home)||(p3.Cell==x1.aN))||(p3.Cell==x1.Next))then((dY 5).bind λx3=>(some (x3.1,x3.2)))else(ixL p2.Cells p3.Cell λx4=>(bif(x4.Mode !=1)then((dY 6).bind λx5=>(some (x5.1,x5.2)))else((yH p1 p2 p3.Cell).bind λx6=>(bif x6 then((dY 12).bind λx7=>(some (x7.1,x7.2)))else((D5 p1 p3.aD p3.Cell).bind λx8=>(((bif(!(!x8))then pX p1 p3.Cell x1.aN else some default)).bind λx9=>(((bif(!((!x8)||x9))then pX p1 p3.Cell x1.Next else some default)).bind λx10=>(bif(((!x8)||x9)||x10)then((dY 11).bind λx11=>(some (x11.1,x11.2)))else(dZ (p2.ah.set (Int.toNat p3.aD) {x1 with Target:=p3.Cell}) λx12=>((Ec p1 {p2 with ah:=x12}).bind λx13=>(some (x13.1,x13.2)))))))))))))))
def Ju (p1:aB) (p2:aA):Option (aB×Int):=(ixL p1.ah p2.aD λx1=>(bif((!x1.Placed)||(decide (x1.Target<0)))then((dY 4).bind λx2=>(some (x2.1,x2.2)))else(dZ (p1.ah.set (Int.toNat p2.aD) {x1 with Target:=(-1)}) λx3=>(some ({p1 with ah:=x3},0)))))
def Sd [Fuel] (p1:ak) (p2:aB) (p3:aA):Option (aB×Int):=(ixL p2.ah p3.aD λx1=>(bif(p3.N==1)then(bif((!x1.Placed)||x1.Ap)then((dY 4).bind λx2=>(some (x2.1,x2.2)))else(bif(decide (p3.Tick<x1.Window.Until))then((dY 9).bind λx3=>(some (x3.1,x3.2)))else(dZ (p2.ah.set (Int.toNat p3.aD) {x1 with Ap:=true}) λx4=>(dZ (x4.getD (Int.toNat p3.aD) default) λx5=>(dZ (x4.set (Int.toNat p3.aD) {x5 with Target:=(-1)}) λx6=>(some ({p2 with ah:=x6},0)))))))else(bif(!x1.Ap)then((dY 4).bind λx7=>(some (x7.1,x7.2)))else(ixL p2.Cells x1.Home λx8=>(bif(x8.Mode==3)then((dY 6).bind λx9=>(some (x9.1,x9.2)))else(dZ (p2.ah.set (Int.toNat p3.aD) {x1 with Ap:=false}) λx10=>((Ec p1 {p2 with ah:=x10}).bind λx11=>(some (x11.1,x11.2)))))))))
def rV (p1:aB) (p2:Int):Option Bool:=((Hu p1.jY p2).bind λx1=>(some x1))
def Sg (p1:aB) (p2:Int):Option Bool:=(ixL p1.Cells p2 λx1=>((rV p1 x1.Running).bind λx2=>(ixG (!(!x2)) p1.Cells p2 λx3=>(((bif(!(!x2))then rV p1 x3.Wanted else some default)).bind λx4=>(some ((!x2)||(!x4)))))))
def Jv (IJ:Int->Int->Option (aB×Int)) (x1 x2:Int):Option (aB×Int):=IJ x2 (w64 (x1+1))
def zm (p1:ak) (p2:aB) (p3:aA) (x3:aY) (x4:Nat):Nat->Int->Int->Option (aB×Int)|0,_,_=>none|fu1+1,x5,x1=>(bif(decide (x1<((p2.Cells.length:Nat):Int)))then(((bif(x1 !=p3.Cell)then Sg p2 x1 else some default)).bind λx6=>(bif((x1 !=p3.Cell)&&x6)then Jv (zm p1 p2 p3 x3 x4 fu1) x1 (w64 (x5+1))else Jv (zm p1 p2 p3 x3 x4 fu1) x1 x5))else(dZ (p2.Cells.getD x4 default) λx7=>(bif(x7.Wanted==p3.N)then((dY 4).bind λx8=>(some (x8.1,x8.2)))else(bif((decide (p2.Low<x3.Low))||(decide (x3.High<p2.High)))then((dY 13).bind λx9=>(some (x9.1,x9.2)))else(((bif(p3.N !=x7.Running)then rV p2 p3.N else some default)).bind λx10=>(bif(((p3.N !=x7.Running)&&(!x10))&&(p2.bg !=0))then((dY 12).bind λx11=>(some (x11.1,x11.2)))else(((bif(p3.N !=x7.Running)then rV p2 p3.N else some default)).bind λx12=>(bif(((p3.N !=x7.Running)&&(!x12))&&(decide (p1.BM<=x5)))then((dY 14).bind λx13=>(some (x13.1,x13.2)))else(dZ (p2.Cells.set x4 {x7 with Wanted:=p3.N}) λx14=>(some ({p2 with Cells:=x14},0)))))))))))
def Si [Fuel] (p1:ak) (p2:aB) (p3:aA):Option (aB×Int):=(ixL p2.Cells p3.Cell λx15=>(ixL p1.bf p3.N λx3=>zm p1 p2 p3 x3 (Int.toNat p3.Cell) fuel 0 0))
def zn (p1:aB) (p2:aA) (x1:Nat):Nat->Int->Option (aB×Int)|0,_=>none|fu1+1,x2=>(bif(decide (x2<((p1.ah.length:Nat):Int)))then(ixL p1.ah x2 λx3=>(bif((x3.Window.Cell==p2.Cell)&&(decide (p2.Tick<x3.Window.Until)))then((dY 9).bind λx4=>(some (x4.1,x4.2)))else(zn p1 p2 x1 fu1) (w64 (x2+1))))else(dZ (p1.Cells.getD x1 default) λx5=>(dZ (p1.Cells.set x1 {x5 with Running:=p2.N}) λx6=>(dZ (x6.getD x1 default) λx7=>(dZ (x6.set x1 {x7 with Since:=p2.Tick}) λx8=>(some ({p1 with Cells:=x8},0)))))))
def Sj [Fuel] (p1:aB) (p2:aA):Option (aB×Int):=(ixL p1.Cells p2.Cell λx9=>(bif((p2.N !=x9.Wanted)||(x9.Running==x9.Wanted))then((dY 4).bind λx10=>(some (x10.1,x10.2)))else((rV p1 p2.N).bind λx11=>(bif((!x11)&&(p1.bg !=0))then((dY 12).bind λx12=>(some (x12.1,x12.2)))else zn p1 p2 (Int.toNat p2.Cell) fuel 0))))
def wN (p1:ak) (p2:aB) (p3:aA):Nat->Int->Option (aB×Int)|0,_=>none|fu1+1,x1=>(bif(decide (x1<((p2.Cells.length:Nat):Int)))then(ixL p2.Cells x1 λx2=>(bif((((x2.Mode !=3)&&(x2.Running==p3.N))&&(x2.Wanted==p3.N))&&(decide (p1.Uz<=(w64 (p3.Tick - x2.Since)))))then(chk (decide ((0:Int)<=(IntKind.u64.wrap p3.N))) (some ({p2 with jY:=(orK .i64 p2.jY (Dk .i64 1 (IntKind.u64.wrap p3.N)))},0)))else(wN p1 p2 p3 fu1) (w64 (x1+1))))else((dY 15).bind λx3=>(some (x3.1,x3.2))))
def Oq [Fuel] (p1:ak) (p2:aB) (p3:aA):Option (aB×Int):=((rV p2 p3.N).bind λx4=>(bif x4 then((dY 4).bind λx5=>(some (x5.1,x5.2)))else wN p1 p2 p3 fuel 0))
def tT (p1:ak) (p2:aB):Nat->Int->Option (aB×Int)|0,_=>none|fu1+1,x1=>(bif(decide (x1<((p2.Cells.length:Nat):Int)))then(ixL p2.Cells x1 λx2=>(ixL p1.bf x2.Running λx3=>(ixG (!(decide (x3.High<=p2.High))) p1.bf x2.Wanted λx4=>(bif((decide (x3.High<=p2.High))||(decide (x4.High<=p2.High)))then((dY 13).bind λx5=>(some (x5.1,x5.2)))else(tT p1 p2 fu1) (w64 (x1+1))))))else(some ({p2 with High:=(w64 (p2.High+1))},0)))
def Lp [Fuel] (p1:ak) (p2:aB):Option (aB×Int):=(bif(decide (p2.Low<p2.High))then((dY 4).bind λx6=>(some (x6.1,x6.2)))else(bif(decide (30<=p2.High))then((dY 2).bind λx7=>(some (x7.1,x7.2)))else tT p1 p2 fuel 0))
def nG (x1:aB):Option (aB×Int):=(some (x1,0))
def Ot [Fuel] (p1:ak) (p2:aB) (p3:aA):Option (aB×Int):=((FX p1 p3).bind λx2=>(bif(!x2)then((dY 1).bind λx3=>(some (x3.1,x3.2)))else(bif(decide (4096<=p2.Count))then((dY 2).bind λx4=>(some (x4.1,x4.2)))else(bif(decide (p3.Tick<p2.Tick))then((dY 3).bind λx5=>(some (x5.1,x5.2)))else((Ll p2).bind λx6=>(bif(p3.Kind==1)then((Oj p1 {x6 with Tick:=p3.Tick,Count:=(w64 (x6.Count+1))} p3).bind λx7=>(some (x7.1,x7.2)))else(bif(p3.Kind==2)then((Ol p1 {x6 with Tick:=p3.Tick,Count:=(w64 (x6.Count+1))} p3).bind λx8=>(some (x8.1,x8.2)))else(bif(p3.Kind==3)then((Vf {x6 with Tick:=p3.Tick,Count:=(w64 (x6.Count+1))} p3).bind λx9=>(some (x9.1,x9.2)))else(bif(p3.Kind==4)then((Js p1 {x6 with Tick:=p3.Tick,Count:=(w64 (x6.Count+1))} p3).bind λx10=>(some (x10.1,x10.2)))else(bif(p3.Kind==5)then((Oo {x6 with Tick:=p3.Tick,Count:=(w64 (x6.Count+1))} p3).bind λx11=>(some (x11.1,x11.2)))else(bif(p3.Kind==6)then((Jt p1 {x6 with Tick:=p3.Tick,Count:=(w64 (x6.Count+1))} p3).bind λx12=>(some (x12.1,x12.2)))else(bif(p3.Kind==7)then((Ju {x6 with Tick:=p3.Tick,Count:=(w64 (x6.Count+1))} p3).bind λx13=>(some (x13.1,x13.2)))else(bif(p3.Kind==8)then((Sd p1 {x6 with Tick:=p3.Tick,Count:=(w64 (x6.Count+1))} p3).bind λx14=>(some (x14.1,x14.2)))else(bif(p3.Kind==9)then(ixL x6.Cells p3.Cell λx15=>(bif(x15.Mode==p3.N)then((dY 4).bind λx16=>(some (x16.1,x16.2)))else(ixL x6.Cells p3.Cell λx17=>(dZ (x6.Cells.set (Int.toNat p3.Cell) {x17 with Mode:=p3.N}) λx18=>(ixL x18 p3.Cell λx19=>(dZ (x18.set (Int.toNat p3.Cell) {x19 with Since:=p3.Tick}) λx20=>nG {x6 with Tick:=p3.Tick,Count:=(w64 (x6.Count+1)),Cells:=x20}))))))else(bif(p3.Kind==10)then((Si p1 {x6 with Tick:=p3.Tick,Count:=(w64 (x6.Count+1))} p3).bind λx21=>(some (x21.1,x21.2)))else(bif(p3.Kind==11)then((Sj {x6 with Tick:=p3.Tick,Count:=(w64 (x6.Count+1))} p3).bind λx22=>(some (x22.1,x22.2)))else(bif(p3.Kind==12)then((Oq p1 {x6 with Tick:=p3.Tick,Count:=(w64 (x6.Count+1))} p3).bind λx23=>(some (x23.1,x23.2)))else(bif(p3.Kind==13)then((Hu x6.bg p3.Other).bind λx24=>(bif(x24==(p3.N==1))then((dY 4).bind λx25=>(some (x25.1,x25.2)))else(chk (decide ((0:Int)<=(IntKind.u64.wrap p3.Other))) (nG {x6 with Tick:=p3.Tick,Count:=(w64 (x6.Count+1)),bg:=(ajb .i64 x6.bg (Dk .i64 1 (IntKind.u64.wrap p3.Other)))}))))else(bif(p3.Kind==14)then((Lp p1 {x6 with Tick:=p3.Tick,Count:=(w64 (x6.Count+1))}).bind λx26=>(some (x26.1,x26.2)))else(bif(p3.Kind==15)then(bif(x6.High==x6.Low)then((dY 4).bind λx27=>(some (x27.1,x27.2)))else nG {x6 with Tick:=p3.Tick,Count:=(w64 (x6.Count+1)),Low:=x6.High})else nG {x6 with Tick:=p3.Tick,Count:=(w64 (x6.Count+1))}))))))))))))))))))))
def Uk [Fuel] (GD:aP->aB->(List aA)->Option (List aA)) (p2:ak) (x1:aB) (x2:List aA) (x3:aP):Option (List aA):=((Sb x3 p2 x1).bind λx4=>((Ot p2 x1 x4.1).bind λx5=>(bif(x5.2==0)then(chk (decide ((x2.length+ [x4.1].length)*72<=room)) (GD x4.2 x5.1 (x2++ [x4.1])))else GD x4.2 x1 x2)))
def Kc [Fuel] (p2:ak) (p3:Int):Nat->aP->aB->(List aA)->Option (List aA)|0,_,_,_=>none|fu1+1,x6,x1,x2=>(((bif(decide (((x2.length:Nat):Int)<p3))then Mc x6 else some (default,x6))).bind λx7=>(bif((decide (((x2.length:Nat):Int)<p3))&&x7.1)then Uk (Kc p2 p3 fu1) p2 x1 x2 x7.2 else(some x2)))
def Vg [Fuel] (p1:List Int) (p2:ak) (p3:Int):Option (List aA):=((Vb p1).bind λx8=>((Ve p2).bind λx9=>Kc p2 p3 fuel x8 x9 ([]:List aA)))
def bZ (p1:List aI) (p2:aI) (x1:Int):Nat->Int->Option Int|0,_=>none|fu1+1,x2=>(bif(decide (x2<x1))then(ixL p1 x2 λx3=>(bif((p2.Rule==x3.Rule)&&((p2.aD==x3.aD)&&((p2.Other==x3.Other)&&((p2.Cell==x3.Cell)&&((p2.Region==x3.Region)&&true)))))then(some x2)else(bZ p1 p2 x1 fu1) (w64 (x2+1))))else(some (-1)))
def kY [Fuel] (p1:List aI) (p2:aI):Option Int:=bZ p1 p2 ((p1.length:Nat):Int) fuel 0
def gZ [Fuel] (p1:List aI) (p2:aI):Option Bool:=((kY p1 p2).bind λx1=>(some (decide (0<=x1))))
def MV [Fuel] (p1:aF) (p2:List aK) (p3:Int):Option Int:=((DV p1 p2).bind λx1=>(bif(!x1)then(some 0)else((DY p1 p2).bind λx2=>((MS x2 p3).bind λx3=>(some x3)))))
def MW [Fuel] (p1:aF) (p2:List aK) (p3:Int):Option Int:=((DV p1 p2).bind λx1=>(bif(!x1)then(some 0)else((J5 p1 p2).bind λx2=>((MU x2 p3).bind λx3=>(some x3)))))
def Ae [Fuel] (p1:aX) (p2:Int):Option (Bool×aX):=(chk (!(decide (1<=p2))||decide ((0:Int)<=p1.problem.Config.bK)) (((bif((decide (1<=p2))&&(decide (p2<(Dk .i64 1 p1.problem.Config.bK))))then MV p1.problem p1.places p2 else some default)).bind λx1=>(((bif((decide (1<=p2))&&(decide (p2<(Dk .i64 1 p1.problem.Config.bK))))then MW p1.problem p1.places p2 else some default)).bind λx2=>(some ((((decide (1<=p2))&&(decide (p2<(Dk .i64 1 p1.problem.Config.bK))))&&(decide (x2<x1))),p1)))))
def jW [Fuel] (p1:aX) (p2:Int):Option Bool:=(chk (!(decide (1<=p2))||decide ((0:Int)<=p1.problem.Config.bK)) (((bif((decide (1<=p2))&&(decide (p2<(Dk .i64 1 p1.problem.Config.bK))))then MV p1.problem p1.places p2 else some default)).bind λx1=>(((bif((decide (1<=p2))&&(decide (p2<(Dk .i64 1 p1.problem.Config.bK))))then MW p1.problem p1.places p2 else some default)).bind λx2=>(some (((decide (1<=p2))&&(decide (p2<(Dk .i64 1 p1.problem.Config.bK))))&&(decide (x2<x1)))))))
theorem Ou [Fuel] (p1:aX) (p2:Int):Ae p1 p2=(jW p1 p2).bind λx=>some (x,p1):=by
  simp only [Ae,jW,d9,bV,eu,eB,eD,bW,bX,bY]
def rW (tV:aX->Int->Option (Bool×aX)) (x1:Int) (x2:aX):Option (Bool×aX):=tV x2 (w64 (x1+1))
def kS (bq:aX->Option (Bool×aX)) (x3:Nat) (x4:Int):Nat->aX->Int->Option (Bool×aX)|0,_,_=>none|fu1+1,x5,x1=>(bif(decide (x1<x4))then(chk (decide ((0:Int)<=x1)) (bif((jN .i64 (oK .i64 x5.problem.Cells x1) 1)==0)then rW (kS bq x3 x4 fu1) x1 x5 else(dZ (x5.places.getD x3 default) λx6=>(dZ (x5.places.set x3 {x6 with aN:=x1}) λx7=>((bq {x5 with places:=x7}).bind λx8=>(bif(!x8.1)then(dZ (x8.2.places.getD x3 default) λx9=>(dZ (x8.2.places.set x3 {x9 with aN:=(-1)}) λx10=>(some (false,{x8.2 with places:=x10}))))else rW (kS bq x3 x4 fu1) x1 x8.2))))))else(dZ (x5.places.getD x3 default) λx11=>(dZ (x5.places.set x3 {x11 with aN:=(-1)}) λx12=>(some (true,{x5 with places:=x12})))))
def yI [Fuel] (bq:aX->Option (Bool×aX)) (p1:aX) (x3:Nat):Option (Bool×aX):=kS bq x3 ((p1.problem.Config.Cells.length:Nat):Int) fuel p1 0
def rX (tY:aX->Int->Option (Bool×aX)) (x13:Int) (x14:aX):Option (Bool×aX):=tY x14 (w64 (x13+1))
def kT (bq:aX->Option (Bool×aX)) (x15:Nat) (x16:Int):Nat->aX->Int->Option (Bool×aX)|0,_,_=>none|fu2+1,x17,x13=>(bif(decide (x13<x16))then(chk (decide ((0:Int)<=x13)) (bif((jN .i64 (oK .i64 x17.problem.Cells x13) 1)==0)then rX (kT bq x15 x16 fu2) x13 x17 else(dZ (x17.places.getD x15 default) λx18=>(dZ (x17.places.set x15 {x18 with Home:=x13}) λx19=>((bq {x17 with places:=x19}).bind λx20=>(bif(!x20.1)then(dZ (x20.2.places.getD x15 default) λx21=>(dZ (x20.2.places.set x15 {x21 with Home:=(-1)}) λx22=>(some (false,{x20.2 with places:=x22}))))else rX (kT bq x15 x16 fu2) x13 x20.2))))))else(dZ (x17.places.getD x15 default) λx23=>(dZ (x17.places.set x15 {x23 with Home:=(-1)}) λx24=>(some (true,{x17 with places:=x24})))))
def yJ [Fuel] (bq:aX->Option (Bool×aX)) (p1:aX) (x15:Nat):Option (Bool×aX):=kT bq x15 ((p1.problem.Config.Cells.length:Nat):Int) fuel p1 0
def xH [Fuel] (bq:aX->Option (Bool×aX)) (p1:aX) (p2:Int):Option (Bool×aX):=(chk (!(!(decide (p2<0)))||decide (2≠(0:Int))) (bif((decide (p2<0))||(decide (((p1.places.length:Nat):Int)<=(w64 (Int.tdiv p2 2)))))then(some (false,p1))else(ixL p1.places (w64 (Int.tdiv p2 2)) λx25=>(bif((Int.tmod p2 2)==1)then(ixL p1.places (w64 (Int.tdiv p2 2)) λx26=>(chk (!(!(x26.aN !=(-1)))||decide (2≠(0:Int))) (chk (!((!(x26.aN !=(-1)))&&((Int.tmod p2 2)==1))||decide (2≠(0:Int))) (((bif((!(x26.aN !=(-1)))&&((Int.tmod p2 2)==1))then pW p1.problem (w64 (Int.tdiv p2 2))else some default)).bind λx27=>(bif((x26.aN !=(-1))||(((Int.tmod p2 2)==1)&&x27))then(some (false,p1))else yI bq p1 (Int.toNat (w64 (Int.tdiv p2 2))))))))else(chk (!(!(x25.Home !=(-1)))||decide (2≠(0:Int))) (chk (!((!(x25.Home !=(-1)))&&((Int.tmod p2 2)==1))||decide (2≠(0:Int))) (((bif((!(x25.Home !=(-1)))&&((Int.tmod p2 2)==1))then pW p1.problem (w64 (Int.tdiv p2 2))else some default)).bind λx28=>(bif((x25.Home !=(-1))||(((Int.tmod p2 2)==1)&&x28))then(some (false,p1))else yJ bq p1 (Int.toNat (w64 (Int.tdiv p2 2)))))))))))
def tZ [Fuel] (bq:aX->Option (Bool×aX)) (p1:aX):Option (Bool×aX):=(bif(decide (((p1.tree.length:Nat):Int)<=p1.at_))then(some (false,p1))else(ixL p1.tree p1.at_ λx1=>(bif(x1.Kind==2)then(((bif((x1.Var==0)&&(x1.Set==0))then DX p1.problem p1.places else some default)).bind λx2=>(((bif((x1.Var==0)&&(x1.Set==0))then gZ x2 x1.jE else some default)).bind λx3=>(some ((((x1.Var==0)&&(x1.Set==0))&&x3),{p1 with at_:=(w64 (p1.at_+1))}))))else(bif(x1.Kind==3)then(((bif((x1.Var==0)&&((x1.jE.Rule==0)&&((x1.jE.aD==0)&&((x1.jE.Other==0)&&((x1.jE.Cell==0)&&((x1.jE.Region==0)&&true))))))then jW {p1 with at_:=(w64 (p1.at_+1))} x1.Set else some default)).bind λx4=>(some ((((x1.Var==0)&&((x1.jE.Rule==0)&&((x1.jE.aD==0)&&((x1.jE.Other==0)&&((x1.jE.Cell==0)&&((x1.jE.Region==0)&&true))))))&&x4),{p1 with at_:=(w64 (p1.at_+1))})))else(bif(x1.Kind==1)then(((bif((x1.Set==0)&&((x1.jE.Rule==0)&&((x1.jE.aD==0)&&((x1.jE.Other==0)&&((x1.jE.Cell==0)&&((x1.jE.Region==0)&&true))))))then xH bq {p1 with at_:=(w64 (p1.at_+1))} x1.Var else some (default,{p1 with at_:=(w64 (p1.at_+1))}))).bind λx5=>(some ((((x1.Set==0)&&((x1.jE.Rule==0)&&((x1.jE.aD==0)&&((x1.jE.Other==0)&&((x1.jE.Cell==0)&&((x1.jE.Region==0)&&true))))))&&x5.1),x5.2)))else(some (false,{p1 with at_:=(w64 (p1.at_+1))})))))))
def fF [Fuel]:Nat->aX->Option (Bool×aX)|0,_=>none|n+1,p1=>tZ (fF n) p1
def nR [Fuel] (p1:aF) (p2:eG) (x1:Int):Nat->(List aK)->Int->Option Bool|0,_,_=>none|fu1+1,x2,x3=>(bif(decide (x3<x1))then(ixL x2 x3 λx4=>(dZ (x2.set (Int.toNat x3) (⟨(-1),(-1)⟩:aK)) λx5=>(nR p1 p2 x1 fu1) x5 (w64 (x3+1))))else(((fF fuel) (⟨p1,x2,p2.Tree,0⟩:aX)).bind λx6=>(some (x6.1&&(x6.2.at_==((p2.Tree.length:Nat):Int))))))
def Hw [Fuel] (p1:aF) (p2:eG):Option Bool:=((uD p1.Config).bind λx7=>(bif(((x7 !=0)||(decide (0<((p2.Places.length:Nat):Int))))||(decide (2048<((p2.Tree.length:Nat):Int))))then(some false)else(chk (decide ((0:Int)<=((p1.Config.ah.length:Nat):Int)/\(((p1.Config.ah.length:Nat):Int):Int)<=((p1.Config.ah.length:Nat):Int)/\(((p1.Config.ah.length:Nat):Int):Int)<=9223372036854775807/\(((p1.Config.ah.length:Nat):Int):Int)*16<=140737488355328)) (nR p1 p2 (((List.replicate (Int.toNat ((p1.Config.ah.length:Nat):Int)) (default:aK)).length:Nat):Int) fuel (List.replicate (Int.toNat ((p1.Config.ah.length:Nat):Int)) (default:aK)) 0))))
def jL [Fuel] (jU:aF->Int->Option Bool) (p3:eG) (x1:ak) (x2:eG) (x3:Int) (x4:aB):Nat->aF->Bool->Int->Option Bool|0,_,_,_=>none|fu1+1,x5,x6,x7=>(bif(decide (x7<((x4.ah.length:Nat):Int)))then(ixL x4.ah x7 λx8=>(((bif(((x6&&x8.Placed)&&(!x8.Ap))&&(!(decide (0<=x8.aN))))then pW {x5 with Config:={x5.Config with ah:=x1.ah}} x7 else some default)).bind λx9=>(jL jU p3 x1 x2 x3 x4 fu1) {x5 with Config:={x5.Config with ah:=x1.ah}} (((x6&&x8.Placed)&&(!x8.Ap))&&((decide (0<=x8.aN))||x9)) (w64 (x7+1))))else(((bif x6 then Hw {x5 with Config:={x5.Config with ah:=x1.ah}} p3 else some default)).bind λx10=>(((bif(x6&&(!x10))then Hw {x5 with Config:={x5.Config with ah:=x1.ah}} x2 else some default)).bind λx11=>(bif(x6&&(x10||x11))then(some false)else jU {x5 with Config:={x5.Config with ah:=x1.ah}} (w64 (x3+1))))))
def FY [Fuel] (jU:aF->Int->Option Bool) (p3:eG) (x1:ak) (x12:List aA) (x2:eG) (x3:Int) (x13:aF):Option Bool:=(chk (decide (0<=x3/\x3<=((x12.length:Nat):Int))) ((MP x1 (x12.take (Int.toNat x3))).bind λx14=>(bif((x14.2.2 !=0)||(((x14.1.ah.length:Nat):Int) !=((x1.ah.length:Nat):Int)))then(some false)else jL jU p3 x1 x2 x3 x14.1 fuel {x13 with Config:={x13.Config with ah:=x1.ah}} true 0)))
def fZ [Fuel] (p3:eG) (x1:ak) (x12:List aA) (x2:eG):Nat->aF->Int->Option Bool|0,_,_=>none|fu2+1,x15,x3=>(bif(decide (x3<=((x12.length:Nat):Int)))then FY (fZ p3 x1 x12 x2 fu2) p3 x1 x12 x2 x3 {x15 with Config:={x15.Config with ah:=x1.ah}}else(some true))
def jM [Fuel] (p2:List Int) (p3:eG):Nat->ak->Int->Option Bool|0,_,_=>none|fu3+1,x1,x16=>(bif(decide (x16<((x1.ah.length:Nat):Int)))then(ixL x1.ah x16 λx17=>(dZ (x1.ah.set (Int.toNat x16) {x17 with sO:=0}) λx18=>(ixL x18 x16 λx19=>(dZ (x18.set (Int.toNat x16) {x19 with LM:=false}) λx20=>(jM p2 p3 fu3) {x1 with ah:=x20} (w64 (x16+1))))))else(chk (decide ((0:Int)<=(IntKind.u64.wrap ((x1.Cells.length:Nat):Int)))) ((R8 (⟨x1,(w64 ((Dk .i64 1 (IntKind.u64.wrap ((x1.Cells.length:Nat):Int))) - 1)),false⟩:aF)).bind λx21=>(bif(x21.2 !=0)then(some (x21.2==2))else((Vg p2 x1 40).bind λx12=>fZ p3 x1 x12 x21.1 fuel (⟨x1,(w64 ((Dk .i64 1 (IntKind.u64.wrap ((x1.Cells.length:Nat):Int))) - 1)),false⟩:aF) 0)))))
def Md [Fuel] (p1 p2:List Int) (p3:eG):Option Bool:=((Va).bind λx22=>(((bif(!(!x22))then RZ p1 else some default)).bind λx23=>(((bif(!((!x22)||(!x23)))then RZ p2 else some default)).bind λx24=>(bif(((((!x22)||(!x23))||(!x24))||(decide (200<((p3.Tree.length:Nat):Int))))||(decide (40<((p3.Places.length:Nat):Int))))then((Va).bind λx25=>(some x25))else((Oa p1).bind λx26=>(chk (decide ((([]:List aW).length+x26.ah.length)*56<=room)) (jM p2 p3 fuel {x26 with ah:=(([]:List aW)++x26.ah)} 0)))))))
end Go.CP
namespace Go.CP
open Go
theorem iR {α β:Type} [Inhabited α] (xs:List α) (i:Int) (k:α->Option β):ixL xs i k=(idx xs i).bind k:=by
 unfold ixL idx chk;cases decide (0<=i/\i<(xs.length:Int))<;>rfl
theorem asj {α β:Type} [Inhabited α] (g:Bool) (xs:List α) (i:Int) (k:α->Option β):ixG g xs i k=chk (!g||decide (0<=i/\i<(xs.length:Int))) (k (xs.getD i.toNat default)):=rfl
theorem akQ {α β:Type} [Inhabited α] {g:Bool} {xs:List α} {i:Int} {k:α->Option β} (h:g=true->0<=i/\i<(xs.length:Int)):ixG g xs i k=k (xs.getD i.toNat default):=by
 cases g with
 |false=>rfl
 |true=>rw [asj,decide_eq_true (h rfl)];rfl
theorem akR {α β:Type} [Inhabited α] {g:Bool} {xs:List α} {i:Int} {k:α->Option β} (h:0<=i/\i<(xs.length:Int)):ixG g xs i k=k (xs.getD i.toNat default):=akQ λ_=>h
def Ok {α:Type} (m:Option α) (P:α->Prop):Prop:=∃a,m=some a/\P a
section
variable {α β:Type} {P:α->Prop} {Q:β->Prop}
theorem Ok.bind {m:Option α} {k:α->Option β} (h:Ok m P) (hk:∀a,P a->Ok (k a) Q):Ok (m.bind k) Q:=by
 obtain⟨a,rfl,ha⟩:=h;exact hk a ha
theorem Ok.Vh {m:Option α} {k:α->Option β} {a:α} (h:m=some a) (hk:Ok (k a) Q):Ok (m.bind k) Q:=by
 subst h;exact hk
theorem Ok.chk {b:Bool} {k:Option β} (h:b=true) (hk:Ok k Q):Ok (CP.chk b k) Q:=by subst h;exact hk
theorem Ok.cond {b:Bool} {x y:Option β} (hx:b=true->Ok x Q) (hy:b=false->Ok y Q):Ok (bif b then x else y) Q:=by
 cases b with
 |true=>exact hx rfl
 |false=>exact hy rfl
theorem Ok.some {a:β} (h:Q a):Ok (some a) Q:=⟨a,rfl,h⟩
theorem Ok.mono {P':α->Prop} {m:Option α} (h:Ok m P) (hp:∀a,P a->P' a):Ok m P':=let⟨a,e,p⟩:=h;⟨a,e,hp a p⟩
theorem Ok.idx [Inhabited α] {xs:List α} {i:Int} {k:α->Option β} (h:0<=i/\i<(xs.length:Int)) (hk:∀x,x∈xs->xs.getD i.toNat default=x->Ok (k x) Q):Ok ((CP.idx xs i).bind k) Q:=by
 have hlt:i.toNat<xs.length:=by omega
 have e:CP.idx xs i=Option.some (xs.getD i.toNat default):=by unfold CP.idx;rw [decide_eq_true h];rfl
 refine Ok.Vh e (hk _ ?_ rfl)
 simp [List.getD_eq_getElem?_getD,hlt]
theorem Ok.eq {m:Option α} {a:α} (h:m=Option.some a) (hp:P a):Ok m P:=⟨a,h,hp⟩
end
theorem dT {p:Prop} [Decidable p] (h:p):decide p=true:=decide_eq_true h
theorem bA {x:Int} (h1: -9223372036854775808<=x) (h2:x<9223372036854775808):w64 x=x:=by
 show IntKind.i64.wrap x=x
 simp only [IntKind.wrap,IntKind.signed,IntKind.bits,Bool.true_and,decide_eq_true_eq,ge_iff_le,show(2:Int)^64=18446744073709551616 from rfl,show(2:Int)^(64 - 1)=9223372036854775808 from rfl]
 split<;>omega
def I64 (x:Int):Prop:= -9223372036854775808<=x/\x<9223372036854775808
end Go.CP
namespace Go.CP
open Go
structure TB (t:aP) (b:Int):Prop where
 el:∀x∈t.L,I64 x
 ln:t.L.length<=200
 lo:0<=t.At
 hi:t.At<=b
theorem TB.up [Fuel] {t:aP} {b b':Int} (h:TB t b) (hb:b<=b'):TB t b':=⟨h.el,h.ln,h.lo,Int.le_trans h.hi hb⟩
theorem TB.eta [Fuel] {t:aP} {b:Int} (h:TB t b):TB {L:=t.L,At:=t.At} b:=h
theorem akS [Fuel] {v n:Int} (_:I64 v) (h1:1<=n) (h2:n<=4611686018427387904):Ok (N7 v n) (λr=>0<=r/\r<n):=by
 unfold N7;(try simp only [iR,dZ])
 have hn:n≠0:=by omega
 refine Ok.chk (dT hn) (Ok.chk (dT hn) (Ok.some ?_))
 have a1:=Int.tmod_lt_of_pos v (show 0<n by omega)
 have a2: -n<v.tmod n:=by
  have:=Int.tmod_lt_of_pos (-v) (show 0<n by omega)
  rw [Int.neg_tmod]at this
  omega
 rw [bA (by omega) (by omega)]
 exact⟨Int.tmod_nonneg _ (by omega),Int.tmod_lt_of_pos _ (by omega)⟩
theorem yK [Fuel] {t:aP} {b n:Int} (h:TB t b) (h1:1<=n) (h2:n<=4611686018427387904) (hb:b<=1000000000):
  Ok (bC t n) (λr=>0<=r.1/\r.1<n/\TB r.2 (b+1)):=by
 have hlo:=h.lo
 have hhi:=h.hi
 unfold bC;(try simp only [iR,dZ])
 refine Ok.cond (λ_=>Ok.some ⟨by show(0:Int)<=0;omega,by show(0:Int)<n;omega,h.up (by omega)⟩) (λh0=> ?_)
 have hl:((t.L.length:Nat):Int)≠0:=by simpa using h0
 have hlen:(0:Int)<((t.L.length:Nat):Int):=by omega
 have m1:=Int.tmod_nonneg (b:=((t.L.length:Nat):Int)) (a:=t.At) hlo
 have m2:=Int.tmod_lt_of_pos t.At hlen
 refine Ok.chk (dT hl) (Ok.idx ⟨m1,m2⟩ (λx hx _=>Ok.chk (dT hl) ?_))
 refine Ok.bind (akS (h.el x hx) (by omega) (by omega)) (λy hy=> ?_)
 have d1:0<=t.At.tdiv ((t.L.length:Nat):Int):=Int.tdiv_nonneg hlo (by omega)
 have d2:t.At.tdiv ((t.L.length:Nat):Int)<=t.At:=Int.tdiv_le_self _ hlo
 rw [bA (x:=t.At.tdiv _) (by omega) (by omega),bA (x:=t.At.tdiv _*7) (by omega) (by omega),bA (x:=y+_) (by omega) (by omega)]
 refine Ok.bind (akS ⟨by omega,by omega⟩ h1 h2) (λz hz=>Ok.some ⟨hz.1,hz.2,?_⟩)
 rw [bA (by omega) (by omega)]
 exact⟨h.el,h.ln,by show 0<=t.At+1;omega,by show t.At+1<=b+1;omega⟩
theorem Ov [Fuel] {t:aP} {b lo hi:Int} (h:TB t b) (h1:lo<=hi) (h2: -1000000000<=lo) (h3:hi<=1000000000) (hb:b<=1000000000):
  Ok (gP t lo hi) (λr=>lo<=r.1/\r.1<=hi/\TB r.2 (b+1)):=by
 unfold gP;(try simp only [iR,dZ])
 rw [bA (x:=hi - lo) (by omega) (by omega),bA (x:=hi - lo+1) (by omega) (by omega)]
 refine Ok.bind (yK h (by omega) (by omega) hb) (λr hr=>Ok.some ?_)
 rw [bA (by omega) (by omega)]
 exact⟨by show lo<=lo+r.1;omega,by show lo+r.1<=hi;omega,hr.2.2⟩
theorem ahp [Fuel] {t:aP} {b n:Int} (h:TB t b) (h1:1<=n) (h2:n<=4611686018427387904) (hb:b<=1000000000):
  Ok (dV t n) (λr=>TB r.2 (b+1)):=by
 unfold dV;(try simp only [iR,dZ])
 exact Ok.bind (yK h h1 h2 hb) (λr hr=>Ok.some hr.2.2)
theorem aiF [Fuel] {v lo hi:Int} (hv:I64 v) (h1:lo<=hi) (h2: -1000000000<=lo) (h3:hi<=1000000000):Ok (Lg v lo hi) (λr=>lo<=r/\r<=hi):=by
 unfold Lg;(try simp only [iR,dZ])
 rw [bA (x:=hi - lo) (by omega) (by omega),bA (x:=hi - lo+1) (by omega) (by omega)]
 refine Ok.bind (akS hv (by omega) (by omega)) (λr hr=>Ok.some ?_)
 rw [bA (by omega) (by omega)];omega
structure VT (regions:Int) (x:aW):Prop where
 load:1<=x.Load/\x.Load<=65536
 shadow:0<=x.pR/\x.pR<=x.Load
 prio:0<=x.Priority/\x.Priority<=9
 lag: -1<=x.Lag/\x.Lag<=1000
 allowed:1<=x.Allowed/\x.Allowed<2^regions.toNat
 group:0<=x.sO/\x.sO<=32
structure VC (c:ak):Prop where
 reg:1<=c.bK/\c.bK<=3
 zl:1<=c.kW.length/\c.kW.length<=8
 z:∀x∈c.kW,0<=x.Region/\x.Region<c.bK
 cl:1<=c.Cells.length/\c.Cells.length<=16
 cel:∀x∈c.Cells,0<=x.Zone/\x.Zone<(c.kW.length:Int)/\1<=x.kV/\x.kV<=4194304
 tl:c.ah.length<=32
 t:∀x∈c.ah,VT c.bK x
 vl:1<=c.bf.length/\c.bf.length<=30
 v:∀x∈c.bf,0<=x.Low/\x.Low<=x.High/\x.High<=30
 v0:(c.bf.getD 0 default).Low=0
 rl:1<=c.bO.length/\c.bO.length<=5
 r:∀x∈c.bO,0<=x/\x<(c.kW.length:Int)
 ol:1<=c.cO.length/\c.cO.length<=9
 o:∀x∈c.cO,0<=x/\x<(c.kW.length:Int)
 blast:1<=c.BM/\c.BM<=16
 acJ:1<=c.Lease/\c.Lease<=1000
 bake:0<=c.Uz/\c.Uz<=10000
 ro:c.bO.length%2=1
theorem Sk [Fuel] {α:Type} {xs:List α} {y:α} {P:α->Prop} (h:∀x∈xs,P x) (hy:P y):∀x∈xs++ [y],P x:=by
 intro x hx
 rcases List.mem_append.1 hx with h1|h1
 ·exact h x h1
 ·rw [List.mem_singleton.1 h1];exact hy
structure Pre (x4:Int) (x5 x6 x7:Int×aP) (zs:List dn):Prop where
 reg:1<=x4/\x4<=3
 bl:1<=x5.1/\x5.1<=3
 le:2<=x6.1/\x6.1<=12
 ba:0<=x7.1/\x7.1<=8
 zl:1<=zs.length/\zs.length<=6
 z:∀x∈zs,0<=x.Region/\x.Region<x4
def ZC (n:Nat) (x:cu):Prop:=0<=x.Zone/\x.Zone<(n:Int)/\1<=x.kV/\x.kV<=4194304
theorem aqg [Fuel] {x4:Int} {x5 x6 x7:Int×aP} {zs:List dn} {cs:List cu} {ts:List aW} {vs:List aY} {rs:List Int} (hp:Pre x4 x5 x6 x7 zs)
  (hcl:1<=cs.length/\cs.length<=7) (hc:∀x∈cs,ZC zs.length x) (htl:ts.length<=5) (ht:∀x∈ts,VT x4 x)
  (hvl:1<=vs.length/\vs.length<=3) (hv:∀x∈vs,0<=x.Low/\x.Low<=x.High/\x.High<=30) (hv0:(vs.getD 0 default).Low=0)
  (hrl:1<=rs.length/\rs.length<=3) (hro:rs.length%2=1) (hr:∀x∈rs,0<=x/\x<(zs.length:Int)):
  ∀(m:Nat) (T:aP) (os:List Int) (i b:Int),TB T b->b+i<=100000->0<=i->(os.length:Int)+i<=9->1<=(os.length:Int)+i->(∀x∈os,0<=x/\x<(zs.length:Int))->i.toNat<m→
   Ok (AQ m T {bK:=x4,kW:=zs,Cells:=cs,ah:=ts,bf:=vs,bO:=rs,cO:=os,BM:=x5.1,Lease:=x6.1,Uz:=x7.1} i) VC
 |0,_,_,_,_,_,_,_,_,_,_,hm=>absurd hm (Nat.not_lt_zero _)
 | m+1,T,os,i,b,hT,hb,hi,ho1,ho2,ho,hm=>by
  rw [AQ];dsimp only [List.length_cons,List.length_nil]
  have hzl:=hp.zl
  have hT0:=hT.lo
  have hT1:=hT.hi
  refine Ok.cond (λh=> ?_) (λh=> ?_)
  ·have h:=of_decide_eq_true h
   refine Ok.bind (yK hT (by omega) (by omega) (by omega)) (λr hr'=>Ok.chk (dT (by show _<=140737488355328;omega)) ?_)
   rw [bA (by omega) (by omega)]
   exact aqg hp hcl hc htl ht hvl hv hv0 hrl hro hr m _ _ _ (b+1) hr'.2.2 (by omega) (by omega) (by simp;omega) (by simp;omega) (Sk ho ⟨hr'.1,hr'.2.1⟩) (by omega)
  ·have h:=of_decide_eq_false h
   have hr1:=hp.reg
   have hbl:=hp.bl
   have hle:=hp.le
   have hba:=hp.ba
   exact Ok.some ⟨hr1,⟨hzl.1,by show zs.length<=8;omega⟩,hp.z,⟨hcl.1,by show cs.length<=16;omega⟩,hc,by show ts.length<=32;omega,ht,⟨hvl.1,by show vs.length<=30;omega⟩,hv,hv0,⟨hrl.1,by show rs.length<=5;omega⟩,hr,
    ⟨by show 1<=os.length;omega,by show os.length<=9;omega⟩,ho,⟨by show 1<=x5.1;omega,by show x5.1<=16;omega⟩,⟨by show 1<=x6.1;omega,by show x6.1<=1000;omega⟩,⟨by show 0<=x7.1;omega,by show x7.1<=10000;omega⟩,hro⟩
theorem aqh [Fuel] {x4:Int} {x5 x6 x7:Int×aP} {zs:List dn} {cs:List cu} {ts:List aW} {vs:List aY} (hp:Pre x4 x5 x6 x7 zs)
  (hcl:1<=cs.length/\cs.length<=7) (hc:∀x∈cs,ZC zs.length x) (htl:ts.length<=5) (ht:∀x∈ts,VT x4 x)
  (hvl:1<=vs.length/\vs.length<=3) (hv:∀x∈vs,0<=x.Low/\x.Low<=x.High/\x.High<=30) (hv0:(vs.getD 0 default).Low=0):
  ∀(m:Nat) (T:aP) (rs:List Int) (i b:Int),TB T b->b+i<=50000->0<=i->(rs.length:Int)+i<=3->1<=(rs.length:Int)+i->((rs.length:Int)+i)%2=1->(∀x∈rs,0<=x/\x<(zs.length:Int))->i.toNat<m→
   Ok (AR m T {bK:=x4,kW:=zs,Cells:=cs,ah:=ts,bf:=vs,bO:=rs,cO:= [],BM:=x5.1,Lease:=x6.1,Uz:=x7.1} i) VC
 |0,_,_,_,_,_,_,_,_,_,_,_,hm=>absurd hm (Nat.not_lt_zero _)
 | m+1,T,rs,i,b,hT,hb,hi,ho1,ho2,ho3,ho,hm=>by
  rw [AR];dsimp only [List.length_cons,List.length_nil]
  have hzl:=hp.zl
  refine Ok.cond (λh=> ?_) (λh=> ?_)
  ·have h:=of_decide_eq_true h
   refine Ok.bind (yK hT (by omega) (by omega) (by omega)) (λr hr'=>Ok.chk (dT (by show _<=140737488355328;omega)) ?_)
   rw [bA (by omega) (by omega)]
   exact aqh hp hcl hc htl ht hvl hv hv0 m _ _ _ (b+1) hr'.2.2 (by omega) (by omega) (by simp;omega) (by simp;omega) (by first|(simp;omega)|(simp only [List.length_append,List.length_cons,List.length_nil];omega)) (Sk ho ⟨hr'.1,hr'.2.1⟩) (by omega)
  ·have h:=of_decide_eq_false h
   refine Ok.bind (Ov hT (by omega) (by omega) (by omega) (by omega)) (λr hr'=> ?_)
   exact aqg hp hcl hc htl ht hvl hv hv0 ⟨by omega,by omega⟩ (by omega) ho fuel _ _ _ (b+1) hr'.2.2 (by omega) (by omega) (by simp;omega) (by simp;omega) (by simp) (by rw [lZ];omega)
theorem aqi [Fuel] {x4:Int} {x5 x6 x7:Int×aP} {zs:List dn} {cs:List cu} {ts:List aW} (hp:Pre x4 x5 x6 x7 zs)
  (hcl:1<=cs.length/\cs.length<=7) (hc:∀x∈cs,ZC zs.length x) (htl:ts.length<=5) (ht:∀x∈ts,VT x4 x):
  ∀(m:Nat) (T:aP) (vs:List aY) (i b:Int),TB T b->b+2*i<=40000->0<=i->1<=vs.length->(vs.length:Int)+i<=3->(∀x∈vs,0<=x.Low/\x.Low<=x.High/\x.High<=30)->(vs.getD 0 default).Low=0->i.toNat<m→
   Ok (AU m T {bK:=x4,kW:=zs,Cells:=cs,ah:=ts,bf:=vs,bO:= [],cO:= [],BM:=x5.1,Lease:=x6.1,Uz:=x7.1} i) VC
 |0,_,_,_,_,_,_,_,_,_,_,_,hm=>absurd hm (Nat.not_lt_zero _)
 | m+1,T,vs,i,b,hT,hb,hi,hv1,hv2,hv,hv0,hm=>by
  rw [AU];dsimp only [List.length_cons,List.length_nil]
  refine Ok.cond (λh=> ?_) (λh=> ?_)
  ·have h:=of_decide_eq_true h
   refine Ok.bind (yK hT (by omega) (by omega) (by omega)) (λr hr=>Ok.bind (yK hr.2.2 (by omega) (by omega) (by omega)) (λq hq=>Ok.chk (dT (by show _<=140737488355328;omega)) ?_))
   rw [bA (by omega) (by omega),bA (by omega) (by omega)]
   refine aqi hp hcl hc htl ht m _ _ _ (b+1+1) hq.2.2 (by omega) (by omega) (by simp) (by simp;omega) (Sk hv ⟨hr.1,by show r.1<=r.1+q.1;omega,by show r.1+q.1<=30;omega⟩) ?_ (by omega)
   rw [List.getD_eq_getElem?_getD,List.getElem?_append_left (by omega),<-List.getD_eq_getElem?_getD];exact hv0
  ·have h:=of_decide_eq_false h
   refine Ok.bind (yK hT (by omega) (by omega) (by omega)) (λr hr=> ?_)
   rw [bA (x:=2*r.1) (by omega) (by omega),bA (by omega) (by omega)]
   exact aqh hp hcl hc htl ht ⟨hv1,by omega⟩ hv hv0 fuel _ _ _ (b+1) hr.2.2 (by omega) (by omega) (by simp;omega) (by simp;omega) (by simp only [List.length_nil];omega) (by simp) (by rw [lZ];omega)
theorem akT [Fuel] {n:Int} (h:1<=n/\n<=3):(0:Int)<=IntKind.u64.wrap n/\w64 (Dk .i64 1 (IntKind.u64.wrap n) - 1)=2^n.toNat - 1:=by
 have:n=1\/n=2\/n=3:=by omega
 rcases this with rfl|rfl|rfl<;>decide
theorem anB [Fuel] {n:Int} (h:1<=n/\n<=3):(2:Int)<=2^n.toNat/\(2:Int)^n.toNat<=8:=by
 have:n=1\/n=2\/n=3:=by omega
 rcases this with rfl|rfl|rfl<;>decide
theorem aqj [Fuel] {x4:Int} {x5 x6 x7:Int×aP} {zs:List dn} {cs:List cu} (hp:Pre x4 x5 x6 x7 zs)
  (hcl:1<=cs.length/\cs.length<=7) (hc:∀x∈cs,ZC zs.length x):
  ∀(m:Nat) (T:aP) (ts:List aW) (i b:Int),TB T b->b+10*i<=30000->0<=i->(ts.length:Int)+i<=5->(∀x∈ts,VT x4 x)->i.toNat<m→
   Ok (sF m T {bK:=x4,kW:=zs,Cells:=cs,ah:=ts,bf:= [],bO:= [],cO:= [],BM:=x5.1,Lease:=x6.1,Uz:=x7.1} i) VC
 |0,_,_,_,_,_,_,_,_,_,hm=>absurd hm (Nat.not_lt_zero _)
 | m+1,T,ts,i,b,hT,hb,hi,ht1,ht,hm=>by
  rw [sF];dsimp only [List.length_cons,List.length_nil]
  have aap:=hp.reg
  obtain⟨s1,s2⟩:=akT aap
  have hpw:=anB aap
  refine Ok.cond (λh=> ?_) (λh=> ?_)
  ·have h:=of_decide_eq_true h
   refine Ok.bind (Ov hT (by omega) (by omega) (by omega) (by omega)) (λr1 q1=> ?_)
   rw [bA (x:=r1.1+1) (by omega) (by omega)]
   refine Ok.bind (yK q1.2.2 (by omega) (by omega) (by omega)) (λr2 q2=> ?_)
   refine Ok.bind (yK q2.2.2 (by omega) (by omega) (by omega)) (λr3 q3=> ?_)
   refine Ok.bind (Ov q3.2.2 (by omega) (by omega) (by omega) (by omega)) (λr4 q4=>Ok.chk (dT s1) ?_)
   refine Ok.bind (yK q4.2.2 (by omega) (by omega) (by omega)) (λr5 q5=> ?_)
   refine Ok.bind (ahp q5.2.2 (by omega) (by omega) (by omega)) (λr6 q6=> ?_)
   refine Ok.bind (ahp q6 (by omega) (by omega) (by omega)) (λr7 q7=> ?_)
   have fin:∀(al:Int) (T':aP) (b':Int),1<=al->al<2^x4.toNat->TB T' b'->b'<=b+8->Ok (AP (sF m) {bK:=x4,kW:=zs,Cells:=cs,ah:=ts,bf:= [],bO:= [],cO:= [],BM:=x5.1,Lease:=x6.1,Uz:=x7.1} i T' {Load:=r1.1,pR:=r2.1,Priority:=r3.1,Lag:=r4.1,Allowed:=al,sO:=r5.1,LM:=r6.1}) VC:=by
    intro al T' b' h1 h2 h3 h4
    unfold AP;dsimp only [List.length_cons,List.length_nil]
    refine Ok.chk (dT (by show _<=140737488355328;omega)) ?_
    rw [bA (by omega) (by omega)]
    exact aqj hp hcl hc m _ _ _ b' h3 (by omega) (by omega) (by simp;omega) (Sk ht ⟨⟨q1.1,by show r1.1<=65536;omega⟩,⟨q2.1,by show r2.1<=r1.1;omega⟩,⟨q3.1,by show r3.1<=9;omega⟩,⟨q4.1,by show r4.1<=1000;omega⟩,⟨h1,h2⟩,⟨q5.1,by show r5.1<=32;omega⟩⟩) (by omega)
   refine Ok.cond (λ_=>Ok.chk (dT s1) ?_) (λ_=> ?_)
   ·rw [s2]
    refine Ok.bind (Ov q7 (by omega) (by omega) (by omega) (by omega)) (λr8 q8=> ?_)
    exact fin _ _ _ q8.1 (by omega) q8.2.2 (by omega)
   ·rw [s2]
    exact fin _ _ _ (by omega) (by omega) q7 (by omega)
  ·have h:=of_decide_eq_false h
   refine Ok.bind (yK hT (by omega) (by omega) (by omega)) (λr hr=>Ok.bind (yK hr.2.2 (by omega) (by omega) (by omega)) (λq hq=> ?_))
   exact aqi hp hcl hc (by omega) ht fuel _ _ _ (b+1+1) hq.2.2 (by omega) (by omega) (by simp) (by simp;omega)
    (by intro x hx;rw [List.mem_singleton.1 hx];exact⟨Int.le_refl 0,hr.1,by show r.1<=30;omega⟩) rfl (by rw [lZ];omega)
theorem aqk [Fuel] {x4:Int} {x5 x6 x7:Int×aP} {zs:List dn} (hp:Pre x4 x5 x6 x7 zs):
  ∀(m:Nat) (T:aP) (cs:List cu) (i b:Int),TB T b->b+2*(7 - i)<=20000->0<=i->i<=7->(cs.length:Int)=i->(∀x∈cs,ZC zs.length x)->(7 - i).toNat<m→
   Ok (AX m T {bK:=x4,kW:=zs,Cells:=cs,ah:= [],bf:= [],bO:= [],cO:= [],BM:=x5.1,Lease:=x6.1,Uz:=x7.1} i) VC
 |0,_,_,_,_,_,_,_,_,_,_,hm=>absurd hm (Nat.not_lt_zero _)
 | m+1,T,cs,i,b,hT,hb,hi,hi7,hcl,hc,hm=>by
  rw [AX];dsimp only [List.length_cons,List.length_nil]
  have hzl:=hp.zl
  have step:Ok (bif(!(decide (i<((zs.length:Nat):Int))))then dV T 2 else some (default,T)) (λr=>TB r.2 (b+1)):=
   Ok.cond (λ_=>ahp hT (by omega) (by omega) (by omega)) (λ_=>Ok.some (hT.up (by omega)))
  refine Ok.bind step (λr1 q1=> ?_)
  refine Ok.cond (λh=> ?_) (λh=> ?_)
  ·have hlt:i<7:=by
    simp only [Bool.or_eq_true,Bool.and_eq_true,decide_eq_true_eq]at h
    omega
   have hz:((zs.length:Nat):Int)≠0:=by omega
   refine Ok.chk (dT hz) (Ok.bind (Ov q1 (by omega) (by omega) (by omega) (by omega)) (λr2 q2=>Ok.chk (dT (by show _<=140737488355328;omega)) ?_))
   rw [bA (x:=r2.1*10) (by omega) (by omega),bA (x:=i+1) (by omega) (by omega)]
   exact aqk hp m _ _ _ (b+1+1) q2.2.2 (by omega) (by omega) (by omega) (by simp;omega)
    (Sk hc ⟨Int.tmod_nonneg _ (by omega),Int.tmod_lt_of_pos _ (by omega),by show 1<=r2.1*10;omega,by show r2.1*10<=4194304;omega⟩) (by omega)
  ·have hge:((zs.length:Nat):Int)<=i:=by
    simp only [Bool.or_eq_false_iff,decide_eq_false_iff_not]at h
    omega
   refine Ok.bind (yK q1 (by omega) (by omega) (by omega)) (λr2 q2=> ?_)
   exact aqj hp ⟨by omega,by omega⟩ hc fuel _ _ _ (b+1+1) q2.2.2 (by omega) (by omega) (by simp;omega) (by simp) (by rw [lZ];omega)
theorem aql [Fuel] {x4:Int} {x5 x6 x7:Int×aP} (aap:1<=x4/\x4<=3) (h5:1<=x5.1/\x5.1<=3) (h6:2<=x6.1/\x6.1<=12) (h7:0<=x7.1/\x7.1<=8):
  ∀(m:Nat) (T:aP) (zs:List dn) (i b:Int),TB T b->b+(6 - i)<=10000->0<=i->i<=6->(zs.length:Int)=i->(∀x∈zs,0<=x.Region/\x.Region<x4)->(6 - i).toNat<m→
   Ok (AY m T {bK:=x4,kW:=zs,Cells:= [],ah:= [],bf:= [],bO:= [],cO:= [],BM:=x5.1,Lease:=x6.1,Uz:=x7.1} i) VC
 |0,_,_,_,_,_,_,_,_,_,_,hm=>absurd hm (Nat.not_lt_zero _)
 | m+1,T,zs,i,b,hT,hb,hi,hi6,hzl,hz,hm=>by
  rw [AY];dsimp only [List.length_cons,List.length_nil]
  have step:Ok (bif(!(decide (i<x4)))then dV T 3 else some (default,T)) (λr=>TB r.2 (b+1)):=
   Ok.cond (λ_=>ahp hT (by omega) (by omega) (by omega)) (λ_=>Ok.some (hT.up (by omega)))
  refine Ok.bind step (λr1 q1=> ?_)
  refine Ok.cond (λh=> ?_) (λh=> ?_)
  ·have hlt:i<6:=by
    simp only [Bool.or_eq_true,Bool.and_eq_true,decide_eq_true_eq]at h
    omega
   have h4:x4≠0:=by omega
   refine Ok.chk (dT h4) (Ok.chk (dT (by show _<=140737488355328;omega)) ?_)
   rw [bA (x:=i+1) (by omega) (by omega)]
   exact aql aap h5 h6 h7 m _ _ _ (b+1) q1 (by omega) (by omega) (by omega) (by simp;omega) (Sk hz ⟨Int.tmod_nonneg _ (by omega),Int.tmod_lt_of_pos _ (by omega)⟩) (by omega)
  ·have hge:x4<=i:=by
    simp only [Bool.or_eq_false_iff,decide_eq_false_iff_not]at h
    omega
   exact aqk ⟨aap,h5,h6,h7,⟨by omega,by omega⟩,hz⟩ fuel _ _ _ (b+1) q1 (by omega) (by omega) (by omega) (by simp) (by simp) (by rw [lZ];omega)
def Lst (l:List Int):Prop:=(∀x∈l,I64 x)/\l.length<=200
theorem akU [Fuel] {l:List Int} (h:Lst l):Ok (Oa l) VC:=by
 unfold Oa Vb;(try simp only [iR,dZ])
 have hT:TB {L:=l,At:=0} 0:=⟨h.1,h.2,Int.le_refl 0,Int.le_refl 0⟩
 refine Ok.Vh rfl ?_
 refine Ok.bind (yK hT (by omega) (by omega) (by omega)) (λr3 q3=> ?_)
 rw [bA (by omega) (by omega)]
 refine Ok.bind (aiF ⟨by omega,by omega⟩ (by omega) (by omega) (by omega)) (λr4 q4=> ?_)
 refine Ok.bind (Ov q3.2.2 (by omega) (by omega) (by omega) (by omega)) (λr5 q5=> ?_)
 refine Ok.bind (Ov q5.2.2 (by omega) (by omega) (by omega) (by omega)) (λr6 q6=> ?_)
 refine Ok.bind (yK q6.2.2 (by omega) (by omega) (by omega)) (λr7 q7=> ?_)
 exact aql q4 ⟨q5.1,q5.2.1⟩ ⟨q6.1,q6.2.1⟩ ⟨q7.1,by omega⟩ fuel _ _ _ _ q7.2.2 (by omega) (by omega) (by omega) (by simp) (by simp) (by rw [lZ];omega)
end Go.CP
