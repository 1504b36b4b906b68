/- Names for what the walks say again and again, printed by crush.py. -/
import Derived.Test.YtblcklaeejienaaGreatProg
import Derived.Test.YtblcklaeejienaaGreatP5d312423f
set_option linter.defProp false
set_option linter.unusedSectionVars false
set_option linter.unusedSimpArgs false
set_option linter.unusedVariables false
namespace Go.Proofs
open Go Go.AM Go.CP Go.RowKit
section
variable {x0 x1 x2 x3 x4 x5 x6:Code}{S:aR}{fn:Func}
abbrev zC:CK:=.ty (.i .i64)
abbrev zS:SK:=.c zC
abbrev u0:SK:=.st .aN
abbrev u1:SK:=.c (.ty .b)
abbrev u2:SK:=.c (.pb 0 0)
abbrev u3:SK:=.c (.ty (.l (.n .jC)))
abbrev u4:SK:=.c (.ty (.l (.n .jy)))
abbrev u5:SK:=.c (.ty (.l (.i .i64)))
abbrev u6:SK:=.c (.ty (.l (.n .ji)))
abbrev u7:SK:=.c (.ty (.l (.n .iq)))
abbrev u8:SK:=.c (.pb 1 0)
abbrev u9:SK:=.c (.pb 6 0)
abbrev u10:SK:=.c (.ty (.l (.n .bI)))
abbrev nZ:SK:=.c (.own 0)
abbrev u12:SK:=.c (.ty (.l (.n .gG)))
abbrev su:SK:=.st .aO
abbrev JV:SK:=.c (.ty (.i .u64))
abbrev jL:SK:=.c (.pb 2 0)
abbrev u16:SK:=.c (.pb 3 0)
abbrev uq:SK:=.c (.pb 4 0)
abbrev Ah:SK:=.c (.pb 5 0)
abbrev rF:SK:=.st .aP
abbrev u20:SK:=.c (.own 1)
abbrev u21:SK:=.c (.pe 0 0)
abbrev u22:SK:=.c (.own 2)
abbrev u23:SK:=.st .lS
abbrev u24:SK:=.c (.ty (.l (.i .u8)))
abbrev u25:SK:=.st .bJ
abbrev u26:SK:=.c (.ty (.l (.n .bJ)))
abbrev u27:SK:=.c (.own 6)
abbrev u28:SK:=.c (.ty (.l (.n .cO)))
abbrev u29:SK:=.c (.pb 12 0)
abbrev u30:SK:=.st .iD
abbrev u31:SK:=.c (.ty (.l (.n .iD)))
abbrev u32:SK:=.c (.ty .s)
abbrev u33:SK:=.st .lQ
abbrev u34:SK:=.c (.ty (.l (.n .iY)))
abbrev u35:SK:=.c (.ty (.l (.n .jr)))
abbrev u36:SK:=.st .iH
abbrev u37:SK:=.c (.ty (.l (.n .aP)))
abbrev u38:SK:=.st .iM
abbrev u39:SK:=.c (.ty (.l (.n .iM)))
abbrev u40:SK:=.c (.fn 131 [])
abbrev u41:SK:=.c (.own 3)
abbrev u42:SK:=.c (.rp (.n .ku))
abbrev u43:SK:=.st .eU
abbrev u44:SK:=.st .gD
abbrev u45:SK:=.c (.ty (.l (.n .eU)))
abbrev u46:SK:=.c (.pb 10 0)
abbrev u47:SK:=.c (.pb 11 0)
abbrev u48:SK:=.c (.pb 26 0)
abbrev u49:SK:=.c (.pb 20 0)
abbrev u50:SK:=.c (.pb 21 0)
abbrev p51:OK:=.bs .aN
abbrev p52:OK:=.ar (.i .u8)
abbrev p53:OK:=.ar (.n .cO)
abbrev p54:OK:=.ar (.n .bJ)
abbrev p55:OK:=.ar (.n .bI)
abbrev p56:OK:=.ar (.n .gG)
abbrev p57:OK:=.bs .iw
abbrev p58:OK:=.bs .jq
abbrev p59:OK:=.ar (.n .iD)
abbrev p60:OK:=.ar (.n .iH)
abbrev p61:OK:=.ar (.n .iM)
abbrev p62:OK:=.bs .oh
abbrev p63:OK:=.bs .ny
abbrev p64:OK:=.bs .aO
abbrev p65:OK:=.bs .aP
abbrev p66:OK:=.bs .bI
abbrev p67:OK:=.bs .gG
abbrev p68:OK:=.ar (.i .i64)
abbrev p69:OK:=.bs .iq
abbrev p70:OK:=.bs .lS
abbrev p71:OK:=.bs .bJ
abbrev p72:OK:=.ar (.n .aP)
abbrev p73:OK:=.ar (.n .iY)
abbrev p74:OK:=.bs .lQ
abbrev p75:OK:=.ar (.n .jr)
abbrev zI:OK:=.bs .iH
abbrev mQ:OK:=.bs .eP
abbrev MQ:OK:=.ar (.n .jC)
abbrev Ri:OK:=.ar (.n .jy)
abbrev Xx:OK:=.ar (.n .iq)
abbrev Dj:OK:=.ar (.n .mF)
abbrev E8:OK:=.ar (.n .eU)
abbrev sj:OK:=.ar (.n .mE)
abbrev zJ:OK:=.bs .gD
abbrev kR:OK:=.bx [zC,.ty (.l (.n .jC)),.ty (.l (.n .jy)),.ty (.l (.n .iq)),.ty (.l (.n .ji)),.ty (.l (.i .i64)),.ty (.l (.i .i64)),zC,zC,zC,.pb 1 0,zC,zC,zC,.ty (.l (.n .bI)),.ty (.l (.n .gG)),zC,zC,zC,zC]
abbrev Dh:OK:=.bx [zC,.ty (.l (.n .jC)),.ty (.l (.n .jy)),.ty (.l (.n .iq)),.ty (.l (.n .ji)),.ty (.l (.i .i64)),.ty (.l (.i .i64)),zC,zC,zC,.pb 2 0,zC,zC,zC,.ty (.l (.n .bI)),.ty (.l (.n .gG)),zC,zC,zC,zC]
abbrev Xv:OK:=.bx [zC,.ty (.l (.n .jC)),.ty (.l (.n .jy)),.ty (.l (.n .iq)),.ty (.l (.n .ji)),.ty (.l (.i .i64)),.ty (.l (.i .i64)),zC,zC,zC,.pb 1 0,.own 10,.own 28,.ty (.l (.n .wF)),zC]
abbrev o88:OK:=.bw .aN [(1,.own 3),(2,.own 4),(3,.own 5),(4,.nl),(5,.nl),(6,.nl)]
abbrev MP:OK:=.bw .aN [(1,.nl),(2,.nl),(3,.nl),(4,.nl),(5,.nl),(6,.nl)]
abbrev qJ:OK:=.bx [.pb 13 0,zC,zC,zC,zC,zC,zC,zC,zC,zC,zC,zC,zC,zC,zC,zC]
abbrev sW:OK:=.bx [.pb 14 0,zC,zC,zC,zC,zC,zC,zC,zC,zC,zC,zC,zC,zC,zC,zC]
abbrev o92:OK:=.bx [.pb 10 0,zC,zC,zC,zC,zC,zC,zC,zC,zC,zC,zC,zC,zC,zC,zC]
abbrev o93:OK:=.bx [.pb 15 0,zC,zC,zC,zC,zC,zC,zC,zC,zC,zC,zC,zC,zC,zC,zC]
abbrev jW:OK:=.bx [.pb 1 0,zC,zC,zC,zC,zC,zC,zC,zC,zC,zC,zC,zC,zC,zC,zC]
abbrev j6:OK:=.bx [.pb 3 0,zC,zC,zC,zC,zC,zC,zC,zC,zC,zC,zC,zC,zC,zC,zC]
abbrev kS:OK:=.bx [.pb 4 0,zC,zC,zC,zC,zC,zC,zC,zC,zC,zC,zC,zC,zC,zC,zC]
abbrev Di:OK:=.bx [.pb 5 0,zC,zC,zC,zC,zC,zC,zC,zC,zC,zC,zC,zC,zC,zC,zC]
abbrev o98:OK:=.bx [.pb 2 0,zC,zC,zC,zC,zC,zC,zC,zC,zC,zC,zC,zC,zC,zC,zC]
abbrev qK:OK:=.bx [.pb 8 0,zC,zC,zC,zC,zC,zC,zC,zC,zC,zC,zC,zC,zC,zC,zC]
abbrev sS:OK:=.bx [.pb 9 0,zC,zC,zC,zC,zC,zC,zC,zC,zC,zC,zC,zC,zC,zC,zC]
abbrev Mg:OK:=.bx [zC,zC,.own 13,.pb 14 0,.pb 16 0,.pb 17 0,.pb 18 0]
abbrev Mh:OK:=.bx [zC,zC,.own 21,.pb 22 0,.pb 24 0,.pb 25 0,.pb 26 0]
abbrev akR:OK:=.bx [zC,zC,.own 8,.pb 9 0,.pb 11 0,.pb 12 0,.pb 6 0]
abbrev QH:OK:=.bx [zC,zC,.own 1,.pb 2 0,.pb 4 0,.pb 5 0,.pb 6 0]
abbrev QI:OK:=.bw .ku [(18,.own 1),(19,.own 2)]
abbrev acP:OK:=.bw .ku [(18,.own 2),(19,.own 3)]
abbrev yX:OK:=.bw .jm [(18,.own 1),(19,.own 2)]
abbrev akS:OK:=.bw .jm [(18,.own 6),(19,.own 7)]
abbrev aNw:OK:=.bx [.own 1,.own 10,.ty (.l (.n .aP))]
abbrev acQ:OK:=.bx [.own 2,.own 11,.ty (.l (.n .aP))]
abbrev o111:OK:=.bx [.own 1,.own 17,.ty (.l (.n .aP))]
abbrev CG:OK:=.bx [.own 2,.own 18,.ty (.l (.n .aP))]
abbrev WX:OK:=.bx [.own 1,.own 18,.ty (.l (.n .aP))]
abbrev aNx:OK:=.bx [.own 1,.own 24,.ty (.l (.n .aP))]
abbrev acR:OK:=.bx [.own 2,.own 25,.ty (.l (.n .aP))]
abbrev QJ:OK:=.bx [.own 2,.own 19,.ty (.l (.n .aP))]
abbrev auE:OK:=.bx [.own 3,.own 19,.ty (.l (.n .aP))]
abbrev zD:OK:=.bx [.own 1,.own 7,.ty (.l (.n .aP))]
abbrev CJ:OK:=.bx [.own 2,.own 8,.ty (.l (.n .aP))]
abbrev Mi:OK:=.bx [.own 3,.own 9,.ty (.l (.n .aP))]
abbrev WY:OK:=.bx [.own 1,.own 8,.ty (.l (.n .aP))]
abbrev QK:OK:=.bx [.own 2,.own 9,.ty (.l (.n .aP))]
abbrev akT:OK:=.bw .iw [(0,.own 3),(1,.own 4)]
abbrev akU:OK:=.bw .aO [(2,.own 1),(3,.own 2)]
abbrev QL:OK:=.bw .aO [(2,.own 0),(3,.own 1)]
abbrev zF:OK:=.bw .aO [(2,.nl),(3,.nl)]
abbrev acS:OK:=.bw .gD [(1,.nl),(2,.nl)]
abbrev qE:OK:=.ra [.pb 2 0,.pb 7 0,.pb 12 0]
abbrev sU:OK:=.ra [.pb 3 0,.pb 8 0,.pb 13 0]
abbrev auF:OK:=.ra [.pb 4 0,.pb 9 0,.pb 14 0]
abbrev tT:OK:=.bx [.pb 14 0,zC,zC,.own 16]
abbrev CO:OK:=.bx [.pb 10 0,zC,zC,.own 12]
abbrev CQ:OK:=.bx [.pb 15 0,zC,zC,.own 17]
abbrev akV:OK:=.bx [.pb 14 0,zC,zC,.own 23]
abbrev EO:OK:=.bx [.pb 10 0,zC,zC,.own 22]
abbrev EP:OK:=.bx [.pb 15 0,zC,zC,.own 24]
abbrev auG:OK:=.bx [.pb 11 0,zC,zC,.own 13]
abbrev auH:OK:=.bx [.pb 16 0,zC,zC,.own 18]
abbrev ES:OK:=.bx [.pb 5 0,zC,zC,.own 10]
abbrev tV:OK:=.bx [.pb 9 0,zC,zC,.own 11]
abbrev akW:OK:=.bx [.pb 4 0,zC,zC,.own 19]
abbrev akX:OK:=.bx [.pb 9 0,zC,zC,.own 21]
abbrev ET:OK:=.bx [.pb 5 0,zC,zC,.own 20]
abbrev CR:OK:=.bx [.pb 1 0,zC,zC,.own 3]
abbrev lK:OK:=.bx [.pb 2 0,zC,zC,.own 4]
abbrev lX:OK:=.bx [.pb 4 0,zC,zC,.own 6]
abbrev rT:OK:=.bx [.pb 5 0,zC,zC,.own 7]
abbrev GK:OK:=.bx [.pb 6 0,zC,zC,.own 8]
abbrev JA:OK:=.bx [.pb 1 0,zC,zC,.own 4]
abbrev auI:OK:=.bx [.pb 1 0,zC,zC,.own 5]
abbrev acT:OK:=.bx [.pb 2 0,zC,zC,.own 6]
abbrev akY:OK:=.bx [.pb 2 0,zC,zC,.own 5]
abbrev akZ:OK:=.bx [.pb 4 0,zC,zC,.own 9]
abbrev QM:OK:=.bw .iJ [(2,.own 19)]
abbrev QN:OK:=.bw .iJ [(2,.own 27)]
abbrev rU:OK:=.bw .bS [(0,.own 10)]
abbrev xw:OK:=.bw .bS [(0,.own 11)]
abbrev tY:OK:=.bw .bS [(0,.own 15)]
abbrev CU:OK:=.bw .bS [(0,.own 16)]
abbrev ak0:OK:=.bw .bS [(0,.own 20)]
abbrev ak1:OK:=.bw .bS [(0,.own 22)]
abbrev auJ:OK:=.bw .bS [(0,.own 24)]
abbrev WZ:OK:=.bw .bS [(0,.own 19)]
abbrev CW:OK:=.bw .bS [(0,.own 21)]
abbrev CX:OK:=.bw .bS [(0,.own 23)]
abbrev QO:OK:=.bw .bS [(0,.own 25)]
abbrev auK:OK:=.bw .bS [(0,.own 12)]
abbrev auL:OK:=.bw .bS [(0,.own 17)]
abbrev JB:OK:=.bw .bS [(0,.own 1)]
abbrev xA:OK:=.bw .bS [(0,.own 2)]
abbrev mO:OK:=.bw .bS [(0,.own 3)]
abbrev jJ:OK:=.bw .bS [(0,.own 5)]
abbrev qg:OK:=.bw .bS [(0,.own 6)]
abbrev QS:OK:=.bw .iJ [(2,.own 1)]
abbrev GL:OK:=.bw .iJ [(2,.own 7)]
abbrev GN:OK:=.bw .bS [(0,.own 7)]
abbrev QT:OK:=.bw .bS [(0,.own 4)]
abbrev acU:OK:=.bw .bS [(0,.own 9)]
abbrev acV:OK:=.bw .gD [(1,.own 5)]
abbrev Mj:OK:=.ra [.pb 12 0,.pb 20 0]
abbrev tZ:OK:=.ra [.pb 2 0]
abbrev sV:OK:=.ra [.pb 3 0]
abbrev GQ:OK:=.ra [.pb 4 0]
abbrev Mk:OK:=.ra [.own 11]
abbrev QU:OK:=.bx [.pb 0 0]
abbrev Ml:OK:=.bx [.mc 15]
abbrev Mq:OK:=.bx [.mc 23]
abbrev Mr:OK:=.bx [.own 2]
abbrev auO:List (Nat×SK):=[(0,u42),(1,zS),(2,zS),(7,nZ),(13,.c (.ty (.l (.n .mF)))),(14,zS),(15,zS)]
abbrev auP:List (Nat×SK):=[(3,zS),(4,u2),(5,u8),(6,jL),(8,u16),(11,.c (.mc 4)),(53,u5),(54,zS),(55,zS)]
abbrev aND:List (Nat×SK):=[(0,u2),(4,.c (.own 18)),(10,u20),(11,zS),(12,zS),(31,u28),(32,zS),(33,zS)]
abbrev aNE:List (Nat×SK):=[(3,jL),(4,u16),(5,uq),(6,Ah),(8,.c (.pe 1 0)),(9,u9),(10,zS),(11,zS)]
abbrev auQ:List (Nat×SK):=[(0,u2),(3,zS),(4,zS),(5,zS),(6,zS),(7,u28),(8,zS),(14,zS),(15,zS)]
abbrev auR:List (Nat×SK):=[(4,u2),(10,u8),(11,jL),(12,zS),(102,u41),(103,zS),(104,zS)]
abbrev auS:List (Nat×SK):=[(0,u2),(1,.c (.fb 305 0 0)),(5,.c (.own 5)),(10,zS),(11,zS)]
abbrev auT:List (Nat×SK):=[(2,zS),(7,u2),(9,u8),(14,zS),(18,jL),(19,u37),(20,zS)]
abbrev auU:List (Nat×SK):=[(0,u2),(1,zS),(5,zS),(12,u5),(13,zS),(14,zS),(35,u1)]
abbrev aNF:List (Nat×SK):=[(2,zS),(3,u2),(4,u8),(7,u22),(12,u5),(13,zS),(14,zS)]
abbrev auV:List (Nat×SK):=[(2,u2),(5,u20),(6,.c (.mc 2)),(11,u45),(12,zS),(13,zS)]
abbrev aNG:List (Nat×SK):=[(0,u2),(3,zS),(4,zS),(9,u20),(10,zS),(11,zS),(35,u1)]
abbrev aNH:List (Nat×SK):=[(0,u0),(1,.sw .aO [(2,.own 0),(3,.own 1)]),(2,rF)]
abbrev aNI:List (Nat×SK):=[(0,u2),(1,.c (.fn 298 [5])),(5,u27),(10,zS),(11,zS)]
abbrev auW:List (Nat×SK):=[(1,zS),(2,zS),(8,zS),(14,u20),(15,zS),(16,zS)]
abbrev aNJ:List (Nat×SK):=[(0,u2),(5,u8),(6,jL),(7,u16),(8,uq),(9,Ah)]
abbrev auX:List (Nat×SK):=[(3,u2),(5,u8),(9,zS),(55,u5),(56,zS),(57,zS)]
abbrev ac2:List (Nat×SK):=[(0,.sw .aO [(2,.own 0),(3,.own 1)]),(1,rF)]
abbrev auY:List (Nat×SK):=[(2,zS),(3,u2),(4,u8),(7,u22),(17,zS),(18,zS)]
abbrev auZ:List (Nat×SK):=[(0,u2),(1,zS),(5,zS),(12,u5),(13,zS),(14,zS)]
abbrev ala:List (Nat×SK):=[(0,.sw .aO [(2,.own 0),(3,.own 1)]),(1,zS)]
abbrev au0:List (Nat×SK):=[(0,u2),(3,zS),(4,zS),(5,zS),(14,zS),(15,zS)]
abbrev au1:List (Nat×SK):=[(0,u0),(1,.sw .aO [(2,.own 0),(3,.own 1)])]
abbrev aNK:List (Nat×SK):=[(0,.sw .aO [(2,.own 2),(3,.own 3)]),(1,zS)]
abbrev au2:List (Nat×SK):=[(1,zS),(2,u2),(5,zS),(9,u5),(10,zS),(11,zS)]
abbrev au3:List (Nat×SK):=[(3,zS),(4,zS),(5,u2),(6,u8),(7,jL),(11,zS)]
abbrev au4:List (Nat×SK):=[(0,nZ),(1,.c (.fn 333 [1])),(5,zS),(6,zS)]
abbrev au5:List (Nat×SK):=[(2,u2),(5,u20),(10,u22),(11,zS),(12,zS)]
abbrev au6:List (Nat×SK):=[(0,nZ),(1,.c (.fn 58 [1])),(5,zS),(6,zS)]
abbrev au7:List (Nat×SK):=[(0,zS),(1,zS),(2,.c (.rp (.n .aN)))]
abbrev au8:List (Nat×SK):=[(1,zS),(5,nZ),(9,u45),(10,zS),(11,zS)]
abbrev au9:List (Nat×SK):=[(2,u2),(3,u8),(5,u22),(15,zS),(16,zS)]
abbrev ava:List (Nat×SK):=[(0,u2),(3,zS),(9,u20),(10,zS),(11,zS)]
abbrev ac3:List (Nat×SK):=[(0,.sw .aO [(2,.own 0),(3,.own 1)])]
abbrev avb:List (Nat×SK):=[(1,u2),(3,u20),(7,u12),(8,zS),(9,zS)]
abbrev avc:List (Nat×SK):=[(0,u2),(2,zS),(3,zS),(28,zS),(29,zS)]
abbrev avd:List (Nat×SK):=[(2,zS),(4,u2),(7,u8),(8,jL),(9,u41)]
abbrev ave:List (Nat×SK):=[(1,zS),(2,u2),(5,u20),(9,zS),(10,zS)]
abbrev avf:List (Nat×SK):=[(2,u2),(5,u20),(8,u5),(9,zS),(10,zS)]
abbrev avg:List (Nat×SK):=[(1,zS),(2,zS),(3,u2),(7,u20),(8,zS)]
abbrev avh:List (Nat×SK):=[(0,u2),(10,u20),(11,zS),(12,zS)]
abbrev alb:List (Nat×SK):=[(0,u0),(1,su),(2,u44),(3,zS)]
abbrev aNL:List (Nat×SK):=[(0,u2),(1,zS),(2,zS),(3,u33)]
abbrev CY:List (Nat×SK):=[(0,u0),(1,su),(2,rF)]
abbrev GZ:List (Nat×SK):=[(0,u0),(1,su),(2,zS)]
abbrev ac4:List (Nat×SK):=[(0,nZ),(1,zS),(2,zS)]
abbrev Xe:List (Nat×SK):=[(0,zS),(1,zS),(2,zS)]
abbrev JI:List (Nat×SK):=[(0,u0),(1,zS),(2,zS)]
abbrev G5:List (Nat×SK):=[(0,u2),(1,zS),(2,zS)]
abbrev avi:List (Nat×SK):=[(0,u2),(1,zS),(5,zS)]
abbrev avj:List (Nat×SK):=[(0,u5),(1,u5),(2,zS)]
abbrev JJ:List (Nat×SK):=[(0,su),(1,rF)]
abbrev ac5:List (Nat×SK):=[(0,su),(1,zS)]
abbrev G6:List (Nat×SK):=[(0,u0),(1,su)]
abbrev avk:List (Nat×SK):=[(0,u2),(1,u23)]
abbrev ac6:List (Nat×SK):=[(0,u2),(1,rF)]
abbrev aNM:List (Nat×SK):=[(0,u2),(1,u25)]
abbrev ac7:List (Nat×SK):=[(0,u2),(1,u36)]
abbrev Bw:List (Nat×SK):=[(0,zS),(1,zS)]
abbrev CZ:List (Nat×SK):=[(0,u2),(1,zS)]
abbrev G7:List (Nat×SK):=[(0,u0),(1,zS)]
abbrev atz:Shape:=⟨[(1,u2),(7,u48),(8,u5),(9,zS)],[kR,QJ,sU,kS,ET,CW,.dd,.dd,sS,EO,CX,.dd,.dd,sW,EP,QO,.dd,.dd,.dd,p54,p53,p52,p53,p52,p53,p52,p64]⟩
abbrev atA:Shape:=⟨[(0,zS)],[aNx,qE,j6,akW,.bw .bS [(0,.own 18)],.dd,.dd,qK,akX,ak0,.dd,.dd,qJ,akV,ak1,.dd,.dd,.dd,p52,p53,p52,p53,p52,p53,p54]⟩
abbrev atB:Shape:=⟨[(0,u1)],[kR,acR,sU,kS,ET,WZ,.dd,.dd,sS,EO,CW,.dd,.dd,sW,EP,CX,.dd,.dd,.dd,p52,p53,p52,p53,p52,p53,p54]⟩
abbrev atC:Shape:=⟨[(0,zS)],[kR,acR,sU,kS,ET,WZ,.dd,.dd,sS,EO,CW,.dd,.dd,sW,EP,CX,.dd,.dd,.dd,p52,p53,p52,p53,p52,p53,p54]⟩
abbrev atD:Shape:=⟨auZ,[kR,QJ,sU,kS,ET,CW,.dd,.dd,sS,EO,CX,.dd,.dd,sW,EP,QO,.dd,.dd,.dd,p54,p53,p52,p53,p52,p53,p52]⟩
abbrev atE:Shape:=⟨avi,[WX,qE,j6,akW,ak0,.dd,.dd,qK,akX,ak1,.dd,.dd,qJ,akV,auJ,.dd,.dd,.dd,p54,p53,p52,p53,p52,p53,p52]⟩
abbrev WG:Shape:=⟨[(0,u2)],[kR,CG,sU,kS,rT,qg,p52,p53,sS,CO,xw,p52,p53,sW,CQ,CU,p52,p53,p54]⟩
abbrev atF:Shape:=⟨[(0,u1)],[kR,CG,sU,kS,rT,qg,p52,p53,sS,CO,xw,p52,p53,sW,CQ,CU,p52,p53,p54]⟩
abbrev acC:Shape:=⟨CZ,[kR,CG,sU,kS,rT,qg,p52,p53,sS,CO,xw,p52,p53,sW,CQ,CU,p52,p53,p54]⟩
abbrev atG:Shape:=⟨au0,[kR,CG,sU,kS,rT,qg,p52,p53,sS,CO,xw,p52,p53,sW,CQ,CU,p52,p53,p54]⟩
abbrev atH:Shape:=⟨ac6,[kR,CG,sU,kS,rT,qg,p52,p53,sS,CO,xw,p52,p53,sW,CQ,CU,p52,p53,p54]⟩
abbrev akn:Shape:=⟨[(0,u2)],[o111,qE,j6,lX,jJ,p52,p53,qK,tV,rU,p52,p53,qJ,tT,tY,p52,p53,p54]⟩
abbrev atI:Shape:=⟨[(0,zS)],[o111,qE,j6,lX,jJ,p52,p53,qK,tV,rU,p52,p53,qJ,tT,tY,p52,p53,p54]⟩
abbrev atJ:Shape:=⟨[(0,u1)],[o111,qE,j6,lX,jJ,p52,p53,qK,tV,rU,p52,p53,qJ,tT,tY,p52,p53,p54]⟩
abbrev ako:Shape:=⟨aND,[o111,qE,j6,lX,jJ,p52,p53,qK,tV,rU,p52,p53,qJ,tT,tY,p52,p53,p54,p72]⟩
abbrev atK:Shape:=⟨[(1,u2),(7,u29),(8,u5),(9,zS)],[kR,QK,sV,kS,ES,xw,.dd,.dd,.dd,p54,p53,p52,p64]⟩
abbrev atL:Shape:=⟨[],[WX,qE,j6,lX,jJ,p52,p53,qK,tV,rU,p52,p53,qJ,tT,tY,p52,p53,.dd,p54]⟩
abbrev Qv:Shape:=⟨CZ,[o111,qE,j6,lX,jJ,p52,p53,qK,tV,rU,p52,p53,qJ,tT,tY,p52,p53,p54]⟩
abbrev akp:Shape:=⟨ava,[o111,qE,j6,lX,jJ,p52,p53,qK,tV,rU,p52,p53,qJ,tT,tY,p52,p53,p54]⟩
abbrev atM:Shape:=⟨aNG,[o111,qE,j6,lX,jJ,p52,p53,qK,tV,rU,p52,p53,qJ,tT,tY,p52,p53,p54]⟩
abbrev atN:Shape:=⟨avk,[o111,qE,j6,lX,jJ,p52,p53,qK,tV,rU,p52,p53,qJ,tT,tY,p52,p53,p54]⟩
abbrev akq:Shape:=⟨avh,[o111,qE,j6,lX,jJ,p52,p53,qK,tV,rU,p52,p53,qJ,tT,tY,p52,p53,p54]⟩
abbrev atO:Shape:=⟨[(0,.st .kY)],[akR,.dd,.dd,.dd,.dd,.dd,GL,p59,p60,.bx [.mc 10],.ms,p57,p58]⟩
abbrev atP:Shape:=⟨[(0,zS)],[aNw,tZ,j6,akZ,.bw .bS [(0,.own 8)],.dd,.dd,.dd,p52,p53,p54]⟩
abbrev atQ:Shape:=⟨[(0,u1)],[kR,acQ,sV,kS,ES,acU,.dd,.dd,.dd,p52,p53,p54]⟩
abbrev atS:Shape:=⟨[(0,zS)],[kR,acQ,sV,kS,ES,acU,.dd,.dd,.dd,p52,p53,p54]⟩
abbrev atT:Shape:=⟨auZ,[kR,QK,sV,kS,ES,xw,.dd,.dd,.dd,p54,p53,p52]⟩
abbrev atU:Shape:=⟨[(0,.ag [.pb 0 0,.pb 2 0,.pb 3 0])],[.bx [.mc 1],.ms,p57,p58]⟩
abbrev acD:Shape:=⟨[(0,u2)],[QH,p60,.bx [.mc 3],.ms,p57,p58,GL,p59]⟩
abbrev atV:Shape:=⟨[(0,zS)],[QH,p60,.bx [.mc 3],.ms,p57,p58,GL,p59]⟩
abbrev WH:Shape:=⟨[(0,u2)],[kR,CJ,sV,kS,rT,qg,p52,p53,p54]⟩
abbrev atW:Shape:=⟨[(0,u1)],[kR,CJ,sV,kS,rT,qg,p52,p53,p54]⟩
abbrev atX:Shape:=⟨[(0,u2),(9,zS),(10,zS)],[jW,lK,mO,p52,p53]⟩
abbrev akr:Shape:=⟨aNL,[QH,p60,.bx [.mc 3],.ms,p57,p58,GL,p59]⟩
abbrev acE:Shape:=⟨CZ,[kR,CJ,sV,kS,rT,qg,p52,p53,p54]⟩
abbrev aks:Shape:=⟨[(0,u2)],[zD,tZ,j6,lX,jJ,p52,p53,p54]⟩
abbrev atY:Shape:=⟨[(0,zS)],[zD,tZ,j6,lX,jJ,p52,p53,p54]⟩
abbrev atZ:Shape:=⟨[(0,u1)],[zD,tZ,j6,lX,jJ,p52,p53,p54]⟩
abbrev at0:Shape:=⟨au0,[kR,CJ,sV,kS,rT,qg,p52,p53,p54]⟩
abbrev at1:Shape:=⟨ac6,[kR,CJ,sV,kS,rT,qg,p52,p53,p54]⟩
abbrev at5:Shape:=⟨[(2,u2),(5,u20),(6,u22),(7,zS)],[p51,p68,p68]⟩
abbrev at6:Shape:=⟨aNE,[p55,p56,p51,QL,p65,zF,.bs .ji]⟩
abbrev at7:Shape:=⟨[(2,u2),(3,u8),(5,u22),(6,zS)],[p51,p64,p68]⟩
abbrev aua:Shape:=⟨[],[WY,tZ,j6,lX,jJ,p52,p53,.dd,p54]⟩
abbrev aub:Shape:=⟨[(0,u2),(3,Ah)],[jW,lK,mO,p52,p53,p71]⟩
abbrev auc:Shape:=⟨[(0,u2),(1,zS),(2,rF)],[CR,xA,p52,p53]⟩
abbrev Qw:Shape:=⟨CZ,[zD,tZ,j6,lX,jJ,p52,p53,p54]⟩
abbrev aud:Shape:=⟨avk,[zD,tZ,j6,lX,jJ,p52,p53,p54]⟩
abbrev aue:Shape:=⟨[(0,u26)],[jW,acT,jJ,.dd,.dd,p52,p53]⟩
abbrev auf:Shape:=⟨[(0,nZ),(3,u8),(7,zS),(8,zS)],[p61,p65]⟩
abbrev aug:Shape:=⟨[(1,zS),(2,u2),(5,u20),(6,zS)],[p51,p68]⟩
abbrev auh:Shape:=⟨[(8,nZ),(21,u37),(22,zS),(23,zS)],[p61]⟩
abbrev aui:Shape:=⟨[(0,u2),(2,zS)],[jW,lK,mO,p52,p53]⟩
abbrev auj:Shape:=⟨[(0,nZ),(1,u40),(5,zS),(6,zS)],[p61]⟩
abbrev auk:Shape:=⟨aNI,[jW,lK,mO,p52,p53,QU,p54]⟩
abbrev aul:Shape:=⟨[(0,u26)],[jW,lK,jJ,.dd,p53,p52]⟩
abbrev aum:Shape:=⟨[(0,u2),(1,u24)],[CR,xA,p52,p53]⟩
abbrev aun:Shape:=⟨[(0,zS)],[auI,QT,.dd,.dd,p52,p53]⟩
abbrev WI:Shape:=⟨[(0,u26)],[jW,lK,mO,p52,p53]⟩
abbrev Bn:Shape:=⟨[(0,u2)],[jW,lK,mO,p52,p53]⟩
abbrev Qx:Shape:=⟨[(0,zS)],[jW,lK,mO,p52,p53]⟩
abbrev akt:Shape:=⟨aNJ,[mQ,p51,p64,p65,p65,p66]⟩
abbrev WJ:Shape:=⟨[(0,u2)],[CR,xA,p52,p53]⟩
abbrev WK:Shape:=⟨CZ,[jW,lK,mO,p52,p53]⟩
abbrev WL:Shape:=⟨[(0,zS)],[CR,xA,p52,p53]⟩
abbrev Qy:Shape:=⟨aNM,[jW,lK,mO,p52,p53]⟩
abbrev aku:Shape:=⟨[],[jW,lK,mO,p52,p53]⟩
abbrev akv:Shape:=⟨[(0,u2)],[.bx [.mc 1],.ms]⟩
abbrev WM:Shape:=⟨CZ,[CR,xA,p52,p53]⟩
abbrev akw:Shape:=⟨[(0,u1)],[yX,sj,p68]⟩
abbrev Ad:Shape:=⟨aNK,[.dd,.dd,p55,p56]⟩
abbrev akx:Shape:=⟨[(0,u24),(1,zS)],[]⟩
abbrev aky:Shape:=⟨[(0,rF),(1,zS)],[]⟩
abbrev acF:Shape:=⟨aNF,[p51,p64,p68]⟩
abbrev EK:Shape:=⟨[(0,nZ)],[p68]⟩
abbrev Ma:Shape:=⟨aNH,[p55,p56]⟩
abbrev Mc:Shape:=⟨[(0,JV)],[]⟩
abbrev WO:Shape:=⟨[(0,rF)],[]⟩
abbrev WQ:Shape:=⟨[(0,u24)],[]⟩
abbrev WR:Shape:=⟨[(0,u32)],[]⟩
abbrev yV:Shape:=⟨[(0,u0)],[]⟩
abbrev iU:Shape:=⟨[(0,u1)],[]⟩
abbrev jD:Shape:=⟨[(0,zS)],[]⟩
abbrev yt:Shape:=⟨[(0,u5)],[]⟩
section
variable (a b c d e f g h i j k l m n o p q s t u w x y z A B C D E F G H I J L:Type)
abbrev t0:Type:=((a×Int×Int×b)×(bS×c)×List Int×List cO×d)
abbrev t1:Type:=(a×Int×Int×Int×Int×Int×Int×Int×Int×Int×Int×Int×Int×Int×Int×Int×b)
abbrev t2:Type:=((t1 a b)×(c×Int×Int×d)×(bS×e)×List Int×List cO×f)
abbrev t3:Type:=((a×b×List aP×c)×d×(t1 e f)×(g×Int×Int×h)×(bS×i)×List Int×List cO×List bJ×j)
abbrev t4:Type:=(Int×List jC×List jy×List iq×List ji×List Int×List Int×Int×Int×Int×a)
abbrev t5:Type:=(Int×Int×List bI×List gG×Int×Int×Int×Int×a)
abbrev t6:Type:=(Int×List jC×List jy×List iq×List ji×List Int×List Int×Int×Int×Int×a×Int×Int×Int×List bI×List gG×Int×Int×Int×Int×b)
abbrev t7:Type:=((t6 a b)×(c×d×List aP×e)×f×(t1 g h)×(i×Int×Int×j)×(bS×k)×List Int×List cO×List bJ×l)
abbrev t8:Type:=((Int×Int×a)×List iH×b×(List (Value×Value))×iw×jq×(iJ×c)×List iD×d)
abbrev t9:Type:=(Int×List jC×List jy×List iq×List ji×List Int×List Int×Int×Int×Int×a×b×c×List wF×Int×d)
abbrev t10:Type:=((t9 a b c d)×(t6 e f)×(g×h×List aP×i)×j×(t1 k l)×(m×Int×Int×n)×(bS×o)×List Int×List cO×List bJ×p×q×(Int×Int×s)×List iH×t×(List (Value×Value))×iw×jq×(iJ×u)×List iD×(Int×Int×w)×List iH×x×(List (Value×Value))×iw×jq×(iJ×y)×List iD×List iM×z)
abbrev t11:Type:=((a×Int×Int×b)×(bS×c)×d×List cO×List Int×e)
abbrev t12:Type:=((t1 a b)×(c×Int×Int×d)×(bS×e)×f×List cO×List Int×g)
abbrev t13:Type:=((a×b×List aP×c)×d×(t1 e f)×(g×Int×Int×h)×(bS×i)×List Int×List cO×j×List bJ×k)
abbrev t14:Type:=((a×Int×Int×b)×(bS×c)×List Int×d×List cO×e)
abbrev t15:Type:=((a×Int×Int×b)×(bS×c)×d×e×List Int×List cO×f)
abbrev t16:Type:=((t1 a b)×(c×Int×Int×d)×(bS×e)×f×g×List Int×List cO×h)
abbrev t17:Type:=((a×Int×Int×b)×(bS×c)×d×e×List cO×List Int×f)
abbrev t18:Type:=((t1 a b)×(c×Int×Int×d)×(bS×e)×f×g×List cO×List Int×h)
abbrev t19:Type:=((a×Int×Int×b)×(bS×c)×d×e×f×List Int×List cO×g)
abbrev t20:Type:=((t1 a b)×(c×Int×Int×d)×(bS×e)×f×g×h×List Int×List cO×i)
abbrev t21:Type:=((a×b×List aP×c)×d×(t1 e f)×(g×Int×Int×h)×(bS×i)×j×k×l×List Int×List cO×List bJ×m)
abbrev t22:Type:=((bS×a)×b×c×d×e×f×List Int×g)
abbrev t23:Type:=((a×Int×Int×b)×(bS×c)×d×e×f×g×List cO×List Int×h)
abbrev t24:Type:=((t1 a b)×(c×Int×Int×d)×(bS×e)×f×g×h×i×List cO×List Int×j)
abbrev t25:Type:=((a×b×List aP×c)×d×(t1 e f)×(g×Int×Int×h)×(bS×i)×j×k×l×List bJ×List cO×List Int×m)
abbrev t26:Type:=((t6 a b)×(c×d×List aP×e)×f×(t1 g h)×(i×Int×Int×j)×(bS×k)×l×m×n×List Int×List cO×List bJ×o)
abbrev t27:Type:=((t6 a b)×(c×d×List aP×e)×f×(t1 g h)×(i×Int×Int×j)×(bS×k)×l×m×n×List bJ×List cO×List Int×o)
abbrev t28:Type:=((bS×a)×b×c×d×e×f×g×h×i×j×k×l×m×n×o×p×q×s×t×u×w×x×y×List Int×z)
abbrev t29:Type:=((a×Int×Int×b)×(bS×c)×d×e×f×g×h×i×j×k×l×m×n×o×p×q×s×t×u×w×x×y×z×A×List Int×List cO×B)
abbrev t30:Type:=((t1 a b)×(c×Int×Int×d)×(bS×e)×f×g×h×i×j×k×l×m×n×o×p×q×s×t×u×w×x×y×z×A×B×C×List Int×List cO×D)
abbrev t31:Type:=((a×b×List aP×c)×d×(t1 e f)×(g×Int×Int×h)×(bS×i)×j×k×l×m×n×o×p×q×s×t×u×w×x×y×z×A×B×C×D×E×F×G×List Int×List cO×List bJ×H)
abbrev t32:Type:=((t6 a b)×(c×d×List aP×e)×f×(t1 g h)×(i×Int×Int×j)×(bS×k)×l×m×n×o×p×q×s×t×u×w×x×y×z×A×B×C×D×E×F×G×H×I×List Int×List cO×List bJ×J)
abbrev t33:Type:=((t9 a b c d)×(t6 e f)×(g×h×List aP×i)×j×(t1 k l)×(m×Int×Int×n)×(bS×o)×p×q×s×t×u×(Int×Int×w)×List iH×x×(List (Value×Value))×iw×jq×(iJ×y)×List iD×(Int×Int×z)×List iH×A×(List (Value×Value))×iw×jq×(iJ×B)×List iD×C×List Int×List cO×List bJ×List iM×D)
abbrev t34:Type:=((bS×a)×b×c×d×e×f×g×h×i×j×k×l×m×n×o×p×q×s×t×u×w×x×y×z×A×B×List Int×C)
abbrev t35:Type:=((a×Int×Int×b)×(bS×c)×d×e×f×g×h×i×j×k×l×m×n×o×p×q×s×t×u×w×x×y×z×A×B×C×List cO×List Int×D)
abbrev t36:Type:=((t1 a b)×(c×Int×Int×d)×(bS×e)×f×g×h×i×j×k×l×m×n×o×p×q×s×t×u×w×x×y×z×A×B×C×D×E×List cO×List Int×F)
abbrev t37:Type:=((a×b×List aP×c)×d×(t1 e f)×(g×Int×Int×h)×(bS×i)×j×k×l×m×n×o×p×q×s×t×u×w×x×y×z×A×B×C×D×E×F×G×H×List bJ×List cO×List Int×I)
abbrev t38:Type:=((t6 a b)×(c×d×List aP×e)×f×(t1 g h)×(i×Int×Int×j)×(bS×k)×l×m×n×o×p×q×s×t×u×w×x×y×z×A×B×C×D×E×F×G×H×I×J×List bJ×List cO×List Int×L)
abbrev t39:Type:=((t9 a b c d)×(t6 e f)×(g×h×List aP×i)×j×(t1 k l)×(m×Int×Int×n)×(bS×o)×p×q×s×t×u×(Int×Int×w)×List iH×x×(List (Value×Value))×iw×jq×(iJ×y)×List iD×(Int×Int×z)×List iH×A×(List (Value×Value))×iw×jq×(iJ×B)×List iD×C×List iM×List bJ×List cO×List Int×D)
abbrev t40:Type:=((iJ×a)×b×c×d×e×f×g×h×i×j×k×List iD×l)
abbrev t41:Type:=((Int×Int×a)×List iH×b×(List (Value×Value))×iw×jq×(iJ×c)×d×e×f×g×h×i×j×k×l×m×List iD×n)
abbrev t42:Type:=((iJ×a)×b×c×d×List iD×e)
abbrev t43:Type:=((Int×Int×a)×List iH×b×(List (Value×Value))×iw×jq×(iJ×c)×d×e×f×List iD×g)
abbrev t44:Type:=((t9 a b c d)×(t6 e f)×(g×h×List aP×i)×j×(t1 k l)×(m×Int×Int×n)×(bS×o)×List Int×List cO×List bJ×p×q×(Int×Int×s)×List iH×t×(List (Value×Value))×iw×jq×(iJ×u)×w×(Int×Int×x)×List iH×y×(List (Value×Value))×iw×jq×(iJ×z)×A×List iM×List iD×List iD×B)
abbrev t45:Type:=((List (Value×Value))×(iw×a)×List iY×List jr×jq×b)
abbrev t46:Type:=((iw×a)×b×c×List iY×List jr×d)
abbrev t47:Type:=((iw×a)×b×c×d×List iY×List jr×e)
abbrev t48:Type:=((Int×Int×a)×b×c×d×e×f×(iJ×g)×List iD×List iH×h×(List (Value×Value))×iw×jq×i)
abbrev t49:Type:=((aN×a)×List jC×List jy×List iq×b)
abbrev t50:Type:=((aN×a)×List jC×List jy×List iq×List ji×b)
abbrev t51:Type:=((aN×a)×List jC×List jy×List iq×List ji×List Int×b)
abbrev t52:Type:=((aN×a)×List jC×List jy×List iq×List ji×List Int×List Int×b)
abbrev t53:Type:=((a×b×List aP×c)×d×(t1 e f)×(g×Int×Int×h)×(bS×i)×List Int×List cO×(t1 j k)×(l×Int×Int×m)×(bS×n)×List Int×List cO×(t1 o p)×(q×Int×Int×s)×(bS×t)×List Int×List cO×List bJ×u)
abbrev t54:Type:=((t6 a b)×(c×d×List aP×e)×f×(t1 g h)×(i×Int×Int×j)×(bS×k)×List Int×List cO×(t1 l m)×(n×Int×Int×o)×(bS×p)×List Int×List cO×(t1 q s)×(t×Int×Int×u)×(bS×w)×List Int×List cO×List bJ×x)
abbrev t55:Type:=((a×b×List aP×c)×d×(t1 e f)×(g×Int×Int×h)×(bS×i)×List Int×List cO×(t1 j k)×(l×Int×Int×m)×(bS×n)×List Int×List cO×(t1 o p)×(q×Int×Int×s)×(bS×t)×List Int×List cO×u×List bJ×w)
abbrev t56:Type:=((bS×a)×b×c×d×e×f×g×h×i×j×k×l×m×n×List Int×o)
abbrev t57:Type:=((a×Int×Int×b)×(bS×c)×d×e×f×g×h×i×j×k×l×m×n×o×p×List Int×List cO×q)
abbrev t58:Type:=((t1 a b)×(c×Int×Int×d)×(bS×e)×f×g×h×i×j×k×l×m×n×o×p×q×s×List Int×List cO×t)
abbrev t59:Type:=((bS×a)×b×c×d×e×f×g×h×i×j×k×List Int×l)
abbrev t60:Type:=((a×Int×Int×b)×(bS×c)×d×e×f×g×h×i×j×k×l×m×List Int×List cO×n)
abbrev t61:Type:=((t1 a b)×(c×Int×Int×d)×(bS×e)×f×g×h×i×j×k×l×m×n×o×List Int×List cO×p)
abbrev t62:Type:=((bS×a)×b×c×d×e×f×g×h×List Int×i)
abbrev t63:Type:=((a×Int×Int×b)×(bS×c)×d×e×f×g×h×i×j×List Int×List cO×k)
abbrev t64:Type:=((t1 a b)×(c×Int×Int×d)×(bS×e)×f×g×h×i×j×k×l×List Int×List cO×m)
abbrev t65:Type:=((a×b×List aP×c)×d×(t1 e f)×(g×Int×Int×h)×(bS×i)×j×k×(t1 l m)×(n×Int×Int×o)×(bS×p)×q×s×(t1 t u)×(w×Int×Int×x)×(bS×y)×z×A×B×List Int×List cO×List Int×List cO×List Int×List cO×List bJ×C)
abbrev t66:Type:=((bS×a)×b×c×d×e×f×g×h×i×j×k×l×m×n×o×p×List Int×q)
abbrev t67:Type:=((a×Int×Int×b)×(bS×c)×d×e×f×g×h×i×j×k×l×m×n×o×p×q×List cO×List Int×s)
abbrev t68:Type:=((t1 a b)×(c×Int×Int×d)×(bS×e)×f×g×h×i×j×k×l×m×n×o×p×q×s×t×List cO×List Int×u)
abbrev t69:Type:=((bS×a)×b×c×d×e×f×g×h×i×j×k×l×m×List Int×n)
abbrev t70:Type:=((a×Int×Int×b)×(bS×c)×d×e×f×g×h×i×j×k×l×m×n×List cO×List Int×o)
abbrev t71:Type:=((t1 a b)×(c×Int×Int×d)×(bS×e)×f×g×h×i×j×k×l×m×n×o×p×List cO×List Int×q)
abbrev t72:Type:=((bS×a)×b×c×d×e×f×g×h×i×j×List Int×k)
abbrev t73:Type:=((a×Int×Int×b)×(bS×c)×d×e×f×g×h×i×j×k×List cO×List Int×l)
abbrev t74:Type:=((t1 a b)×(c×Int×Int×d)×(bS×e)×f×g×h×i×j×k×l×m×List cO×List Int×n)
abbrev t75:Type:=((a×b×List aP×c)×d×(t1 e f)×(g×Int×Int×h)×(bS×i)×j×k×(t1 l m)×(n×Int×Int×o)×(bS×p)×q×s×(t1 t u)×(w×Int×Int×x)×(bS×y)×z×A×B×List bJ×List cO×List Int×List cO×List Int×List cO×List Int×C)
abbrev t76:Type:=((bS×a)×b×c×d×e×f×g×h×i×j×k×l×m×n×o×List Int×p)
abbrev t77:Type:=((a×Int×Int×b)×(bS×c)×d×e×f×g×h×i×j×k×l×m×n×o×p×List cO×List Int×q)
abbrev t78:Type:=((t1 a b)×(c×Int×Int×d)×(bS×e)×f×g×h×i×j×k×l×m×n×o×p×q×s×List cO×List Int×t)
abbrev t79:Type:=((bS×a)×b×c×d×e×f×g×h×i×j×k×l×List Int×m)
abbrev t80:Type:=((a×Int×Int×b)×(bS×c)×d×e×f×g×h×i×j×k×l×m×List cO×List Int×n)
abbrev t81:Type:=((t1 a b)×(c×Int×Int×d)×(bS×e)×f×g×h×i×j×k×l×m×n×o×List cO×List Int×p)
abbrev t82:Type:=((bS×a)×b×c×d×e×f×g×h×i×List Int×j)
abbrev t83:Type:=((a×Int×Int×b)×(bS×c)×d×e×f×g×h×i×j×List cO×List Int×k)
abbrev t84:Type:=((t1 a b)×(c×Int×Int×d)×(bS×e)×f×g×h×i×j×k×l×List cO×List Int×m)
abbrev t85:Type:=((a×b×List aP×c)×d×(t1 e f)×(g×Int×Int×h)×(bS×i)×j×k×(t1 l m)×(n×Int×Int×o)×(bS×p)×q×s×(t1 t u)×(w×Int×Int×x)×(bS×y)×z×A×List bJ×List cO×List Int×List cO×List Int×List cO×List Int×B)
abbrev t86:Type:=((t6 a b)×(c×d×List aP×e)×f×(t1 g h)×(i×Int×Int×j)×(bS×k)×l×m×(t1 n o)×(p×Int×Int×q)×(bS×s)×t×u×(t1 w x)×(y×Int×Int×z)×(bS×A)×B×C×D×List Int×List cO×List Int×List cO×List Int×List cO×List bJ×E)
abbrev t87:Type:=((t6 a b)×(c×d×List aP×e)×f×(t1 g h)×(i×Int×Int×j)×(bS×k)×l×m×(t1 n o)×(p×Int×Int×q)×(bS×s)×t×u×(t1 w x)×(y×Int×Int×z)×(bS×A)×B×C×D×List bJ×List cO×List Int×List cO×List Int×List cO×List Int×E)
end
section
variable {a b c d e f g h i j k l m n o p q s t u w x y z A B C D E F G H I J L:Type}
def m0(v:(bS×a)×List Int×b):bS:={v.1.1 with data:=v.2.1:bS}
def m1(v:t0 a b c d):fU:=⟨m0 v.2,v.1.2.1,v.1.2.2.1,v.2.2.2.1⟩
def m2(v:Int×Int×Int×Int×Int×a):uZ:=⟨v.1,v.2.1,v.2.2.1,v.2.2.2.1,(bH v).1⟩
def m3(v:t2 a b c d e f):bA:=⟨m1 v.2,v.1.2.1,v.1.2.2.1,v.1.2.2.2.1,(bH v.1).1,(dH v.1).1,m2 (dR v.1),m2 (jO v.1)⟩
def m4(v:t3 a b c d e f g h i j):bP:=⟨[m3 v.2.2],(dY v).1,v.1.2.2.1⟩
def m5(v:t4 a):aN:=⟨v.1,v.2.1,v.2.2.1,v.2.2.2.1,(bH v).1,(dH v).1,(dR v).1,(dY v).1,(gB v).1,(nH v).1⟩
def m6(v:t5 a):aO:=⟨v.1,v.2.1,v.2.2.1,v.2.2.2.1,(bH v).1,(dH v).1,(dR v).1,(dY v).1⟩
def m7(v:t7 a b c d e f g h i j k l):bO:=⟨m5 v.1,m4 v.2,(jO v.1).1,m6 (nV v.1)⟩
def m8(v:List (Value×Value)):pz:=⟨v⟩
def m9(v:(List (Value×Value))×iw×jq×a):Az:=⟨m8 v.1,v.2.1,v.2.2.1⟩
def m10(v:(iJ×a)×List iD×b):iJ:={v.1.1 with l9:=v.2.1:iJ}
def m11(v:t8 a b c d):lU:=⟨v.1.1,v.1.2.1,v.2.1,m9 v.2.2.2,m10 (dR v)⟩
def m12(v:t10 a b c d e f g h i j k l m n o p q s t u w x y z):wP:=⟨m5 v.1,m7 v.2,[[m11 (nV v),m11 (dY (dG v))]],(gB (dY (dG v))).1,(dG v.1).1,(dY (dY v.1)).1⟩
def m13(v:(bS×a)×b×List Int×c):bS:={v.1.1 with data:=v.2.2.1:bS}
def m14(v:(bS×a)×b×c×List Int×d):bS:={v.1.1 with data:=v.2.2.2.1:bS}
def m15(v:t11 a b c d e):fU:=⟨m14 v.2,v.1.2.1,v.1.2.2.1,v.2.2.2.1⟩
def m16(v:t12 a b c d e f g):bA:=⟨m15 v.2,v.1.2.1,v.1.2.2.1,v.1.2.2.2.1,(bH v.1).1,(dH v.1).1,m2 (dR v.1),m2 (jO v.1)⟩
def m17(v:t13 a b c d e f g h i j k):bP:=⟨[m3 v.2.2],(gB v).1,v.1.2.2.1⟩
def m18(v:t14 a b c d e):fU:=⟨m0 v.2,v.1.2.1,v.1.2.2.1,(bH v).1⟩
def m19(v:t15 a b c d e f):fU:=⟨m14 v.2,v.1.2.1,v.1.2.2.1,(dH v).1⟩
def m20(v:t16 a b c d e f g h):bA:=⟨m19 v.2,v.1.2.1,v.1.2.2.1,v.1.2.2.2.1,(bH v.1).1,(dH v.1).1,m2 (dR v.1),m2 (jO v.1)⟩
def m21(v:(bS×a)×b×c×d×List Int×e):bS:={v.1.1 with data:=(bH v).1:bS}
def m22(v:t17 a b c d e f):fU:=⟨m21 v.2,v.1.2.1,v.1.2.2.1,(bH v).1⟩
def m23(v:t18 a b c d e f g h):bA:=⟨m22 v.2,v.1.2.1,v.1.2.2.1,v.1.2.2.2.1,(bH v.1).1,(dH v.1).1,m2 (dR v.1),m2 (jO v.1)⟩
def m24(v:t19 a b c d e f g):fU:=⟨m21 v.2,v.1.2.1,v.1.2.2.1,(dR v).1⟩
def m25(v:t20 a b c d e f g h i):bA:=⟨m24 v.2,v.1.2.1,v.1.2.2.1,v.1.2.2.2.1,(bH v.1).1,(dH v.1).1,m2 (dR v.1),m2 (jO v.1)⟩
def m26(v:t21 a b c d e f g h i j k l m):bP:=⟨[m25 v.2.2],(ow v).1,v.1.2.2.1⟩
def m27(v:t22 a b c d e f g):bS:={v.1.1 with data:=(dR v).1:bS}
def m28(v:t23 a b c d e f g h):fU:=⟨m27 v.2,v.1.2.1,v.1.2.2.1,(dR v).1⟩
def m29(v:t24 a b c d e f g h i j):bA:=⟨m28 v.2,v.1.2.1,v.1.2.2.1,v.1.2.2.2.1,(bH v.1).1,(dH v.1).1,m2 (dR v.1),m2 (jO v.1)⟩
def m30(v:t25 a b c d e f g h i j k l m):bP:=⟨[m29 v.2.2],(gB v).1,v.1.2.2.1⟩
def Rf(v:t26 a b c d e f g h i j k l m n o):bO:=⟨m5 v.1,m26 v.2,(jO v.1).1,m6 (nV v.1)⟩
def m32(v:t27 a b c d e f g h i j k l m n o):bO:=⟨m5 v.1,m30 v.2,(jO v.1).1,m6 (nV v.1)⟩
def m33(v:t28 a b c d e f g h i j k l m n o p q s t u w x y z):bS:={v.1.1 with data:=(ow (dG v)).1:bS}
def m34(v:t29 a b c d e f g h i j k l m n o p q s t u w x y z A B):fU:=⟨m33 v.2,v.1.2.1,v.1.2.2.1,(nV (dG v)).1⟩
def m35(v:t30 a b c d e f g h i j k l m n o p q s t u w x y z A B C D):bA:=⟨m34 v.2,v.1.2.1,v.1.2.2.1,v.1.2.2.2.1,(bH v.1).1,(dH v.1).1,m2 (dR v.1),m2 (jO v.1)⟩
def m36(v:t31 a b c d e f g h i j k l m n o p q s t u w x y z A B C D E F G H):bP:=⟨[m35 v.2.2],(gB (gB (dG v))).1,v.1.2.2.1⟩
def m37(v:t32 a b c d e f g h i j k l m n o p q s t u w x y z A B C D E F G H I J):bO:=⟨m5 v.1,m36 v.2,(jO v.1).1,m6 (nV v.1)⟩
def m38(v:t33 a b c d e f g h i j k l m n o p q s t u w x y z A B C D):wP:=⟨m5 v.1,m37 v.2,[[m11 (nV v),m11 (dY (dG v))]],(dR (dG (dG v))).1,(dG v.1).1,(dY (dY v.1)).1⟩
def m39(v:t34 a b c d e f g h i j k l m n o p q s t u w x y z A B C):bS:={v.1.1 with data:=(dG (dG v)).1:bS}
def m40(v:t35 a b c d e f g h i j k l m n o p q s t u w x y z A B C D):fU:=⟨m39 v.2,v.1.2.1,v.1.2.2.1,(dG (dG v)).1⟩
def m41(v:t36 a b c d e f g h i j k l m n o p q s t u w x y z A B C D E F):bA:=⟨m40 v.2,v.1.2.1,v.1.2.2.1,v.1.2.2.2.1,(bH v.1).1,(dH v.1).1,m2 (dR v.1),m2 (jO v.1)⟩
def m42(v:t37 a b c d e f g h i j k l m n o p q s t u w x y z A B C D E F G H I):bP:=⟨[m41 v.2.2],(gB (dY (dG v))).1,v.1.2.2.1⟩
def m43(v:t38 a b c d e f g h i j k l m n o p q s t u w x y z A B C D E F G H I J L):bO:=⟨m5 v.1,m42 v.2,(jO v.1).1,m6 (nV v.1)⟩
def m44(v:t39 a b c d e f g h i j k l m n o p q s t u w x y z A B C D):wP:=⟨m5 v.1,m43 v.2,[[m11 (nV v),m11 (dY (dG v))]],(gB (gB (dG v))).1,(dG v.1).1,(dY (dY v.1)).1⟩
def m45(v:(iJ×a)×b×List iD×c):iJ:={v.1.1 with l9:=v.2.2.1:iJ}
def m46(v:t40 a b c d e f g h i j k l):iJ:={v.1.1 with l9:=(jO v).1:iJ}
def m47(v:t41 a b c d e f g h i j k l m n):lU:=⟨v.1.1,v.1.2.1,v.2.1,m9 v.2.2.2,m46 (dR v)⟩
def m48(v:t42 a b c d e):iJ:={v.1.1 with l9:=(bH v).1:iJ}
def m49(v:t43 a b c d e f g):lU:=⟨v.1.1,v.1.2.1,v.2.1,m9 v.2.2.2,m48 (dR v)⟩
def m50(v:t44 a b c d e f g h i j k l m n o p q s t u w x y z A B):wP:=⟨m5 v.1,m7 v.2,[[m47 (nV v),m49 (dY (dG v))]],(gB (dY (dG v))).1,(dG v.1).1,(dY (dY v.1)).1⟩
def m51(v:(iw×a)×List iY×List jr×b):iw:=⟨v.2.1,v.2.2.1,v.1.1.zP⟩
def m52(v:t45 a b):Az:=⟨m8 v.1,m51 v.2,(bH v).1⟩
def m53(v:t46 a b c d):iw:=⟨v.2.2.2.1,(bH v).1,v.1.1.zP⟩
def m54(v:t46 a b c d):iw:={v.1.1 with yc:=v.2.2.2.1,yQ:=(bH v).1:iw}
def m55(v:t47 a b c d e):iw:=⟨(bH v).1,(dH v).1,v.1.1.zP⟩
def m56(v:t48 a b c d e f g h i):lU:=⟨v.1.1,v.1.2.1,(gB v).1,m9 (ow v),m10 (dR v)⟩
def m57(v:(aN×a)×List jC×b):aN:={v.1.1 with iO:=v.2.1,aJ:=[],aH:=[],fD:=[],dh:=[],jX:=[]:aN}
def m58(v:(aN×a)×List jC×List jy×b):aN:={v.1.1 with iO:=v.2.1,aJ:=v.2.2.1,aH:=[],fD:=[],dh:=[],jX:=[]:aN}
def m59(v:t49 a b):aN:={v.1.1 with iO:=v.2.1,aJ:=v.2.2.1,aH:=v.2.2.2.1,fD:=[],dh:=[],jX:=[]:aN}
def m60(v:aN):aN:={v with iO:=[],aJ:=[],aH:=[],fD:=[],dh:=[],jX:=[]:aN}
def m61(v:t50 a b):aN:={v.1.1 with iO:=v.2.1,aJ:=v.2.2.1,aH:=v.2.2.2.1,fD:=(bH v).1,dh:=[],jX:=[]:aN}
def m62(v:t51 a b):aN:={v.1.1 with iO:=v.2.1,aJ:=v.2.2.1,aH:=v.2.2.2.1,fD:=(bH v).1,dh:=(dH v).1,jX:=[]:aN}
def m63(v:t52 a b):aN:={v.1.1 with iO:=v.2.1,aJ:=v.2.2.1,aH:=v.2.2.2.1,fD:=(bH v).1,dh:=(dH v).1,jX:=(dR v).1:aN}
def m64(v:((gD×a)×b)×List eU×c):gD:={v.1.1.1 with bY:=v.2.1:gD}
def m65(v:(gD×a)×List eU×b):gD:={v.1.1 with bY:=v.2.1:gD}
def m66(v:gD):gD:={v with bY:=[],kH:=[]:gD}
def jS(v:t53 a b c d e f g h i j k l m n o p q s t u):bP:=⟨[m3 v.2.2,m3 (dY v),m3 (nV v)],(bH (dG v)).1,v.1.2.2.1⟩
def nI(v:t54 a b c d e f g h i j k l m n o p q s t u w x):bO:=⟨m5 v.1,jS v.2,(jO v.1).1,m6 (nV v.1)⟩
def m69(v:t55 a b c d e f g h i j k l m n o p q s t u w):bP:=⟨[m3 v.2.2,m3 (dY v),m3 (nV v)],(dH (dG v)).1,v.1.2.2.1⟩
def m70(v:t56 a b c d e f g h i j k l m n o):bS:={v.1.1 with data:=(dY (dY v)).1:bS}
def m71(v:t57 a b c d e f g h i j k l m n o p q):fU:=⟨m70 v.2,v.1.2.1,v.1.2.2.1,(gB (gB v)).1⟩
def m72(v:t58 a b c d e f g h i j k l m n o p q s t):bA:=⟨m71 v.2,v.1.2.1,v.1.2.2.1,v.1.2.2.2.1,(bH v.1).1,(dH v.1).1,m2 (dR v.1),m2 (jO v.1)⟩
def m73(v:t59 a b c d e f g h i j k l):bS:={v.1.1 with data:=(jO v).1:bS}
def m74(v:t60 a b c d e f g h i j k l m n):fU:=⟨m73 v.2,v.1.2.1,v.1.2.2.1,(dG v).1⟩
def m75(v:t61 a b c d e f g h i j k l m n o p):bA:=⟨m74 v.2,v.1.2.1,v.1.2.2.1,v.1.2.2.2.1,(bH v.1).1,(dH v.1).1,m2 (dR v.1),m2 (jO v.1)⟩
def m76(v:t62 a b c d e f g h i):bS:={v.1.1 with data:=(gB v).1:bS}
def m77(v:t63 a b c d e f g h i j k):fU:=⟨m76 v.2,v.1.2.1,v.1.2.2.1,(ow v).1⟩
def m78(v:t64 a b c d e f g h i j k l m):bA:=⟨m77 v.2,v.1.2.1,v.1.2.2.1,v.1.2.2.2.1,(bH v.1).1,(dH v.1).1,m2 (dR v.1),m2 (jO v.1)⟩
def m79(v:t65 a b c d e f g h i j k l m n o p q s t u w x y z A B C):bP:=⟨[m72 v.2.2,m75 (dY v),m78 (nV v)],(jO (dG v)).1,v.1.2.2.1⟩
def m80(v:t66 a b c d e f g h i j k l m n o p q):bS:={v.1.1 with data:=(gB (gB v)).1:bS}
def m81(v:t67 a b c d e f g h i j k l m n o p q s):fU:=⟨m80 v.2,v.1.2.1,v.1.2.2.1,(gB (gB v)).1⟩
def m82(v:t68 a b c d e f g h i j k l m n o p q s t u):bA:=⟨m81 v.2,v.1.2.1,v.1.2.2.1,v.1.2.2.2.1,(bH v.1).1,(dH v.1).1,m2 (dR v.1),m2 (jO v.1)⟩
def m83(v:t69 a b c d e f g h i j k l m n):bS:={v.1.1 with data:=(dG v).1:bS}
def m84(v:t70 a b c d e f g h i j k l m n o):fU:=⟨m83 v.2,v.1.2.1,v.1.2.2.1,(dG v).1⟩
def m85(v:t71 a b c d e f g h i j k l m n o p q):bA:=⟨m84 v.2,v.1.2.1,v.1.2.2.1,v.1.2.2.2.1,(bH v.1).1,(dH v.1).1,m2 (dR v.1),m2 (jO v.1)⟩
def m86(v:t72 a b c d e f g h i j k):bS:={v.1.1 with data:=(ow v).1:bS}
def m87(v:t73 a b c d e f g h i j k l):fU:=⟨m86 v.2,v.1.2.1,v.1.2.2.1,(ow v).1⟩
def m88(v:t74 a b c d e f g h i j k l m n):bA:=⟨m87 v.2,v.1.2.1,v.1.2.2.1,v.1.2.2.2.1,(bH v.1).1,(dH v.1).1,m2 (dR v.1),m2 (jO v.1)⟩
def m89(v:t75 a b c d e f g h i j k l m n o p q s t u w x y z A B C):bP:=⟨[m82 v.2.2,m85 (dY v),m88 (nV v)],(dH (dG v)).1,v.1.2.2.1⟩
def m90(v:t76 a b c d e f g h i j k l m n o p):bS:={v.1.1 with data:=(gB (dY v)).1:bS}
def m91(v:t77 a b c d e f g h i j k l m n o p q):fU:=⟨m90 v.2,v.1.2.1,v.1.2.2.1,(gB (dY v)).1⟩
def m92(v:t78 a b c d e f g h i j k l m n o p q s t):bA:=⟨m91 v.2,v.1.2.1,v.1.2.2.1,v.1.2.2.2.1,(bH v.1).1,(dH v.1).1,m2 (dR v.1),m2 (jO v.1)⟩
def m93(v:t79 a b c d e f g h i j k l m):bS:={v.1.1 with data:=(nV v).1:bS}
def m94(v:t80 a b c d e f g h i j k l m n):fU:=⟨m93 v.2,v.1.2.1,v.1.2.2.1,(nV v).1⟩
def m95(v:t81 a b c d e f g h i j k l m n o p):bA:=⟨m94 v.2,v.1.2.1,v.1.2.2.1,v.1.2.2.2.1,(bH v.1).1,(dH v.1).1,m2 (dR v.1),m2 (jO v.1)⟩
def m96(v:t82 a b c d e f g h i j):bS:={v.1.1 with data:=(nH v).1:bS}
def m97(v:t83 a b c d e f g h i j k):fU:=⟨m96 v.2,v.1.2.1,v.1.2.2.1,(nH v).1⟩
def m98(v:t84 a b c d e f g h i j k l m):bA:=⟨m97 v.2,v.1.2.1,v.1.2.2.1,v.1.2.2.2.1,(bH v.1).1,(dH v.1).1,m2 (dR v.1),m2 (jO v.1)⟩
def m99(v:t85 a b c d e f g h i j k l m n o p q s t u w x y z A B):bP:=⟨[m92 v.2.2,m95 (dY v),m98 (nV v)],(bH (dG v)).1,v.1.2.2.1⟩
def QG(v:t86 a b c d e f g h i j k l m n o p q s t u w x y z A B C D E):bO:=⟨m5 v.1,m79 v.2,(jO v.1).1,m6 (nV v.1)⟩
def Jw(v:t87 a b c d e f g h i j k l m n o p q s t u w x y z A B C D E):bO:=⟨m5 v.1,m89 v.2,(jO v.1).1,m6 (nV v.1)⟩
end
def e0(r:bA):=((),r.id,r.n,r.fP,r.fM,r.nG,r.next.e0,r.next.e1,r.next.e2,r.next.e3,r.next.e4,r.gL.e0,r.gL.e1,r.gL.e2,r.gL.e3,r.gL.e4,())
def e1(r:bS):=({r with data:=([]:List Int)},(),())
def e2(r:fU):=((),r.gM,r.iW,(),())
def e3(r:bO):=(r.eu.gH,r.eu.iO,r.eu.aJ,r.eu.aH,r.eu.fD,r.eu.dh,r.eu.jX,r.eu.ou,r.eu.iC,r.eu.oW,(),r.up,r.state.bf,r.state.eH,r.state.aH,r.state.aJ,r.state.jT,r.state.d9,r.state.gP,r.state.dL,())
def e4(r:iJ):=({r with l9:=([]:List iD)},(),())
def e5(r:wP):=(r.c.gH,r.c.iO,r.c.aJ,r.c.aH,r.c.fD,r.c.dh,r.c.jX,r.c.ou,r.c.iC,r.c.oW,(),(),(),r.aMj,r.bZ,())
def e6(r:lU):=(r.cell,r.vH,(),(),(),(),(),())
def e7(r:Int):=({yc:=([]:List iY),yQ:=([]:List jr),zP:=r:iw},(),(),())
def e8(r:ku):=({r with dQ:=([]:List mF),dM:=([]:List Int)},(),(),())
def e9(r:jm):=({r with dQ:=([]:List mE),dM:=([]:List Int)},(),(),())
def Hf{a:Type}(r:bA)(w:a):=(e0 r,e2 r.aS,e1 r.aS.bW,(),(),w)
def g0(r:bS):=(({r with data:=([]:List Int)},(),()),r.data,())
def g1(r:fU):=(((),r.gM,r.iW,(),()),({r.bW with data:=([]:List Int)},(),()),r.bW.data,r.bT,())
def g2(r:bA):=(e0 r,((),r.aS.gM,r.aS.iW,(),()),e1 r.aS.bW,r.aS.bW.data,r.aS.bT,())
def g3(r:bP):=(((),(),r.kW,()),((),()),e0 (r.aU.getD 0 aG),e2 (r.aU.getD 0 aG).aS,e1 (r.aU.getD 0 aG).aS.bW,(r.aU.getD 0 aG).aS.bW.data,(r.aU.getD 0 aG).aS.bT,r.bn,())
def g4(r:bO):=(e3 r,((),(),r.bn.kW,()),((),()),e0 (r.bn.aU.getD 0 aG),e2 (r.bn.aU.getD 0 aG).aS,e1 (r.bn.aU.getD 0 aG).aS.bW,(r.bn.aU.getD 0 aG).aS.bW.data,(r.bn.aU.getD 0 aG).aS.bT,r.bn.bn,())
def g5(r:iJ):=(({r with l9:=([]:List iD)},(),()),r.l9,())
def g6(r:lU):=((r.cell,r.vH,(),(),(),(),(),()),r.sH,((),()),r.now.tJ.values,r.now.qA,r.now.wU,({r.qd with l9:=([]:List iD)},(),()),r.qd.l9,())
def g7(r:lU):=((r.cell,r.vH,(),(),(),(),(),()),r.sH,((),()),r.now.tJ.values,r.now.qA,r.now.wU,e4 r.qd,r.qd.l9,())
def g8(r:wP):=(e5 r,e3 r.p,((),(),r.p.bn.kW,()),((),()),e0 (r.p.bn.aU.getD 0 aG),e2 (r.p.bn.aU.getD 0 aG).aS,e1 (r.p.bn.aU.getD 0 aG).aS.bW,(r.p.bn.aU.getD 0 aG).aS.bW.data,(r.p.bn.aU.getD 0 aG).aS.bT,r.p.bn.bn,((),()),((),(),()),(((r.copies.getD 0 aG).getD 0 aG).cell,((r.copies.getD 0 aG).getD 0 aG).vH,(),(),(),(),(),()),((r.copies.getD 0 aG).getD 0 aG).sH,((),()),((r.copies.getD 0 aG).getD 0 aG).now.tJ.values,((r.copies.getD 0 aG).getD 0 aG).now.qA,((r.copies.getD 0 aG).getD 0 aG).now.wU,({((r.copies.getD 0 aG).getD 0 aG).qd with l9:=([]:List iD)},(),()),((r.copies.getD 0 aG).getD 0 aG).qd.l9,(((r.copies.getD 0 aG).getD 1 aG).cell,((r.copies.getD 0 aG).getD 1 aG).vH,(),(),(),(),(),()),((r.copies.getD 0 aG).getD 1 aG).sH,((),()),((r.copies.getD 0 aG).getD 1 aG).now.tJ.values,((r.copies.getD 0 aG).getD 1 aG).now.qA,((r.copies.getD 0 aG).getD 1 aG).now.wU,({((r.copies.getD 0 aG).getD 1 aG).qd with l9:=([]:List iD)},(),()),((r.copies.getD 0 aG).getD 1 aG).qd.l9,r.Gj,())
def g9(r:bS):=(({r with data:=([]:List Int)},(),()),(),r.data,())
def g10(r:fU):=(((),r.gM,r.iW,(),()),({r.bW with data:=([]:List Int)},(),()),(),r.bT,r.bW.data,())
def g11(r:bA):=(e0 r,((),r.aS.gM,r.aS.iW,(),()),({r.aS.bW with data:=([]:List Int)},(),()),(),r.aS.bT,r.aS.bW.data,())
def g12(r:bA):=(e0 r,((),r.aS.gM,r.aS.iW,(),()),({r.aS.bW with data:=([]:List Int)},(),()),r.aS.bW.data,r.aS.bT,())
def g13(r:bA):=(((),()),e0 r,((),r.aS.gM,r.aS.iW,(),()),e1 r.aS.bW,r.aS.bW.data,r.aS.bT,())
def g14(r:bA):=(e0 r,((),r.aS.gM,r.aS.iW,(),()),e1 r.aS.bW,r.aS.bW.data,r.aS.bT,((),()),())
def g15(r:bA):=(e0 r,((),r.aS.gM,r.aS.iW,(),()),e1 r.aS.bW,(),r.aS.bT,r.aS.bW.data,())
def g16(r:bP):=(((),(),r.kW,()),((),()),e0 (r.aU.getD 0 aG),e2 (r.aU.getD 0 aG).aS,e1 (r.aU.getD 0 aG).aS.bW,(r.aU.getD 0 aG).aS.bW.data,(r.aU.getD 0 aG).aS.bT,(),r.bn,())
def g17(r:fU):=(((),r.gM,r.iW,(),()),({r.bW with data:=([]:List Int)},(),()),r.bW.data,(),r.bT,())
def g18(r:fU):=(((),r.gM,r.iW,(),()),({r.bW with data:=([]:List Int)},(),()),(),(),r.bW.data,r.bT,())
def g19(r:bA):=(e0 r,((),r.aS.gM,r.aS.iW,(),()),e1 r.aS.bW,(),(),r.aS.bW.data,r.aS.bT,())
def g20(r:bA):=(e0 r,((),r.aS.gM,r.aS.iW,(),()),({r.aS.bW with data:=([]:List Int)},(),()),(),(),r.aS.bW.data,r.aS.bT,())
def g21(r:bP):=(((),(),r.kW,()),((),()),Hf (r.aU.getD 0 aG) ((),(r.aU.getD 0 aG).aS.bW.data,(r.aU.getD 0 aG).aS.bT,r.bn,()))
def g22(r:bO):=(e3 r,((),(),r.bn.kW,()),((),()),Hf (r.bn.aU.getD 0 aG) ((),(r.bn.aU.getD 0 aG).aS.bW.data,(r.bn.aU.getD 0 aG).aS.bT,r.bn.bn,()))
def g23(r:wP):=(e5 r,e3 r.p,((),(),r.p.bn.kW,()),((),()),Hf (r.p.bn.aU.getD 0 aG) ((),((),()),((),(),()),(((r.copies.getD 0 aG).getD 0 aG).cell,((r.copies.getD 0 aG).getD 0 aG).vH,(),(),(),(),(),()),((r.copies.getD 0 aG).getD 0 aG).sH,((),()),((r.copies.getD 0 aG).getD 0 aG).now.tJ.values,((r.copies.getD 0 aG).getD 0 aG).now.qA,((r.copies.getD 0 aG).getD 0 aG).now.wU,({((r.copies.getD 0 aG).getD 0 aG).qd with l9:=([]:List iD)},(),()),((r.copies.getD 0 aG).getD 0 aG).qd.l9,(((r.copies.getD 0 aG).getD 1 aG).cell,((r.copies.getD 0 aG).getD 1 aG).vH,(),(),(),(),(),()),((r.copies.getD 0 aG).getD 1 aG).sH,((),()),((r.copies.getD 0 aG).getD 1 aG).now.tJ.values,((r.copies.getD 0 aG).getD 1 aG).now.qA,((r.copies.getD 0 aG).getD 1 aG).now.wU,({((r.copies.getD 0 aG).getD 1 aG).qd with l9:=([]:List iD)},(),()),((r.copies.getD 0 aG).getD 1 aG).qd.l9,(),(r.p.bn.aU.getD 0 aG).aS.bW.data,(r.p.bn.aU.getD 0 aG).aS.bT,r.p.bn.bn,r.Gj,()))
def g24(r:iJ):=(({r with l9:=([]:List iD)},(),()),(),r.l9,())
def g25(r:wP):=(e5 r,e3 r.p,((),(),r.p.bn.kW,()),((),()),e0 (r.p.bn.aU.getD 0 aG),e2 (r.p.bn.aU.getD 0 aG).aS,e1 (r.p.bn.aU.getD 0 aG).aS.bW,(r.p.bn.aU.getD 0 aG).aS.bW.data,(r.p.bn.aU.getD 0 aG).aS.bT,r.p.bn.bn,((),()),((),(),()),(((r.copies.getD 0 aG).getD 0 aG).cell,((r.copies.getD 0 aG).getD 0 aG).vH,(),(),(),(),(),()),((r.copies.getD 0 aG).getD 0 aG).sH,((),()),((r.copies.getD 0 aG).getD 0 aG).now.tJ.values,((r.copies.getD 0 aG).getD 0 aG).now.qA,((r.copies.getD 0 aG).getD 0 aG).now.wU,({((r.copies.getD 0 aG).getD 0 aG).qd with l9:=([]:List iD)},(),()),(),(((r.copies.getD 0 aG).getD 1 aG).cell,((r.copies.getD 0 aG).getD 1 aG).vH,(),(),(),(),(),()),((r.copies.getD 0 aG).getD 1 aG).sH,((),()),((r.copies.getD 0 aG).getD 1 aG).now.tJ.values,((r.copies.getD 0 aG).getD 1 aG).now.qA,((r.copies.getD 0 aG).getD 1 aG).now.wU,({((r.copies.getD 0 aG).getD 1 aG).qd with l9:=([]:List iD)},(),()),(),r.Gj,((r.copies.getD 0 aG).getD 0 aG).qd.l9,((r.copies.getD 0 aG).getD 1 aG).qd.l9,())
def g26(r:lU):=(e6 r,r.sH,((),()),r.now.tJ.values,r.now.qA,r.now.wU,e4 r.qd,r.qd.l9,())
def g27(r:Az×pz×iw×jq):=(((),()),r.2.1.values,r.2.2.1,r.2.2.2,((),()),r.1.tJ.values,e7 r.1.qA.zP,r.1.qA.yc,r.1.qA.yQ,r.1.wU,())
def g28(r:iw):=(e7 r.zP,(),(),r.yc,r.yQ,())
def g29(r:pz×iw×jq):=(((),()),r.1.values,e7 r.2.1.zP,(),(),r.2.2,r.2.1.yc,r.2.1.yQ,())
def g30(r:lU):=((r.cell,r.vH,(),(),(),(),(),()),(),(),(),(),(),e4 r.qd,r.qd.l9,r.sH,((),()),r.now.tJ.values,r.now.qA,r.now.wU,())
def g31(r:gD×List Int×Int×jm×aN×aO):=(r.1,((),()),r.2.1,(r.2.2.1,()),((),()),e9 r.2.2.2.1,r.2.2.2.1.dQ,r.2.2.2.1.dM,(bH r).1,dH r,())
def g32(r:jm×gD×List Int×Int×aN×aO):=(e9 r.1,r.1.dQ,r.1.dM,r.2.1,((),()),r.2.2.1,(r.2.2.2.1,()),((),()),(bH r).1,dH r,())
def JL(r:bP):=(((),(),r.kW,()),((),(),(),()),e0 (r.aU.getD 0 aG),e2 (r.aU.getD 0 aG).aS,e1 (r.aU.getD 0 aG).aS.bW,(r.aU.getD 0 aG).aS.bW.data,(r.aU.getD 0 aG).aS.bT,e0 (r.aU.getD 1 aG),e2 (r.aU.getD 1 aG).aS,e1 (r.aU.getD 1 aG).aS.bW,(r.aU.getD 1 aG).aS.bW.data,(r.aU.getD 1 aG).aS.bT,e0 (r.aU.getD 2 aG),e2 (r.aU.getD 2 aG).aS,e1 (r.aU.getD 2 aG).aS.bW,(r.aU.getD 2 aG).aS.bW.data,(r.aU.getD 2 aG).aS.bT,r.bn,())
def MJ(r:bO):=(e3 r,((),(),r.bn.kW,()),((),(),(),()),e0 (r.bn.aU.getD 0 aG),e2 (r.bn.aU.getD 0 aG).aS,e1 (r.bn.aU.getD 0 aG).aS.bW,(r.bn.aU.getD 0 aG).aS.bW.data,(r.bn.aU.getD 0 aG).aS.bT,e0 (r.bn.aU.getD 1 aG),e2 (r.bn.aU.getD 1 aG).aS,e1 (r.bn.aU.getD 1 aG).aS.bW,(r.bn.aU.getD 1 aG).aS.bW.data,(r.bn.aU.getD 1 aG).aS.bT,e0 (r.bn.aU.getD 2 aG),e2 (r.bn.aU.getD 2 aG).aS,e1 (r.bn.aU.getD 2 aG).aS.bW,(r.bn.aU.getD 2 aG).aS.bW.data,(r.bn.aU.getD 2 aG).aS.bT,r.bn.bn,())
def g35(r:bP):=(((),(),r.kW,()),((),(),(),()),e0 (r.aU.getD 0 aG),e2 (r.aU.getD 0 aG).aS,e1 (r.aU.getD 0 aG).aS.bW,(r.aU.getD 0 aG).aS.bW.data,(r.aU.getD 0 aG).aS.bT,e0 (r.aU.getD 1 aG),e2 (r.aU.getD 1 aG).aS,e1 (r.aU.getD 1 aG).aS.bW,(r.aU.getD 1 aG).aS.bW.data,(r.aU.getD 1 aG).aS.bT,e0 (r.aU.getD 2 aG),e2 (r.aU.getD 2 aG).aS,e1 (r.aU.getD 2 aG).aS.bW,(r.aU.getD 2 aG).aS.bW.data,(r.aU.getD 2 aG).aS.bT,(),r.bn,())
def g36(r:bP):=(((),(),r.kW,()),((),(),(),()),Hf (r.aU.getD 0 aG) (Hf (r.aU.getD 1 aG) (Hf (r.aU.getD 2 aG) ((),(r.aU.getD 0 aG).aS.bW.data,(r.aU.getD 0 aG).aS.bT,(r.aU.getD 1 aG).aS.bW.data,(r.aU.getD 1 aG).aS.bT,(r.aU.getD 2 aG).aS.bW.data,(r.aU.getD 2 aG).aS.bT,r.bn,()))))
def Q7(r:bO):=(e3 r,((),(),r.bn.kW,()),((),(),(),()),Hf (r.bn.aU.getD 0 aG) (Hf (r.bn.aU.getD 1 aG) (Hf (r.bn.aU.getD 2 aG) ((),(r.bn.aU.getD 0 aG).aS.bW.data,(r.bn.aU.getD 0 aG).aS.bT,(r.bn.aU.getD 1 aG).aS.bW.data,(r.bn.aU.getD 1 aG).aS.bT,(r.bn.aU.getD 2 aG).aS.bW.data,(r.bn.aU.getD 2 aG).aS.bT,r.bn.bn,()))))
def g38(r:bO):=(e3 r,((),(),r.bn.kW,()),((),()),e0 (r.bn.aU.getD 0 aG),e2 (r.bn.aU.getD 0 aG).aS,((r.bn.aU.getD 0 aG).aS.bW,(),()),(),(),(),r.bn.bn,(r.bn.aU.getD 0 aG).aS.bT,((r.bn.aU.getD 0 aG).aS.bW).data,())
def g39(r:bO):=(e3 r,((),(),r.bn.kW,()),((),(),(),()),e0 (r.bn.aU.getD 0 aG),e2 (r.bn.aU.getD 0 aG).aS,((r.bn.aU.getD 0 aG).aS.bW,(),()),(),(),e0 (r.bn.aU.getD 1 aG),e2 (r.bn.aU.getD 1 aG).aS,((r.bn.aU.getD 1 aG).aS.bW,(),()),(),(),e0 (r.bn.aU.getD 2 aG),e2 (r.bn.aU.getD 2 aG).aS,((r.bn.aU.getD 2 aG).aS.bW,(),()),(),(),(),r.bn.bn,(r.bn.aU.getD 0 aG).aS.bT,((r.bn.aU.getD 0 aG).aS.bW).data,(r.bn.aU.getD 1 aG).aS.bT,((r.bn.aU.getD 1 aG).aS.bW).data,(r.bn.aU.getD 2 aG).aS.bT,((r.bn.aU.getD 2 aG).aS.bW).data,())
def kH4{a b c d e f:Type}(v:a×b×c×d×e)(r:f):=(v.1,v.2.1,v.2.2.1,v.2.2.2.1,r)
def acJ{a b c d e f g h i j k l:Type}(v:a×b×c×d×e×f×g×h×i×j×k)(r:l):=(v.1,v.2.1,v.2.2.1,v.2.2.2.1,(bH v).1,(dH v).1,(dR v).1,(dY v).1,(gB v).1,(nH v).1,r)
section
abbrev dJ{α:Type}(r:α):=((r,()),())
abbrev dw{α β γ:Type}(v:(α×β)×γ):=v.1.1
section
variable [Fuel] {β:Type} {C:Cx} {p:Nat} {k:Exit->TS->Option β}
theorem v1{y:Code}{b:An β}(h:valid C p y b k):valid C p (.seq x0 y) (.two .z b) k:=vS vZ (h)
theorem v2{y:Code}{b:An β}(h:valid C p y b k):valid C p (.seq x0 (.seq x1 y)) (.two .z (.two .z b)) k:=vS vZ (vS vZ (h))
theorem v3{y:Code}{b:An β}(h:valid C p y b k):valid C p (.seq x0 (.seq x1 (.seq x2 y))) (.two .z (.two .z (.two .z b))) k:=vS vZ (vS vZ (vS vZ (h)))
theorem v4{y:Code}{b:An β}(h:valid C p y b k):valid C p (.seq x0 (.seq x1 (.seq x2 (.seq x3 y)))) (.two .z (.two .z (.two .z (.two .z b)))) k:=vS vZ (vS vZ (vS vZ (vS vZ (h))))
theorem v5{y:Code}{b:An β}(h:valid C p y b k):valid C p (.seq x0 (.seq x1 (.seq x2 (.seq x3 (.seq x4 y))))) (.two .z (.two .z (.two .z (.two .z (.two .z b))))) k:=vS vZ (vS vZ (vS vZ (vS vZ (vS vZ (h)))))
theorem v6{y:Code}{b:An β}(h:valid C p y b k):valid C p (.seq x0 (.seq x1 (.seq x2 (.seq x3 (.seq x4 (.seq x5 y)))))) (.two .z (.two .z (.two .z (.two .z (.two .z (.two .z b)))))) k:=vS vZ (vS vZ (vS vZ (vS vZ (vS vZ (vS vZ (h))))))
theorem v7{y:Code}{b:An β}(h:valid C p y b k):valid C p (.seq x0 (.seq x1 (.seq x2 (.seq x3 (.seq x4 (.seq x5 (.seq x6 y))))))) (.two .z (.two .z (.two .z (.two .z (.two .z (.two .z (.two .z b))))))) k:=vS vZ (vS vZ (vS vZ (vS vZ (vS vZ (vS vZ (vS vZ (h)))))))
theorem v8{x7 y:Code}{b:An β}(h:valid C p y b k):valid C p (.seq x0 (.seq x1 (.seq x2 (.seq x3 (.seq x4 (.seq x5 (.seq x6 (.seq x7 y)))))))) (.two .z (.two .z (.two .z (.two .z (.two .z (.two .z (.two .z (.two .z b)))))))) k:=vS vZ (vS vZ (vS vZ (vS vZ (vS vZ (vS vZ (vS vZ (vS vZ (h))))))))
end
variable [Fuel]
abbrev aX(S:aR):=kU Tryz.prog S
abbrev bB(f:FuncId)(ps rs:Shape){β:Type} [Inhabited β](F:ps.V->Option β)(g:β->rs.V):aR:={f:=f,ps:=ps,rs:=rs,β:=β,F:=F,g:=g,d:=λ_=>aG}
abbrev kV(f:FuncId)(ps rs:Shape){β:Type}(F:ps.V->Option β)(g:β->rs.V)(d:ps.V->β)(hd:∀v,(gY rs.objs (g (d v)).2).take ps.objs.length=gY ps.objs v.2:=by intro v;rfl):aR:={f:=f,ps:=ps,rs:=rs,β:=β,F:=F,g:=g,d:=d,dk:=true,hd:=λ_=>hd}
abbrev jg(f:FuncId)(ps rs:Shape){β:Type} [Inhabited β](F:ps.V->Option β)(g:β->rs.V){R:Type} [Inhabited R](Fr:ps.V->Option R)(pr:R->ps.V->β)(hF:∀v,F v=(Fr v).bind λx=>some (pr x v))(hr:∀v x,(gY rs.objs (g (pr x v)).2).take ps.objs.length=gY ps.objs v.2:=by intro v x;rfl):aR:={f:=f,ps:=ps,rs:=rs,β:=β,F:=F,g:=g,d:=λ_=>aG,ro:=some {R:=R,Fr:=Fr,dr:=aG,pr:=pr,hF:=hF},hr:=λq h v x=>by cases h;exact hr v x}
abbrev kO{S:aR}(h:aX S):{S // aX S}:=⟨S,h⟩
theorem kOk(L:List {S // aX S}):∀S∈L.map (λx=>x.1),kU Tryz.prog S:=by intro S h;obtain⟨x,_,e⟩:=xS.1 h;exact e▸x.2
theorem cu(nt:Nat)(tm:List (Nat×Ty))(L:List {S // aX S})(hf:Tryz.prog.funcs[S.f]? =some fn)(u:S.rs.V->S.β)(an:An S.β){c:Code}(hv:valid ⟨Tryz.prog,nt,tm,L.map (λx=>x.1),[]⟩ S.ps.objs.length c an (vW Tryz.prog S.ps.objs.length S.rs fn.results.toList u))(hb:fn.body=some c:=by rfl)(hgo:∀(vs:Array Value) (w:World),(callFunc S.f vs).run Tryz.prog w=.ok (.enter S.f vs) w:=by intro vs w;rfl)(hn:(Nat.beq nt fn.ntmps&&Nat.ble S.ps.slots.length fn.ntmps&&tq 0 S.ps.slots&&tq 0 S.rs.slots)=true:=by kernel_rfl)(hu:∀v,kQ S.rs.slots (S.g (u v)).1=kQ S.rs.slots v.1/\gY S.rs.objs (S.g (u v)).2=gY S.rs.objs v.2:=by intro v;exact⟨au,au⟩)(hm:∀v,S.F v=exec ⟨Tryz.prog,nt,tm,L.map (λx=>x.1),[]⟩ S.ps.objs.length c an (enc S.ps v) (vW Tryz.prog S.ps.objs.length S.rs fn.results.toList u):=by intro v;kernel_rfl):aX S:=fnI nt tm (L.map λx=>x.1) [] hf u an (kOk L) hv hb hgo hn hu hm
theorem bM(nt:Nat)(tm:List (Nat×Ty))(L:List {S // aX S})(hf:Tryz.prog.funcs[S.f]? =some fn)(u:S.rs.V->S.β){c:Code}(hb:fn.body=some c:=by rfl)(hgo:∀(vs:Array Value) (w:World),(callFunc S.f vs).run Tryz.prog w=.ok (.enter S.f vs) w:=by intro vs w;rfl)(hn:(Nat.beq nt fn.ntmps&&Nat.ble S.ps.slots.length fn.ntmps&&tq 0 S.ps.slots&&tq 0 S.rs.slots)=true:=by kernel_rfl)(hu:∀v,kQ S.rs.slots (S.g (u v)).1=kQ S.rs.slots v.1/\gY S.rs.objs (S.g (u v)).2=gY S.rs.objs v.2:=by intro v;exact⟨au,au⟩)(hm:∀v,S.F v=exec ⟨Tryz.prog,nt,tm,L.map (λx=>x.1),[]⟩ S.ps.objs.length c .z (enc S.ps v) (vW Tryz.prog S.ps.objs.length S.rs fn.results.toList u):=by intro v;kernel_rfl):aX S:=fnI nt tm (L.map λx=>x.1) [] hf u .z (kOk L) vZ hb hgo hn hu hm
end
end
end Go.Proofs
