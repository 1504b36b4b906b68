/- Names for what the walks say again and again, printed by crush.py. -/
import Derived.Test.YtblcklaeejienaaGreatProg
import Derived.Test.YtblcklaeejienaaGreatP5d077fe92
set_option linter.defProp false
set_option linter.unusedSectionVars false
set_option linter.unusedSimpArgs false
set_option linter.unusedVariables false
namespace Go.Proofs
open Go Go.AM Go.CP Go.RowKit
section
variable {x0 x1 x2 x3 x4 x5 x6:Code}{S:aS}{fn:Func}
abbrev zC:CK:=.ty (.i .i64)
abbrev zS:SK:=.c zC
abbrev u0:SK:=.st .aM
abbrev u1:SK:=.c (.ty .b)
abbrev u2:SK:=.c (.pb 0 0)
abbrev u3:SK:=.c (.ty (.l (.n .jA)))
abbrev u4:SK:=.c (.ty (.l (.n .jy)))
abbrev u5:SK:=.c (.ty (.l (.i .i64)))
abbrev u6:SK:=.c (.ty (.l (.n .jg)))
abbrev u7:SK:=.c (.ty (.l (.n .iG)))
abbrev u8:SK:=.c (.pb 1 0)
abbrev u9:SK:=.c (.pb 6 0)
abbrev u10:SK:=.c (.ty (.l (.n .bM)))
abbrev oh:SK:=.c (.own 0)
abbrev u12:SK:=.c (.ty (.l (.n .gG)))
abbrev uh:SK:=.st .aN
abbrev JV:SK:=.c (.ty (.i .u64))
abbrev jO:SK:=.c (.pb 2 0)
abbrev u16:SK:=.c (.pb 3 0)
abbrev sV:SK:=.c (.pb 4 0)
abbrev Ap:SK:=.c (.pb 5 0)
abbrev rC:SK:=.st .aP
abbrev u20:SK:=.c (.own 1)
abbrev u21:SK:=.c (.pe 0 0)
abbrev u22:SK:=.c (.own 2)
abbrev u23:SK:=.st .lN
abbrev u24:SK:=.c (.ty (.l (.i .u8)))
abbrev u25:SK:=.st .bJ
abbrev u26:SK:=.c (.ty (.l (.n .bJ)))
abbrev u27:SK:=.c (.own 6)
abbrev u28:SK:=.c (.ty (.l (.n .cO)))
abbrev u29:SK:=.c (.pb 12 0)
abbrev u30:SK:=.st .iC
abbrev u31:SK:=.c (.ty (.l (.n .iC)))
abbrev u32:SK:=.c (.ty .s)
abbrev u33:SK:=.st .lM
abbrev u34:SK:=.c (.ty (.l (.n .iV)))
abbrev u35:SK:=.c (.ty (.l (.n .jr)))
abbrev u36:SK:=.st .iD
abbrev u37:SK:=.c (.ty (.l (.n .aP)))
abbrev u38:SK:=.st .iK
abbrev u39:SK:=.c (.ty (.l (.n .iK)))
abbrev u40:SK:=.c (.fn 131 [])
abbrev u41:SK:=.c (.own 3)
abbrev u42:SK:=.c (.rp (.n .j4))
abbrev u43:SK:=.st .eu
abbrev u44:SK:=.st .fH
abbrev u45:SK:=.c (.ty (.l (.n .eu)))
abbrev u46:SK:=.c (.pb 10 0)
abbrev u47:SK:=.c (.pb 11 0)
abbrev u48:SK:=.c (.pb 26 0)
abbrev u49:SK:=.c (.pb 20 0)
abbrev u50:SK:=.c (.pb 21 0)
abbrev p51:OK:=.bs .aM
abbrev p52:OK:=.ar (.i .u8)
abbrev p53:OK:=.ar (.n .cO)
abbrev p54:OK:=.ar (.n .bJ)
abbrev p55:OK:=.ar (.n .bM)
abbrev p56:OK:=.ar (.n .gG)
abbrev p57:OK:=.bs .iw
abbrev p58:OK:=.bs .jq
abbrev p59:OK:=.ar (.n .iC)
abbrev p60:OK:=.ar (.n .iD)
abbrev p61:OK:=.ar (.n .iK)
abbrev p62:OK:=.bs .oo
abbrev p63:OK:=.bs .nD
abbrev p64:OK:=.bs .aN
abbrev p65:OK:=.bs .aP
abbrev p66:OK:=.bs .bM
abbrev p67:OK:=.bs .gG
abbrev p68:OK:=.ar (.i .i64)
abbrev p69:OK:=.bs .iG
abbrev p70:OK:=.bs .lN
abbrev p71:OK:=.bs .bJ
abbrev p72:OK:=.ar (.n .aP)
abbrev p73:OK:=.ar (.n .iV)
abbrev p74:OK:=.bs .lM
abbrev p75:OK:=.ar (.n .jr)
abbrev zM:OK:=.bs .iD
abbrev mU:OK:=.bs .eU
abbrev MF:OK:=.ar (.n .jA)
abbrev Q0:OK:=.ar (.n .jy)
abbrev Xj:OK:=.ar (.n .iG)
abbrev Dk:OK:=.ar (.n .mG)
abbrev zN:OK:=.ar (.n .eu)
abbrev rT:OK:=.ar (.n .mF)
abbrev zO:OK:=.bs .fH
abbrev kT:OK:=.bx [zC,.ty (.l (.n .jA)),.ty (.l (.n .jy)),.ty (.l (.n .iG)),.ty (.l (.n .jg)),.ty (.l (.i .i64)),.ty (.l (.i .i64)),zC,zC,zC,.pb 1 0,zC,zC,zC,.ty (.l (.n .bM)),.ty (.l (.n .gG)),zC,zC,zC,zC]
abbrev xA:OK:=.bx [zC,.ty (.l (.n .jA)),.ty (.l (.n .jy)),.ty (.l (.n .iG)),.ty (.l (.n .jg)),.ty (.l (.i .i64)),.ty (.l (.i .i64)),zC,zC,zC,.pb 2 0,zC,zC,zC,.ty (.l (.n .bM)),.ty (.l (.n .gG)),zC,zC,zC,zC]
abbrev Xf:OK:=.bx [zC,.ty (.l (.n .jA)),.ty (.l (.n .jy)),.ty (.l (.n .iG)),.ty (.l (.n .jg)),.ty (.l (.i .i64)),.ty (.l (.i .i64)),zC,zC,zC,.pb 1 0,.own 10,.own 28,.ty (.l (.n .wI)),zC]
abbrev o88:OK:=.bw .aM [(1,.own 3),(2,.own 4),(3,.own 5),(4,.nl),(5,.nl),(6,.nl)]
abbrev ME:OK:=.bw .aM [(1,.nl),(2,.nl),(3,.nl),(4,.nl),(5,.nl),(6,.nl)]
abbrev rz:OK:=.bx [.pb 13 0,zC,zC,zC,zC,zC,zC,zC,zC,zC,zC,zC,zC,zC,zC,zC]
abbrev uf:OK:=.bx [.pb 14 0,zC,zC,zC,zC,zC,zC,zC,zC,zC,zC,zC,zC,zC,zC,zC]
abbrev Xg:OK:=.bx [.pb 10 0,zC,zC,zC,zC,zC,zC,zC,zC,zC,zC,zC,zC,zC,zC,zC]
abbrev Xh:OK:=.bx [.pb 15 0,zC,zC,zC,zC,zC,zC,zC,zC,zC,zC,zC,zC,zC,zC,zC]
abbrev jV:OK:=.bx [.pb 1 0,zC,zC,zC,zC,zC,zC,zC,zC,zC,zC,zC,zC,zC,zC,zC]
abbrev kI:OK:=.bx [.pb 3 0,zC,zC,zC,zC,zC,zC,zC,zC,zC,zC,zC,zC,zC,zC,zC]
abbrev kU:OK:=.bx [.pb 4 0,zC,zC,zC,zC,zC,zC,zC,zC,zC,zC,zC,zC,zC,zC,zC]
abbrev xB:OK:=.bx [.pb 5 0,zC,zC,zC,zC,zC,zC,zC,zC,zC,zC,zC,zC,zC,zC,zC]
abbrev o98:OK:=.bx [.pb 2 0,zC,zC,zC,zC,zC,zC,zC,zC,zC,zC,zC,zC,zC,zC,zC]
abbrev rA:OK:=.bx [.pb 8 0,zC,zC,zC,zC,zC,zC,zC,zC,zC,zC,zC,zC,zC,zC,zC]
abbrev tO:OK:=.bx [.pb 9 0,zC,zC,zC,zC,zC,zC,zC,zC,zC,zC,zC,zC,zC,zC,zC]
abbrev Ma:OK:=.bx [zC,zC,.own 13,.pb 14 0,.pb 16 0,.pb 17 0,.pb 18 0]
abbrev Mc:OK:=.bx [zC,zC,.own 21,.pb 22 0,.pb 24 0,.pb 25 0,.pb 26 0]
abbrev akm:OK:=.bx [zC,zC,.own 8,.pb 9 0,.pb 11 0,.pb 12 0,.pb 6 0]
abbrev Qx:OK:=.bx [zC,zC,.own 1,.pb 2 0,.pb 4 0,.pb 5 0,.pb 6 0]
abbrev Qy:OK:=.bw .j4 [(18,.own 1),(19,.own 2)]
abbrev acC:OK:=.bw .j4 [(18,.own 2),(19,.own 3)]
abbrev y5:OK:=.bw .jm [(18,.own 1),(19,.own 2)]
abbrev akn:OK:=.bw .jm [(18,.own 6),(19,.own 7)]
abbrev aMQ:OK:=.bx [.own 1,.own 10,.ty (.l (.n .aP))]
abbrev acD:OK:=.bx [.own 2,.own 11,.ty (.l (.n .aP))]
abbrev o111:OK:=.bx [.own 1,.own 17,.ty (.l (.n .aP))]
abbrev EL:OK:=.bx [.own 2,.own 18,.ty (.l (.n .aP))]
abbrev WA:OK:=.bx [.own 1,.own 18,.ty (.l (.n .aP))]
abbrev aMR:OK:=.bx [.own 1,.own 24,.ty (.l (.n .aP))]
abbrev acE:OK:=.bx [.own 2,.own 25,.ty (.l (.n .aP))]
abbrev Qz:OK:=.bx [.own 2,.own 19,.ty (.l (.n .aP))]
abbrev WB:OK:=.bx [.own 3,.own 19,.ty (.l (.n .aP))]
abbrev zJ:OK:=.bx [.own 1,.own 7,.ty (.l (.n .aP))]
abbrev CX:OK:=.bx [.own 2,.own 8,.ty (.l (.n .aP))]
abbrev EM:OK:=.bx [.own 3,.own 9,.ty (.l (.n .aP))]
abbrev WC:OK:=.bx [.own 1,.own 8,.ty (.l (.n .aP))]
abbrev QA:OK:=.bx [.own 2,.own 9,.ty (.l (.n .aP))]
abbrev ako:OK:=.bw .iw [(0,.own 3),(1,.own 4)]
abbrev akp:OK:=.bw .aN [(2,.own 1),(3,.own 2)]
abbrev QB:OK:=.bw .aN [(2,.own 0),(3,.own 1)]
abbrev zK:OK:=.bw .aN [(2,.nl),(3,.nl)]
abbrev acF:OK:=.bw .fH [(1,.nl),(2,.nl)]
abbrev qU:OK:=.ra [.pb 2 0,.pb 7 0,.pb 12 0]
abbrev tQ:OK:=.ra [.pb 3 0,.pb 8 0,.pb 13 0]
abbrev WE:OK:=.ra [.pb 4 0,.pb 9 0,.pb 14 0]
abbrev uM:OK:=.bx [.pb 14 0,zC,zC,.own 16]
abbrev EN:OK:=.bx [.pb 10 0,zC,zC,.own 12]
abbrev EO:OK:=.bx [.pb 15 0,zC,zC,.own 17]
abbrev akq:OK:=.bx [.pb 14 0,zC,zC,.own 23]
abbrev EP:OK:=.bx [.pb 10 0,zC,zC,.own 22]
abbrev ES:OK:=.bx [.pb 15 0,zC,zC,.own 24]
abbrev WG:OK:=.bx [.pb 11 0,zC,zC,.own 13]
abbrev WH:OK:=.bx [.pb 16 0,zC,zC,.own 18]
abbrev ET:OK:=.bx [.pb 5 0,zC,zC,.own 10]
abbrev uN:OK:=.bx [.pb 9 0,zC,zC,.own 11]
abbrev akr:OK:=.bx [.pb 4 0,zC,zC,.own 19]
abbrev aks:OK:=.bx [.pb 9 0,zC,zC,.own 21]
abbrev EU:OK:=.bx [.pb 5 0,zC,zC,.own 20]
abbrev CY:OK:=.bx [.pb 1 0,zC,zC,.own 3]
abbrev lJ:OK:=.bx [.pb 2 0,zC,zC,.own 4]
abbrev l9:OK:=.bx [.pb 4 0,zC,zC,.own 6]
abbrev sP:OK:=.bx [.pb 5 0,zC,zC,.own 7]
abbrev y7:OK:=.bx [.pb 6 0,zC,zC,.own 8]
abbrev JB:OK:=.bx [.pb 1 0,zC,zC,.own 4]
abbrev aub:OK:=.bx [.pb 1 0,zC,zC,.own 5]
abbrev acG:OK:=.bx [.pb 2 0,zC,zC,.own 6]
abbrev akt:OK:=.bx [.pb 2 0,zC,zC,.own 5]
abbrev aku:OK:=.bx [.pb 4 0,zC,zC,.own 9]
abbrev QC:OK:=.bw .iH [(2,.own 19)]
abbrev QD:OK:=.bw .iH [(2,.own 27)]
abbrev sQ:OK:=.bw .bQ [(0,.own 10)]
abbrev yB:OK:=.bw .bQ [(0,.own 11)]
abbrev uO:OK:=.bw .bQ [(0,.own 15)]
abbrev EW:OK:=.bw .bQ [(0,.own 16)]
abbrev akv:OK:=.bw .bQ [(0,.own 20)]
abbrev akw:OK:=.bw .bQ [(0,.own 22)]
abbrev auc:OK:=.bw .bQ [(0,.own 24)]
abbrev WI:OK:=.bw .bQ [(0,.own 19)]
abbrev CZ:OK:=.bw .bQ [(0,.own 21)]
abbrev C8:OK:=.bw .bQ [(0,.own 23)]
abbrev QE:OK:=.bw .bQ [(0,.own 25)]
abbrev WJ:OK:=.bw .bQ [(0,.own 12)]
abbrev WK:OK:=.bw .bQ [(0,.own 17)]
abbrev JC:OK:=.bw .bQ [(0,.own 1)]
abbrev xk:OK:=.bw .bQ [(0,.own 2)]
abbrev mP:OK:=.bw .bQ [(0,.own 3)]
abbrev jN:OK:=.bw .bQ [(0,.own 5)]
abbrev qD:OK:=.bw .bQ [(0,.own 6)]
abbrev QF:OK:=.bw .iH [(2,.own 1)]
abbrev GV:OK:=.bw .iH [(2,.own 7)]
abbrev y8:OK:=.bw .bQ [(0,.own 7)]
abbrev QG:OK:=.bw .bQ [(0,.own 4)]
abbrev acH:OK:=.bw .bQ [(0,.own 9)]
abbrev acI:OK:=.bw .fH [(1,.own 5)]
abbrev Md:OK:=.ra [.pb 12 0,.pb 20 0]
abbrev tT:OK:=.ra [.pb 2 0]
abbrev sS:OK:=.ra [.pb 3 0]
abbrev Bv:OK:=.ra [.pb 4 0]
abbrev Me:OK:=.ra [.own 11]
abbrev QH:OK:=.bx [.pb 0 0]
abbrev Mf:OK:=.bx [.mc 15]
abbrev Mg:OK:=.bx [.mc 23]
abbrev Mh:OK:=.bx [.own 2]
abbrev auf:List (Nat×SK):=[(0,u42),(1,zS),(2,zS),(7,oh),(13,.c (.ty (.l (.n .mG)))),(14,zS),(15,zS)]
abbrev aug:List (Nat×SK):=[(3,zS),(4,u2),(5,u8),(6,jO),(8,u16),(11,.c (.mc 4)),(53,u5),(54,zS),(55,zS)]
abbrev aMV:List (Nat×SK):=[(0,u2),(4,.c (.own 18)),(10,u20),(11,zS),(12,zS),(31,u28),(32,zS),(33,zS)]
abbrev aMW:List (Nat×SK):=[(3,jO),(4,u16),(5,sV),(6,Ap),(8,.c (.pe 1 0)),(9,u9),(10,zS),(11,zS)]
abbrev auh:List (Nat×SK):=[(0,u2),(3,zS),(4,zS),(5,zS),(6,zS),(7,u28),(8,zS),(14,zS),(15,zS)]
abbrev aui:List (Nat×SK):=[(4,u2),(10,u8),(11,jO),(12,zS),(102,u41),(103,zS),(104,zS)]
abbrev auj:List (Nat×SK):=[(0,u2),(1,.c (.fb 305 0 0)),(5,.c (.own 5)),(10,zS),(11,zS)]
abbrev auk:List (Nat×SK):=[(0,u2),(1,zS),(5,zS),(12,u5),(13,zS),(14,zS),(35,u1)]
abbrev aMX:List (Nat×SK):=[(2,zS),(3,u2),(4,u8),(7,u22),(12,u5),(13,zS),(14,zS)]
abbrev aul:List (Nat×SK):=[(2,u2),(5,u20),(6,.c (.mc 2)),(11,u45),(12,zS),(13,zS)]
abbrev aMY:List (Nat×SK):=[(0,u2),(3,zS),(4,zS),(9,u20),(10,zS),(11,zS),(35,u1)]
abbrev aMZ:List (Nat×SK):=[(0,u0),(1,.sw .aN [(2,.own 0),(3,.own 1)]),(2,rC)]
abbrev aM0:List (Nat×SK):=[(0,u2),(1,.c (.fn 298 [5])),(5,u27),(10,zS),(11,zS)]
abbrev aum:List (Nat×SK):=[(7,u2),(9,u8),(14,u22),(15,u41),(20,sV),(21,zS)]
abbrev aun:List (Nat×SK):=[(1,zS),(2,zS),(8,zS),(14,u20),(15,zS),(16,zS)]
abbrev aM1:List (Nat×SK):=[(0,u2),(5,u8),(6,jO),(7,u16),(8,sV),(9,Ap)]
abbrev auo:List (Nat×SK):=[(3,u2),(5,u8),(9,zS),(55,u5),(56,zS),(57,zS)]
abbrev acP:List (Nat×SK):=[(0,.sw .aN [(2,.own 0),(3,.own 1)]),(1,rC)]
abbrev aup:List (Nat×SK):=[(0,u2),(1,zS),(5,zS),(12,u5),(13,zS),(14,zS)]
abbrev akG:List (Nat×SK):=[(0,.sw .aN [(2,.own 0),(3,.own 1)]),(1,zS)]
abbrev auq:List (Nat×SK):=[(0,u2),(3,zS),(4,zS),(5,zS),(14,zS),(15,zS)]
abbrev aur:List (Nat×SK):=[(0,u0),(1,.sw .aN [(2,.own 0),(3,.own 1)])]
abbrev aM2:List (Nat×SK):=[(0,.sw .aN [(2,.own 2),(3,.own 3)]),(1,zS)]
abbrev aus:List (Nat×SK):=[(1,zS),(2,u2),(5,zS),(9,u5),(10,zS),(11,zS)]
abbrev aut:List (Nat×SK):=[(0,oh),(1,.c (.fn 333 [1])),(5,zS),(6,zS)]
abbrev auu:List (Nat×SK):=[(2,u2),(5,u20),(10,u22),(11,zS),(12,zS)]
abbrev auv:List (Nat×SK):=[(0,oh),(1,.c (.fn 58 [1])),(5,zS),(6,zS)]
abbrev auw:List (Nat×SK):=[(0,zS),(1,zS),(2,.c (.rp (.n .aM)))]
abbrev auy:List (Nat×SK):=[(1,zS),(5,oh),(9,u45),(10,zS),(11,zS)]
abbrev auz:List (Nat×SK):=[(2,u2),(3,u8),(5,u22),(15,zS),(16,zS)]
abbrev auA:List (Nat×SK):=[(0,u2),(3,zS),(9,u20),(10,zS),(11,zS)]
abbrev acQ:List (Nat×SK):=[(0,.sw .aN [(2,.own 0),(3,.own 1)])]
abbrev auB:List (Nat×SK):=[(1,u2),(3,u20),(7,u12),(8,zS),(9,zS)]
abbrev auC:List (Nat×SK):=[(0,u2),(2,zS),(3,zS),(28,zS),(29,zS)]
abbrev auD:List (Nat×SK):=[(2,zS),(4,u2),(7,u8),(8,jO),(9,u41)]
abbrev auE:List (Nat×SK):=[(1,zS),(2,u2),(5,u20),(9,zS),(10,zS)]
abbrev auF:List (Nat×SK):=[(2,u2),(5,u20),(8,u5),(9,zS),(10,zS)]
abbrev auG:List (Nat×SK):=[(1,zS),(2,zS),(3,u2),(7,u20),(8,zS)]
abbrev auH:List (Nat×SK):=[(0,u2),(10,u20),(11,zS),(12,zS)]
abbrev akH:List (Nat×SK):=[(0,u0),(1,uh),(2,u44),(3,zS)]
abbrev aM3:List (Nat×SK):=[(0,u2),(1,zS),(2,zS),(3,u33)]
abbrev C9:List (Nat×SK):=[(0,u0),(1,uh),(2,rC)]
abbrev Ms:List (Nat×SK):=[(0,u0),(1,uh),(2,zS)]
abbrev acR:List (Nat×SK):=[(0,oh),(1,zS),(2,zS)]
abbrev WR:List (Nat×SK):=[(0,zS),(1,zS),(2,zS)]
abbrev JI:List (Nat×SK):=[(0,u0),(1,zS),(2,zS)]
abbrev G8:List (Nat×SK):=[(0,u2),(1,zS),(2,zS)]
abbrev auI:List (Nat×SK):=[(0,u2),(1,zS),(5,zS)]
abbrev auJ:List (Nat×SK):=[(0,u5),(1,u5),(2,zS)]
abbrev JJ:List (Nat×SK):=[(0,uh),(1,rC)]
abbrev acS:List (Nat×SK):=[(0,uh),(1,zS)]
abbrev G9:List (Nat×SK):=[(0,u0),(1,uh)]
abbrev auK:List (Nat×SK):=[(0,u2),(1,u23)]
abbrev acT:List (Nat×SK):=[(0,u2),(1,rC)]
abbrev aM4:List (Nat×SK):=[(0,u2),(1,u25)]
abbrev acU:List (Nat×SK):=[(0,u2),(1,u36)]
abbrev BG:List (Nat×SK):=[(0,zS),(1,zS)]
abbrev Da:List (Nat×SK):=[(0,u2),(1,zS)]
abbrev He:List (Nat×SK):=[(0,u0),(1,zS)]
abbrev as4:Shape:=⟨[(1,u2),(7,u48),(8,u5),(9,zS)],[kT,Qz,tQ,kU,EU,CZ,.dd,.dd,tO,EP,C8,.dd,.dd,uf,ES,QE,.dd,.dd,.dd,p54,p53,p52,p53,p52,p53,p52,p64]⟩
abbrev as5:Shape:=⟨[(0,zS)],[aMR,qU,kI,akr,.bw .bQ [(0,.own 18)],.dd,.dd,rA,aks,akv,.dd,.dd,rz,akq,akw,.dd,.dd,.dd,p52,p53,p52,p53,p52,p53,p54]⟩
abbrev as6:Shape:=⟨[(0,u1)],[kT,acE,tQ,kU,EU,WI,.dd,.dd,tO,EP,CZ,.dd,.dd,uf,ES,C8,.dd,.dd,.dd,p52,p53,p52,p53,p52,p53,p54]⟩
abbrev as7:Shape:=⟨[(0,zS)],[kT,acE,tQ,kU,EU,WI,.dd,.dd,tO,EP,CZ,.dd,.dd,uf,ES,C8,.dd,.dd,.dd,p52,p53,p52,p53,p52,p53,p54]⟩
abbrev as8:Shape:=⟨aup,[kT,Qz,tQ,kU,EU,CZ,.dd,.dd,tO,EP,C8,.dd,.dd,uf,ES,QE,.dd,.dd,.dd,p54,p53,p52,p53,p52,p53,p52]⟩
abbrev as9:Shape:=⟨auI,[WA,qU,kI,akr,akv,.dd,.dd,rA,aks,akw,.dd,.dd,rz,akq,auc,.dd,.dd,.dd,p54,p53,p52,p53,p52,p53,p52]⟩
abbrev aci:Shape:=⟨[(0,u2)],[kT,EL,tQ,kU,sP,qD,p52,p53,tO,EN,yB,p52,p53,uf,EO,EW,p52,p53,p54]⟩
abbrev ata:Shape:=⟨[(0,u1)],[kT,EL,tQ,kU,sP,qD,p52,p53,tO,EN,yB,p52,p53,uf,EO,EW,p52,p53,p54]⟩
abbrev acj:Shape:=⟨Da,[kT,EL,tQ,kU,sP,qD,p52,p53,tO,EN,yB,p52,p53,uf,EO,EW,p52,p53,p54]⟩
abbrev atb:Shape:=⟨auq,[kT,EL,tQ,kU,sP,qD,p52,p53,tO,EN,yB,p52,p53,uf,EO,EW,p52,p53,p54]⟩
abbrev atc:Shape:=⟨acT,[kT,EL,tQ,kU,sP,qD,p52,p53,tO,EN,yB,p52,p53,uf,EO,EW,p52,p53,p54]⟩
abbrev atd:Shape:=⟨[(0,u2)],[o111,qU,kI,l9,jN,p52,p53,rA,uN,sQ,p52,p53,rz,uM,uO,p52,p53,p54]⟩
abbrev ate:Shape:=⟨[(0,zS)],[o111,qU,kI,l9,jN,p52,p53,rA,uN,sQ,p52,p53,rz,uM,uO,p52,p53,p54]⟩
abbrev atf:Shape:=⟨[(0,u1)],[o111,qU,kI,l9,jN,p52,p53,rA,uN,sQ,p52,p53,rz,uM,uO,p52,p53,p54]⟩
abbrev ajW:Shape:=⟨aMV,[o111,qU,kI,l9,jN,p52,p53,rA,uN,sQ,p52,p53,rz,uM,uO,p52,p53,p54,p72]⟩
abbrev atg:Shape:=⟨[(1,u2),(7,u29),(8,u5),(9,zS)],[kT,QA,sS,kU,ET,yB,.dd,.dd,.dd,p54,p53,p52,p64]⟩
abbrev ath:Shape:=⟨[],[WA,qU,kI,l9,jN,p52,p53,rA,uN,sQ,p52,p53,rz,uM,uO,p52,p53,.dd,p54]⟩
abbrev Ql:Shape:=⟨Da,[o111,qU,kI,l9,jN,p52,p53,rA,uN,sQ,p52,p53,rz,uM,uO,p52,p53,p54]⟩
abbrev ajX:Shape:=⟨auA,[o111,qU,kI,l9,jN,p52,p53,rA,uN,sQ,p52,p53,rz,uM,uO,p52,p53,p54]⟩
abbrev ati:Shape:=⟨aMY,[o111,qU,kI,l9,jN,p52,p53,rA,uN,sQ,p52,p53,rz,uM,uO,p52,p53,p54]⟩
abbrev atj:Shape:=⟨auK,[o111,qU,kI,l9,jN,p52,p53,rA,uN,sQ,p52,p53,rz,uM,uO,p52,p53,p54]⟩
abbrev ajY:Shape:=⟨auH,[o111,qU,kI,l9,jN,p52,p53,rA,uN,sQ,p52,p53,rz,uM,uO,p52,p53,p54]⟩
abbrev atl:Shape:=⟨[(0,.st .kZ)],[akm,.dd,.dd,.dd,.dd,.dd,GV,p59,p60,.bx [.mc 10],.ms,p57,p58]⟩
abbrev atm:Shape:=⟨[(0,zS)],[aMQ,tT,kI,aku,.bw .bQ [(0,.own 8)],.dd,.dd,.dd,p52,p53,p54]⟩
abbrev atn:Shape:=⟨[(0,u1)],[kT,acD,sS,kU,ET,acH,.dd,.dd,.dd,p52,p53,p54]⟩
abbrev ato:Shape:=⟨[(0,zS)],[kT,acD,sS,kU,ET,acH,.dd,.dd,.dd,p52,p53,p54]⟩
abbrev atp:Shape:=⟨aup,[kT,QA,sS,kU,ET,yB,.dd,.dd,.dd,p54,p53,p52]⟩
abbrev atq:Shape:=⟨[(0,.ag [.pb 0 0,.pb 2 0,.pb 3 0])],[.bx [.mc 1],.ms,p57,p58]⟩
abbrev acn:Shape:=⟨[(0,u2)],[Qx,p60,.bx [.mc 3],.ms,p57,p58,GV,p59]⟩
abbrev atr:Shape:=⟨[(0,zS)],[Qx,p60,.bx [.mc 3],.ms,p57,p58,GV,p59]⟩
abbrev Wm:Shape:=⟨[(0,u2)],[kT,CX,sS,kU,sP,qD,p52,p53,p54]⟩
abbrev att:Shape:=⟨[(0,u1)],[kT,CX,sS,kU,sP,qD,p52,p53,p54]⟩
abbrev atu:Shape:=⟨[(9,u2),(14,u20),(20,jO),(23,zS)],[p64,p68,p64]⟩
abbrev atv:Shape:=⟨[(0,u2),(9,zS),(10,zS)],[jV,lJ,mP,p52,p53]⟩
abbrev ajZ:Shape:=⟨aM3,[Qx,p60,.bx [.mc 3],.ms,p57,p58,GV,p59]⟩
abbrev aco:Shape:=⟨Da,[kT,CX,sS,kU,sP,qD,p52,p53,p54]⟩
abbrev aj0:Shape:=⟨[(0,u2)],[zJ,tT,kI,l9,jN,p52,p53,p54]⟩
abbrev atw:Shape:=⟨[(0,zS)],[zJ,tT,kI,l9,jN,p52,p53,p54]⟩
abbrev atx:Shape:=⟨[(0,u1)],[zJ,tT,kI,l9,jN,p52,p53,p54]⟩
abbrev aty:Shape:=⟨auq,[kT,CX,sS,kU,sP,qD,p52,p53,p54]⟩
abbrev atz:Shape:=⟨acT,[kT,CX,sS,kU,sP,qD,p52,p53,p54]⟩
abbrev atA:Shape:=⟨[(2,u2),(5,u20),(6,u22),(7,zS)],[p51,p68,p68]⟩
abbrev atB:Shape:=⟨aMW,[p55,p56,p51,QB,p65,zK,.bs .jg]⟩
abbrev atC:Shape:=⟨[(2,u2),(3,u8),(5,u22),(6,zS)],[p51,p64,p68]⟩
abbrev atD:Shape:=⟨[],[WC,tT,kI,l9,jN,p52,p53,.dd,p54]⟩
abbrev atE:Shape:=⟨[(0,u2),(3,Ap)],[jV,lJ,mP,p52,p53,p71]⟩
abbrev atF:Shape:=⟨[(0,u2),(1,zS),(2,rC)],[CY,xk,p52,p53]⟩
abbrev Qm:Shape:=⟨Da,[zJ,tT,kI,l9,jN,p52,p53,p54]⟩
abbrev atG:Shape:=⟨auK,[zJ,tT,kI,l9,jN,p52,p53,p54]⟩
abbrev atH:Shape:=⟨[(0,u26)],[jV,acG,jN,.dd,.dd,p52,p53]⟩
abbrev atI:Shape:=⟨[(0,oh),(3,u8),(7,zS),(8,zS)],[p61,p65]⟩
abbrev atJ:Shape:=⟨[(1,zS),(2,u2),(5,u20),(6,zS)],[p51,p68]⟩
abbrev atK:Shape:=⟨[(8,oh),(21,u37),(22,zS),(23,zS)],[p61]⟩
abbrev atL:Shape:=⟨[(0,u2),(2,zS)],[jV,lJ,mP,p52,p53]⟩
abbrev atM:Shape:=⟨[(0,oh),(1,u40),(5,zS),(6,zS)],[p61]⟩
abbrev atN:Shape:=⟨aM0,[jV,lJ,mP,p52,p53,QH,p54]⟩
abbrev atO:Shape:=⟨[(0,u26)],[jV,lJ,jN,.dd,p53,p52]⟩
abbrev atP:Shape:=⟨[(0,u2),(1,u24)],[CY,xk,p52,p53]⟩
abbrev atQ:Shape:=⟨[(0,zS)],[aub,QG,.dd,.dd,p52,p53]⟩
abbrev Wn:Shape:=⟨[(0,u26)],[jV,lJ,mP,p52,p53]⟩
abbrev Bt:Shape:=⟨[(0,u2)],[jV,lJ,mP,p52,p53]⟩
abbrev Qn:Shape:=⟨[(0,zS)],[jV,lJ,mP,p52,p53]⟩
abbrev aj1:Shape:=⟨aM1,[mU,p51,p64,p65,p65,p66]⟩
abbrev Wo:Shape:=⟨[(0,u2)],[CY,xk,p52,p53]⟩
abbrev Wp:Shape:=⟨Da,[jV,lJ,mP,p52,p53]⟩
abbrev Wq:Shape:=⟨[(0,zS)],[CY,xk,p52,p53]⟩
abbrev Qo:Shape:=⟨aM4,[jV,lJ,mP,p52,p53]⟩
abbrev aj2:Shape:=⟨[],[jV,lJ,mP,p52,p53]⟩
abbrev aj3:Shape:=⟨[(0,u2)],[.bx [.mc 1],.ms]⟩
abbrev Ws:Shape:=⟨Da,[CY,xk,p52,p53]⟩
abbrev aj4:Shape:=⟨[(0,u1)],[y5,rT,p68]⟩
abbrev Aj:Shape:=⟨aM2,[.dd,.dd,p55,p56]⟩
abbrev aj5:Shape:=⟨[(0,u24),(1,zS)],[]⟩
abbrev aj6:Shape:=⟨[(0,rC),(1,zS)],[]⟩
abbrev acp:Shape:=⟨aMX,[p51,p64,p68]⟩
abbrev EG:Shape:=⟨[(0,oh)],[p68]⟩
abbrev LY:Shape:=⟨aMZ,[p55,p56]⟩
abbrev LZ:Shape:=⟨[(0,JV)],[]⟩
abbrev Wt:Shape:=⟨[(0,rC)],[]⟩
abbrev Wu:Shape:=⟨[(0,u24)],[]⟩
abbrev Wv:Shape:=⟨[(0,u32)],[]⟩
abbrev yY:Shape:=⟨[(0,u0)],[]⟩
abbrev iW:Shape:=⟨[(0,u1)],[]⟩
abbrev jC:Shape:=⟨[(0,zS)],[]⟩
abbrev yZ:Shape:=⟨[(0,u5)],[]⟩
section
variable (a b c d e f g h i j k l m n o p q s t u w x y z A B C D E F G H I J L:Type)
abbrev t0:Type:=((a×Int×Int×b)×(bQ×c)×List Int×List cO×d)
abbrev t1:Type:=(a×Int×Int×Int×Int×Int×Int×Int×Int×Int×Int×Int×Int×Int×Int×Int×b)
abbrev t2:Type:=((t1 a b)×(c×Int×Int×d)×(bQ×e)×List Int×List cO×f)
abbrev t3:Type:=((a×b×List aP×c)×d×(t1 e f)×(g×Int×Int×h)×(bQ×i)×List Int×List cO×List bJ×j)
abbrev t4:Type:=(Int×List jA×List jy×List iG×List jg×List Int×List Int×Int×Int×Int×a)
abbrev t5:Type:=(Int×Int×List bM×List gG×Int×Int×Int×Int×a)
abbrev t6:Type:=(Int×List jA×List jy×List iG×List jg×List Int×List Int×Int×Int×Int×a×Int×Int×Int×List bM×List gG×Int×Int×Int×Int×b)
abbrev t7:Type:=((t6 a b)×(c×d×List aP×e)×f×(t1 g h)×(i×Int×Int×j)×(bQ×k)×List Int×List cO×List bJ×l)
abbrev t8:Type:=((Int×Int×a)×List iD×b×(List (Value×Value))×iw×jq×(iH×c)×List iC×d)
abbrev t9:Type:=(Int×List jA×List jy×List iG×List jg×List Int×List Int×Int×Int×Int×a×b×c×List wI×Int×d)
abbrev t10:Type:=((t9 a b c d)×(t6 e f)×(g×h×List aP×i)×j×(t1 k l)×(m×Int×Int×n)×(bQ×o)×List Int×List cO×List bJ×p×q×(Int×Int×s)×List iD×t×(List (Value×Value))×iw×jq×(iH×u)×List iC×(Int×Int×w)×List iD×x×(List (Value×Value))×iw×jq×(iH×y)×List iC×List iK×z)
abbrev t11:Type:=((a×Int×Int×b)×(bQ×c)×d×List cO×List Int×e)
abbrev t12:Type:=((t1 a b)×(c×Int×Int×d)×(bQ×e)×f×List cO×List Int×g)
abbrev t13:Type:=((a×b×List aP×c)×d×(t1 e f)×(g×Int×Int×h)×(bQ×i)×List Int×List cO×j×List bJ×k)
abbrev t14:Type:=((a×Int×Int×b)×(bQ×c)×List Int×d×List cO×e)
abbrev t15:Type:=((a×Int×Int×b)×(bQ×c)×d×e×List Int×List cO×f)
abbrev t16:Type:=((t1 a b)×(c×Int×Int×d)×(bQ×e)×f×g×List Int×List cO×h)
abbrev t17:Type:=((a×Int×Int×b)×(bQ×c)×d×e×List cO×List Int×f)
abbrev t18:Type:=((t1 a b)×(c×Int×Int×d)×(bQ×e)×f×g×List cO×List Int×h)
abbrev t19:Type:=((a×Int×Int×b)×(bQ×c)×d×e×f×List Int×List cO×g)
abbrev t20:Type:=((t1 a b)×(c×Int×Int×d)×(bQ×e)×f×g×h×List Int×List cO×i)
abbrev t21:Type:=((a×b×List aP×c)×d×(t1 e f)×(g×Int×Int×h)×(bQ×i)×j×k×l×List Int×List cO×List bJ×m)
abbrev t22:Type:=((bQ×a)×b×c×d×e×f×List Int×g)
abbrev t23:Type:=((a×Int×Int×b)×(bQ×c)×d×e×f×g×List cO×List Int×h)
abbrev t24:Type:=((t1 a b)×(c×Int×Int×d)×(bQ×e)×f×g×h×i×List cO×List Int×j)
abbrev t25:Type:=((a×b×List aP×c)×d×(t1 e f)×(g×Int×Int×h)×(bQ×i)×j×k×l×List bJ×List cO×List Int×m)
abbrev t26:Type:=((t6 a b)×(c×d×List aP×e)×f×(t1 g h)×(i×Int×Int×j)×(bQ×k)×l×m×n×List Int×List cO×List bJ×o)
abbrev t27:Type:=((t6 a b)×(c×d×List aP×e)×f×(t1 g h)×(i×Int×Int×j)×(bQ×k)×l×m×n×List bJ×List cO×List Int×o)
abbrev t28:Type:=((bQ×a)×b×c×d×e×f×g×h×i×j×k×l×m×n×o×p×q×s×t×u×w×x×y×List Int×z)
abbrev t29:Type:=((a×Int×Int×b)×(bQ×c)×d×e×f×g×h×i×j×k×l×m×n×o×p×q×s×t×u×w×x×y×z×A×List Int×List cO×B)
abbrev t30:Type:=((t1 a b)×(c×Int×Int×d)×(bQ×e)×f×g×h×i×j×k×l×m×n×o×p×q×s×t×u×w×x×y×z×A×B×C×List Int×List cO×D)
abbrev t31:Type:=((a×b×List aP×c)×d×(t1 e f)×(g×Int×Int×h)×(bQ×i)×j×k×l×m×n×o×p×q×s×t×u×w×x×y×z×A×B×C×D×E×F×G×List Int×List cO×List bJ×H)
abbrev t32:Type:=((t6 a b)×(c×d×List aP×e)×f×(t1 g h)×(i×Int×Int×j)×(bQ×k)×l×m×n×o×p×q×s×t×u×w×x×y×z×A×B×C×D×E×F×G×H×I×List Int×List cO×List bJ×J)
abbrev t33:Type:=((t9 a b c d)×(t6 e f)×(g×h×List aP×i)×j×(t1 k l)×(m×Int×Int×n)×(bQ×o)×p×q×s×t×u×(Int×Int×w)×List iD×x×(List (Value×Value))×iw×jq×(iH×y)×List iC×(Int×Int×z)×List iD×A×(List (Value×Value))×iw×jq×(iH×B)×List iC×C×List Int×List cO×List bJ×List iK×D)
abbrev t34:Type:=((bQ×a)×b×c×d×e×f×g×h×i×j×k×l×m×n×o×p×q×s×t×u×w×x×y×z×A×B×List Int×C)
abbrev t35:Type:=((a×Int×Int×b)×(bQ×c)×d×e×f×g×h×i×j×k×l×m×n×o×p×q×s×t×u×w×x×y×z×A×B×C×List cO×List Int×D)
abbrev t36:Type:=((t1 a b)×(c×Int×Int×d)×(bQ×e)×f×g×h×i×j×k×l×m×n×o×p×q×s×t×u×w×x×y×z×A×B×C×D×E×List cO×List Int×F)
abbrev t37:Type:=((a×b×List aP×c)×d×(t1 e f)×(g×Int×Int×h)×(bQ×i)×j×k×l×m×n×o×p×q×s×t×u×w×x×y×z×A×B×C×D×E×F×G×H×List bJ×List cO×List Int×I)
abbrev t38:Type:=((t6 a b)×(c×d×List aP×e)×f×(t1 g h)×(i×Int×Int×j)×(bQ×k)×l×m×n×o×p×q×s×t×u×w×x×y×z×A×B×C×D×E×F×G×H×I×J×List bJ×List cO×List Int×L)
abbrev t39:Type:=((t9 a b c d)×(t6 e f)×(g×h×List aP×i)×j×(t1 k l)×(m×Int×Int×n)×(bQ×o)×p×q×s×t×u×(Int×Int×w)×List iD×x×(List (Value×Value))×iw×jq×(iH×y)×List iC×(Int×Int×z)×List iD×A×(List (Value×Value))×iw×jq×(iH×B)×List iC×C×List iK×List bJ×List cO×List Int×D)
abbrev t40:Type:=((iH×a)×b×c×d×e×f×g×h×i×j×k×List iC×l)
abbrev t41:Type:=((Int×Int×a)×List iD×b×(List (Value×Value))×iw×jq×(iH×c)×d×e×f×g×h×i×j×k×l×m×List iC×n)
abbrev t42:Type:=((iH×a)×b×c×d×List iC×e)
abbrev t43:Type:=((Int×Int×a)×List iD×b×(List (Value×Value))×iw×jq×(iH×c)×d×e×f×List iC×g)
abbrev t44:Type:=((t9 a b c d)×(t6 e f)×(g×h×List aP×i)×j×(t1 k l)×(m×Int×Int×n)×(bQ×o)×List Int×List cO×List bJ×p×q×(Int×Int×s)×List iD×t×(List (Value×Value))×iw×jq×(iH×u)×w×(Int×Int×x)×List iD×y×(List (Value×Value))×iw×jq×(iH×z)×A×List iK×List iC×List iC×B)
abbrev t45:Type:=((List (Value×Value))×(iw×a)×List iV×List jr×jq×b)
abbrev t46:Type:=((iw×a)×b×c×List iV×List jr×d)
abbrev t47:Type:=((iw×a)×b×c×d×List iV×List jr×e)
abbrev t48:Type:=((Int×Int×a)×b×c×d×e×f×(iH×g)×List iC×List iD×h×(List (Value×Value))×iw×jq×i)
abbrev t49:Type:=((aM×a)×List jA×List jy×List iG×b)
abbrev t50:Type:=((aM×a)×List jA×List jy×List iG×List jg×b)
abbrev t51:Type:=((aM×a)×List jA×List jy×List iG×List jg×List Int×b)
abbrev t52:Type:=((aM×a)×List jA×List jy×List iG×List jg×List Int×List Int×b)
abbrev t53:Type:=((a×b×List aP×c)×d×(t1 e f)×(g×Int×Int×h)×(bQ×i)×List Int×List cO×(t1 j k)×(l×Int×Int×m)×(bQ×n)×List Int×List cO×(t1 o p)×(q×Int×Int×s)×(bQ×t)×List Int×List cO×List bJ×u)
abbrev t54:Type:=((t6 a b)×(c×d×List aP×e)×f×(t1 g h)×(i×Int×Int×j)×(bQ×k)×List Int×List cO×(t1 l m)×(n×Int×Int×o)×(bQ×p)×List Int×List cO×(t1 q s)×(t×Int×Int×u)×(bQ×w)×List Int×List cO×List bJ×x)
abbrev t55:Type:=((a×b×List aP×c)×d×(t1 e f)×(g×Int×Int×h)×(bQ×i)×List Int×List cO×(t1 j k)×(l×Int×Int×m)×(bQ×n)×List Int×List cO×(t1 o p)×(q×Int×Int×s)×(bQ×t)×List Int×List cO×u×List bJ×w)
abbrev t56:Type:=((bQ×a)×b×c×d×e×f×g×h×i×j×k×l×m×n×List Int×o)
abbrev t57:Type:=((a×Int×Int×b)×(bQ×c)×d×e×f×g×h×i×j×k×l×m×n×o×p×List Int×List cO×q)
abbrev t58:Type:=((t1 a b)×(c×Int×Int×d)×(bQ×e)×f×g×h×i×j×k×l×m×n×o×p×q×s×List Int×List cO×t)
abbrev t59:Type:=((bQ×a)×b×c×d×e×f×g×h×i×j×k×List Int×l)
abbrev t60:Type:=((a×Int×Int×b)×(bQ×c)×d×e×f×g×h×i×j×k×l×m×List Int×List cO×n)
abbrev t61:Type:=((t1 a b)×(c×Int×Int×d)×(bQ×e)×f×g×h×i×j×k×l×m×n×o×List Int×List cO×p)
abbrev t62:Type:=((bQ×a)×b×c×d×e×f×g×h×List Int×i)
abbrev t63:Type:=((a×Int×Int×b)×(bQ×c)×d×e×f×g×h×i×j×List Int×List cO×k)
abbrev t64:Type:=((t1 a b)×(c×Int×Int×d)×(bQ×e)×f×g×h×i×j×k×l×List Int×List cO×m)
abbrev t65:Type:=((a×b×List aP×c)×d×(t1 e f)×(g×Int×Int×h)×(bQ×i)×j×k×(t1 l m)×(n×Int×Int×o)×(bQ×p)×q×s×(t1 t u)×(w×Int×Int×x)×(bQ×y)×z×A×B×List Int×List cO×List Int×List cO×List Int×List cO×List bJ×C)
abbrev t66:Type:=((bQ×a)×b×c×d×e×f×g×h×i×j×k×l×m×n×o×p×List Int×q)
abbrev t67:Type:=((a×Int×Int×b)×(bQ×c)×d×e×f×g×h×i×j×k×l×m×n×o×p×q×List cO×List Int×s)
abbrev t68:Type:=((t1 a b)×(c×Int×Int×d)×(bQ×e)×f×g×h×i×j×k×l×m×n×o×p×q×s×t×List cO×List Int×u)
abbrev t69:Type:=((bQ×a)×b×c×d×e×f×g×h×i×j×k×l×m×List Int×n)
abbrev t70:Type:=((a×Int×Int×b)×(bQ×c)×d×e×f×g×h×i×j×k×l×m×n×List cO×List Int×o)
abbrev t71:Type:=((t1 a b)×(c×Int×Int×d)×(bQ×e)×f×g×h×i×j×k×l×m×n×o×p×List cO×List Int×q)
abbrev t72:Type:=((bQ×a)×b×c×d×e×f×g×h×i×j×List Int×k)
abbrev t73:Type:=((a×Int×Int×b)×(bQ×c)×d×e×f×g×h×i×j×k×List cO×List Int×l)
abbrev t74:Type:=((t1 a b)×(c×Int×Int×d)×(bQ×e)×f×g×h×i×j×k×l×m×List cO×List Int×n)
abbrev t75:Type:=((a×b×List aP×c)×d×(t1 e f)×(g×Int×Int×h)×(bQ×i)×j×k×(t1 l m)×(n×Int×Int×o)×(bQ×p)×q×s×(t1 t u)×(w×Int×Int×x)×(bQ×y)×z×A×B×List bJ×List cO×List Int×List cO×List Int×List cO×List Int×C)
abbrev t76:Type:=((bQ×a)×b×c×d×e×f×g×h×i×j×k×l×m×n×o×List Int×p)
abbrev t77:Type:=((a×Int×Int×b)×(bQ×c)×d×e×f×g×h×i×j×k×l×m×n×o×p×List cO×List Int×q)
abbrev t78:Type:=((t1 a b)×(c×Int×Int×d)×(bQ×e)×f×g×h×i×j×k×l×m×n×o×p×q×s×List cO×List Int×t)
abbrev t79:Type:=((bQ×a)×b×c×d×e×f×g×h×i×j×k×l×List Int×m)
abbrev t80:Type:=((a×Int×Int×b)×(bQ×c)×d×e×f×g×h×i×j×k×l×m×List cO×List Int×n)
abbrev t81:Type:=((t1 a b)×(c×Int×Int×d)×(bQ×e)×f×g×h×i×j×k×l×m×n×o×List cO×List Int×p)
abbrev t82:Type:=((bQ×a)×b×c×d×e×f×g×h×i×List Int×j)
abbrev t83:Type:=((a×Int×Int×b)×(bQ×c)×d×e×f×g×h×i×j×List cO×List Int×k)
abbrev t84:Type:=((t1 a b)×(c×Int×Int×d)×(bQ×e)×f×g×h×i×j×k×l×List cO×List Int×m)
abbrev t85:Type:=((a×b×List aP×c)×d×(t1 e f)×(g×Int×Int×h)×(bQ×i)×j×k×(t1 l m)×(n×Int×Int×o)×(bQ×p)×q×s×(t1 t u)×(w×Int×Int×x)×(bQ×y)×z×A×List bJ×List cO×List Int×List cO×List Int×List cO×List Int×B)
abbrev t86:Type:=((t6 a b)×(c×d×List aP×e)×f×(t1 g h)×(i×Int×Int×j)×(bQ×k)×l×m×(t1 n o)×(p×Int×Int×q)×(bQ×s)×t×u×(t1 w x)×(y×Int×Int×z)×(bQ×A)×B×C×D×List Int×List cO×List Int×List cO×List Int×List cO×List bJ×E)
abbrev t87:Type:=((t6 a b)×(c×d×List aP×e)×f×(t1 g h)×(i×Int×Int×j)×(bQ×k)×l×m×(t1 n o)×(p×Int×Int×q)×(bQ×s)×t×u×(t1 w x)×(y×Int×Int×z)×(bQ×A)×B×C×D×List bJ×List cO×List Int×List cO×List Int×List cO×List Int×E)
end
section
variable {a b c d e f g h i j k l m n o p q s t u w x y z A B C D E F G H I J L:Type}
def m0(v:(bQ×a)×List Int×b):bQ:={v.1.1 with data:=v.2.1:bQ}
def m1(v:t0 a b c d):fT:=⟨m0 v.2,v.1.2.1,v.1.2.2.1,v.2.2.2.1⟩
def m2(v:Int×Int×Int×Int×Int×a):uX:=⟨v.1,v.2.1,v.2.2.1,v.2.2.2.1,(bD v).1⟩
def m3(v:t2 a b c d e f):bn:=⟨m1 v.2,v.1.2.1,v.1.2.2.1,v.1.2.2.2.1,(bD v.1).1,(dH v.1).1,m2 (dR v.1),m2 (jc v.1)⟩
def m4(v:t3 a b c d e f g h i j):bR:=⟨[m3 v.2.2],(dz v).1,v.1.2.2.1⟩
def m5(v:t4 a):aM:=⟨v.1,v.2.1,v.2.2.1,v.2.2.2.1,(bD v).1,(dH v).1,(dR v).1,(dz v).1,(fF v).1,(l7 v).1⟩
def m6(v:t5 a):aN:=⟨v.1,v.2.1,v.2.2.1,v.2.2.2.1,(bD v).1,(dH v).1,(dR v).1,(dz v).1⟩
def m7(v:t7 a b c d e f g h i j k l):bO:=⟨m5 v.1,m4 v.2,(jc v.1).1,m6 (lT v.1)⟩
def m8(v:List (Value×Value)):pJ:=⟨v⟩
def m9(v:(List (Value×Value))×iw×jq×a):AO:=⟨m8 v.1,v.2.1,v.2.2.1⟩
def m10(v:(iH×a)×List iC×b):iH:={v.1.1 with mq:=v.2.1:iH}
def m11(v:t8 a b c d):lQ:=⟨v.1.1,v.1.2.1,v.2.1,m9 v.2.2.2,m10 (dR v)⟩
def m12(v:t10 a b c d e f g h i j k l m n o p q s t u w x y z):wP:=⟨m5 v.1,m7 v.2,[[m11 (lT v),m11 (dz (bZ v))]],(fF (dz (bZ v))).1,(bZ v.1).1,(dz (dz v.1)).1⟩
def m13(v:(bQ×a)×b×List Int×c):bQ:={v.1.1 with data:=v.2.2.1:bQ}
def m14(v:(bQ×a)×b×c×List Int×d):bQ:={v.1.1 with data:=v.2.2.2.1:bQ}
def m15(v:t11 a b c d e):fT:=⟨m14 v.2,v.1.2.1,v.1.2.2.1,v.2.2.2.1⟩
def m16(v:t12 a b c d e f g):bn:=⟨m15 v.2,v.1.2.1,v.1.2.2.1,v.1.2.2.2.1,(bD v.1).1,(dH v.1).1,m2 (dR v.1),m2 (jc v.1)⟩
def m17(v:t13 a b c d e f g h i j k):bR:=⟨[m3 v.2.2],(fF v).1,v.1.2.2.1⟩
def m18(v:t14 a b c d e):fT:=⟨m0 v.2,v.1.2.1,v.1.2.2.1,(bD v).1⟩
def m19(v:t15 a b c d e f):fT:=⟨m14 v.2,v.1.2.1,v.1.2.2.1,(dH v).1⟩
def m20(v:t16 a b c d e f g h):bn:=⟨m19 v.2,v.1.2.1,v.1.2.2.1,v.1.2.2.2.1,(bD v.1).1,(dH v.1).1,m2 (dR v.1),m2 (jc v.1)⟩
def m21(v:(bQ×a)×b×c×d×List Int×e):bQ:={v.1.1 with data:=(bD v).1:bQ}
def m22(v:t17 a b c d e f):fT:=⟨m21 v.2,v.1.2.1,v.1.2.2.1,(bD v).1⟩
def m23(v:t18 a b c d e f g h):bn:=⟨m22 v.2,v.1.2.1,v.1.2.2.1,v.1.2.2.2.1,(bD v.1).1,(dH v.1).1,m2 (dR v.1),m2 (jc v.1)⟩
def m24(v:t19 a b c d e f g):fT:=⟨m21 v.2,v.1.2.1,v.1.2.2.1,(dR v).1⟩
def m25(v:t20 a b c d e f g h i):bn:=⟨m24 v.2,v.1.2.1,v.1.2.2.1,v.1.2.2.2.1,(bD v.1).1,(dH v.1).1,m2 (dR v.1),m2 (jc v.1)⟩
def m26(v:t21 a b c d e f g h i j k l m):bR:=⟨[m25 v.2.2],(nI v).1,v.1.2.2.1⟩
def m27(v:t22 a b c d e f g):bQ:={v.1.1 with data:=(dR v).1:bQ}
def m28(v:t23 a b c d e f g h):fT:=⟨m27 v.2,v.1.2.1,v.1.2.2.1,(dR v).1⟩
def m29(v:t24 a b c d e f g h i j):bn:=⟨m28 v.2,v.1.2.1,v.1.2.2.1,v.1.2.2.2.1,(bD v.1).1,(dH v.1).1,m2 (dR v.1),m2 (jc v.1)⟩
def m30(v:t25 a b c d e f g h i j k l m):bR:=⟨[m29 v.2.2],(fF v).1,v.1.2.2.1⟩
def QY(v:t26 a b c d e f g h i j k l m n o):bO:=⟨m5 v.1,m26 v.2,(jc v.1).1,m6 (lT v.1)⟩
def m32(v:t27 a b c d e f g h i j k l m n o):bO:=⟨m5 v.1,m30 v.2,(jc v.1).1,m6 (lT v.1)⟩
def m33(v:t28 a b c d e f g h i j k l m n o p q s t u w x y z):bQ:={v.1.1 with data:=(nI (bZ v)).1:bQ}
def m34(v:t29 a b c d e f g h i j k l m n o p q s t u w x y z A B):fT:=⟨m33 v.2,v.1.2.1,v.1.2.2.1,(lT (bZ v)).1⟩
def m35(v:t30 a b c d e f g h i j k l m n o p q s t u w x y z A B C D):bn:=⟨m34 v.2,v.1.2.1,v.1.2.2.1,v.1.2.2.2.1,(bD v.1).1,(dH v.1).1,m2 (dR v.1),m2 (jc v.1)⟩
def m36(v:t31 a b c d e f g h i j k l m n o p q s t u w x y z A B C D E F G H):bR:=⟨[m35 v.2.2],(fF (fF (bZ v))).1,v.1.2.2.1⟩
def m37(v:t32 a b c d e f g h i j k l m n o p q s t u w x y z A B C D E F G H I J):bO:=⟨m5 v.1,m36 v.2,(jc v.1).1,m6 (lT v.1)⟩
def m38(v:t33 a b c d e f g h i j k l m n o p q s t u w x y z A B C D):wP:=⟨m5 v.1,m37 v.2,[[m11 (lT v),m11 (dz (bZ v))]],(dR (bZ (bZ v))).1,(bZ v.1).1,(dz (dz v.1)).1⟩
def m39(v:t34 a b c d e f g h i j k l m n o p q s t u w x y z A B C):bQ:={v.1.1 with data:=(bZ (bZ v)).1:bQ}
def m40(v:t35 a b c d e f g h i j k l m n o p q s t u w x y z A B C D):fT:=⟨m39 v.2,v.1.2.1,v.1.2.2.1,(bZ (bZ v)).1⟩
def m41(v:t36 a b c d e f g h i j k l m n o p q s t u w x y z A B C D E F):bn:=⟨m40 v.2,v.1.2.1,v.1.2.2.1,v.1.2.2.2.1,(bD v.1).1,(dH v.1).1,m2 (dR v.1),m2 (jc v.1)⟩
def m42(v:t37 a b c d e f g h i j k l m n o p q s t u w x y z A B C D E F G H I):bR:=⟨[m41 v.2.2],(fF (dz (bZ v))).1,v.1.2.2.1⟩
def m43(v:t38 a b c d e f g h i j k l m n o p q s t u w x y z A B C D E F G H I J L):bO:=⟨m5 v.1,m42 v.2,(jc v.1).1,m6 (lT v.1)⟩
def m44(v:t39 a b c d e f g h i j k l m n o p q s t u w x y z A B C D):wP:=⟨m5 v.1,m43 v.2,[[m11 (lT v),m11 (dz (bZ v))]],(fF (fF (bZ v))).1,(bZ v.1).1,(dz (dz v.1)).1⟩
def m45(v:(iH×a)×b×List iC×c):iH:={v.1.1 with mq:=v.2.2.1:iH}
def m46(v:t40 a b c d e f g h i j k l):iH:={v.1.1 with mq:=(jc v).1:iH}
def m47(v:t41 a b c d e f g h i j k l m n):lQ:=⟨v.1.1,v.1.2.1,v.2.1,m9 v.2.2.2,m46 (dR v)⟩
def m48(v:t42 a b c d e):iH:={v.1.1 with mq:=(bD v).1:iH}
def m49(v:t43 a b c d e f g):lQ:=⟨v.1.1,v.1.2.1,v.2.1,m9 v.2.2.2,m48 (dR v)⟩
def m50(v:t44 a b c d e f g h i j k l m n o p q s t u w x y z A B):wP:=⟨m5 v.1,m7 v.2,[[m47 (lT v),m49 (dz (bZ v))]],(fF (dz (bZ v))).1,(bZ v.1).1,(dz (dz v.1)).1⟩
def m51(v:(iw×a)×List iV×List jr×b):iw:=⟨v.2.1,v.2.2.1,v.1.1.zV⟩
def m52(v:t45 a b):AO:=⟨m8 v.1,m51 v.2,(bD v).1⟩
def m53(v:t46 a b c d):iw:=⟨v.2.2.2.1,(bD v).1,v.1.1.zV⟩
def m54(v:t46 a b c d):iw:={v.1.1 with yj:=v.2.2.2.1,yS:=(bD v).1:iw}
def m55(v:t47 a b c d e):iw:=⟨(bD v).1,(dH v).1,v.1.1.zV⟩
def m56(v:t48 a b c d e f g h i):lQ:=⟨v.1.1,v.1.2.1,(fF v).1,m9 (nI v),m10 (dR v)⟩
def m57(v:(aM×a)×List jA×b):aM:={v.1.1 with iM:=v.2.1,aK:=[],aH:=[],fG:=[],cZ:=[],jW:=[]:aM}
def m58(v:(aM×a)×List jA×List jy×b):aM:={v.1.1 with iM:=v.2.1,aK:=v.2.2.1,aH:=[],fG:=[],cZ:=[],jW:=[]:aM}
def m59(v:t49 a b):aM:={v.1.1 with iM:=v.2.1,aK:=v.2.2.1,aH:=v.2.2.2.1,fG:=[],cZ:=[],jW:=[]:aM}
def m60(v:aM):aM:={v with iM:=[],aK:=[],aH:=[],fG:=[],cZ:=[],jW:=[]:aM}
def m61(v:t50 a b):aM:={v.1.1 with iM:=v.2.1,aK:=v.2.2.1,aH:=v.2.2.2.1,fG:=(bD v).1,cZ:=[],jW:=[]:aM}
def m62(v:t51 a b):aM:={v.1.1 with iM:=v.2.1,aK:=v.2.2.1,aH:=v.2.2.2.1,fG:=(bD v).1,cZ:=(dH v).1,jW:=[]:aM}
def m63(v:t52 a b):aM:={v.1.1 with iM:=v.2.1,aK:=v.2.2.1,aH:=v.2.2.2.1,fG:=(bD v).1,cZ:=(dH v).1,jW:=(dR v).1:aM}
def m64(v:((fH×a)×b)×List eu×c):fH:={v.1.1.1 with bH:=v.2.1:fH}
def E9(v:(fH×a)×List eu×b):fH:={v.1.1 with bH:=v.2.1:fH}
def m66(v:fH):fH:={v with bH:=[],jv:=[]:fH}
def kH(v:t53 a b c d e f g h i j k l m n o p q s t u):bR:=⟨[m3 v.2.2,m3 (dz v),m3 (lT v)],(bD (bZ v)).1,v.1.2.2.1⟩
def og(v:t54 a b c d e f g h i j k l m n o p q s t u w x):bO:=⟨m5 v.1,kH v.2,(jc v.1).1,m6 (lT v.1)⟩
def m69(v:t55 a b c d e f g h i j k l m n o p q s t u w):bR:=⟨[m3 v.2.2,m3 (dz v),m3 (lT v)],(dH (bZ v)).1,v.1.2.2.1⟩
def m70(v:t56 a b c d e f g h i j k l m n o):bQ:={v.1.1 with data:=(dz (dz v)).1:bQ}
def m71(v:t57 a b c d e f g h i j k l m n o p q):fT:=⟨m70 v.2,v.1.2.1,v.1.2.2.1,(fF (fF v)).1⟩
def m72(v:t58 a b c d e f g h i j k l m n o p q s t):bn:=⟨m71 v.2,v.1.2.1,v.1.2.2.1,v.1.2.2.2.1,(bD v.1).1,(dH v.1).1,m2 (dR v.1),m2 (jc v.1)⟩
def m73(v:t59 a b c d e f g h i j k l):bQ:={v.1.1 with data:=(jc v).1:bQ}
def m74(v:t60 a b c d e f g h i j k l m n):fT:=⟨m73 v.2,v.1.2.1,v.1.2.2.1,(bZ v).1⟩
def m75(v:t61 a b c d e f g h i j k l m n o p):bn:=⟨m74 v.2,v.1.2.1,v.1.2.2.1,v.1.2.2.2.1,(bD v.1).1,(dH v.1).1,m2 (dR v.1),m2 (jc v.1)⟩
def m76(v:t62 a b c d e f g h i):bQ:={v.1.1 with data:=(fF v).1:bQ}
def m77(v:t63 a b c d e f g h i j k):fT:=⟨m76 v.2,v.1.2.1,v.1.2.2.1,(nI v).1⟩
def m78(v:t64 a b c d e f g h i j k l m):bn:=⟨m77 v.2,v.1.2.1,v.1.2.2.1,v.1.2.2.2.1,(bD v.1).1,(dH v.1).1,m2 (dR v.1),m2 (jc v.1)⟩
def m79(v:t65 a b c d e f g h i j k l m n o p q s t u w x y z A B C):bR:=⟨[m72 v.2.2,m75 (dz v),m78 (lT v)],(jc (bZ v)).1,v.1.2.2.1⟩
def m80(v:t66 a b c d e f g h i j k l m n o p q):bQ:={v.1.1 with data:=(fF (fF v)).1:bQ}
def m81(v:t67 a b c d e f g h i j k l m n o p q s):fT:=⟨m80 v.2,v.1.2.1,v.1.2.2.1,(fF (fF v)).1⟩
def m82(v:t68 a b c d e f g h i j k l m n o p q s t u):bn:=⟨m81 v.2,v.1.2.1,v.1.2.2.1,v.1.2.2.2.1,(bD v.1).1,(dH v.1).1,m2 (dR v.1),m2 (jc v.1)⟩
def m83(v:t69 a b c d e f g h i j k l m n):bQ:={v.1.1 with data:=(bZ v).1:bQ}
def m84(v:t70 a b c d e f g h i j k l m n o):fT:=⟨m83 v.2,v.1.2.1,v.1.2.2.1,(bZ v).1⟩
def m85(v:t71 a b c d e f g h i j k l m n o p q):bn:=⟨m84 v.2,v.1.2.1,v.1.2.2.1,v.1.2.2.2.1,(bD v.1).1,(dH v.1).1,m2 (dR v.1),m2 (jc v.1)⟩
def m86(v:t72 a b c d e f g h i j k):bQ:={v.1.1 with data:=(nI v).1:bQ}
def m87(v:t73 a b c d e f g h i j k l):fT:=⟨m86 v.2,v.1.2.1,v.1.2.2.1,(nI v).1⟩
def m88(v:t74 a b c d e f g h i j k l m n):bn:=⟨m87 v.2,v.1.2.1,v.1.2.2.1,v.1.2.2.2.1,(bD v.1).1,(dH v.1).1,m2 (dR v.1),m2 (jc v.1)⟩
def m89(v:t75 a b c d e f g h i j k l m n o p q s t u w x y z A B C):bR:=⟨[m82 v.2.2,m85 (dz v),m88 (lT v)],(dH (bZ v)).1,v.1.2.2.1⟩
def m90(v:t76 a b c d e f g h i j k l m n o p):bQ:={v.1.1 with data:=(fF (dz v)).1:bQ}
def m91(v:t77 a b c d e f g h i j k l m n o p q):fT:=⟨m90 v.2,v.1.2.1,v.1.2.2.1,(fF (dz v)).1⟩
def m92(v:t78 a b c d e f g h i j k l m n o p q s t):bn:=⟨m91 v.2,v.1.2.1,v.1.2.2.1,v.1.2.2.2.1,(bD v.1).1,(dH v.1).1,m2 (dR v.1),m2 (jc v.1)⟩
def m93(v:t79 a b c d e f g h i j k l m):bQ:={v.1.1 with data:=(lT v).1:bQ}
def m94(v:t80 a b c d e f g h i j k l m n):fT:=⟨m93 v.2,v.1.2.1,v.1.2.2.1,(lT v).1⟩
def m95(v:t81 a b c d e f g h i j k l m n o p):bn:=⟨m94 v.2,v.1.2.1,v.1.2.2.1,v.1.2.2.2.1,(bD v.1).1,(dH v.1).1,m2 (dR v.1),m2 (jc v.1)⟩
def m96(v:t82 a b c d e f g h i j):bQ:={v.1.1 with data:=(l7 v).1:bQ}
def m97(v:t83 a b c d e f g h i j k):fT:=⟨m96 v.2,v.1.2.1,v.1.2.2.1,(l7 v).1⟩
def m98(v:t84 a b c d e f g h i j k l m):bn:=⟨m97 v.2,v.1.2.1,v.1.2.2.1,v.1.2.2.2.1,(bD v.1).1,(dH v.1).1,m2 (dR v.1),m2 (jc v.1)⟩
def m99(v:t85 a b c d e f g h i j k l m n o p q s t u w x y z A B):bR:=⟨[m92 v.2.2,m95 (dz v),m98 (lT v)],(bD (bZ v)).1,v.1.2.2.1⟩
def Qw(v:t86 a b c d e f g h i j k l m n o p q s t u w x y z A B C D E):bO:=⟨m5 v.1,m79 v.2,(jc v.1).1,m6 (lT v.1)⟩
def Jz(v:t87 a b c d e f g h i j k l m n o p q s t u w x y z A B C D E):bO:=⟨m5 v.1,m89 v.2,(jc v.1).1,m6 (lT v.1)⟩
end
def e0(r:bn):=((),r.id,r.n,r.fO,r.fK,r.nK,r.next.e0,r.next.e1,r.next.e2,r.next.e3,r.next.e4,r.gH.e0,r.gH.e1,r.gH.e2,r.gH.e3,r.gH.e4,())
def e1(r:bQ):=({r with data:=([]:List Int)},(),())
def e2(r:fT):=((),r.gJ,r.iR,(),())
def e3(r:bO):=(r.dY.gK,r.dY.iM,r.dY.aK,r.dY.aH,r.dY.fG,r.dY.cZ,r.dY.jW,r.dY.oz,r.dY.iQ,r.dY.o7,(),r.up,r.state.aZ,r.state.eP,r.state.aH,r.state.aK,r.state.jP,r.state.eH,r.state.gP,r.state.dP,())
def e4(r:iH):=({r with mq:=([]:List iC)},(),())
def e5(r:wP):=(r.c.gK,r.c.iM,r.c.aK,r.c.aH,r.c.fG,r.c.cZ,r.c.jW,r.c.oz,r.c.iQ,r.c.o7,(),(),(),r.aLy,r.bS,())
def e6(r:lQ):=(r.cell,r.vH,(),(),(),(),(),())
def e7(r:Int):=({yj:=([]:List iV),yS:=([]:List jr),zV:=r:iw},(),(),())
def e8(r:j4):=({r with dL:=([]:List mG),dM:=([]:List Int)},(),(),())
def e9(r:jm):=({r with dL:=([]:List mF),dM:=([]:List Int)},(),(),())
def Ho{a:Type}(r:bn)(w:a):=(e0 r,e2 r.aR,e1 r.aR.bX,(),(),w)
def g0(r:bQ):=(({r with data:=([]:List Int)},(),()),r.data,())
def g1(r:fT):=(((),r.gJ,r.iR,(),()),({r.bX with data:=([]:List Int)},(),()),r.bX.data,r.bT,())
def g2(r:bn):=(e0 r,((),r.aR.gJ,r.aR.iR,(),()),e1 r.aR.bX,r.aR.bX.data,r.aR.bT,())
def g3(r:bR):=(((),(),r.lY,()),((),()),e0 (r.aT.getD 0 aG),e2 (r.aT.getD 0 aG).aR,e1 (r.aT.getD 0 aG).aR.bX,(r.aT.getD 0 aG).aR.bX.data,(r.aT.getD 0 aG).aR.bT,r.bg,())
def g4(r:bO):=(e3 r,((),(),r.bg.lY,()),((),()),e0 (r.bg.aT.getD 0 aG),e2 (r.bg.aT.getD 0 aG).aR,e1 (r.bg.aT.getD 0 aG).aR.bX,(r.bg.aT.getD 0 aG).aR.bX.data,(r.bg.aT.getD 0 aG).aR.bT,r.bg.bg,())
def g5(r:iH):=(({r with mq:=([]:List iC)},(),()),r.mq,())
def g6(r:lQ):=((r.cell,r.vH,(),(),(),(),(),()),r.sj,((),()),r.now.tH.values,r.now.qz,r.now.wT,({r.qj with mq:=([]:List iC)},(),()),r.qj.mq,())
def g7(r:lQ):=((r.cell,r.vH,(),(),(),(),(),()),r.sj,((),()),r.now.tH.values,r.now.qz,r.now.wT,e4 r.qj,r.qj.mq,())
def g8(r:wP):=(e5 r,e3 r.p,((),(),r.p.bg.lY,()),((),()),e0 (r.p.bg.aT.getD 0 aG),e2 (r.p.bg.aT.getD 0 aG).aR,e1 (r.p.bg.aT.getD 0 aG).aR.bX,(r.p.bg.aT.getD 0 aG).aR.bX.data,(r.p.bg.aT.getD 0 aG).aR.bT,r.p.bg.bg,((),()),((),(),()),(((r.copies.getD 0 aG).getD 0 aG).cell,((r.copies.getD 0 aG).getD 0 aG).vH,(),(),(),(),(),()),((r.copies.getD 0 aG).getD 0 aG).sj,((),()),((r.copies.getD 0 aG).getD 0 aG).now.tH.values,((r.copies.getD 0 aG).getD 0 aG).now.qz,((r.copies.getD 0 aG).getD 0 aG).now.wT,({((r.copies.getD 0 aG).getD 0 aG).qj with mq:=([]:List iC)},(),()),((r.copies.getD 0 aG).getD 0 aG).qj.mq,(((r.copies.getD 0 aG).getD 1 aG).cell,((r.copies.getD 0 aG).getD 1 aG).vH,(),(),(),(),(),()),((r.copies.getD 0 aG).getD 1 aG).sj,((),()),((r.copies.getD 0 aG).getD 1 aG).now.tH.values,((r.copies.getD 0 aG).getD 1 aG).now.qz,((r.copies.getD 0 aG).getD 1 aG).now.wT,({((r.copies.getD 0 aG).getD 1 aG).qj with mq:=([]:List iC)},(),()),((r.copies.getD 0 aG).getD 1 aG).qj.mq,r.Gp,())
def g9(r:bQ):=(({r with data:=([]:List Int)},(),()),(),r.data,())
def g10(r:fT):=(((),r.gJ,r.iR,(),()),({r.bX with data:=([]:List Int)},(),()),(),r.bT,r.bX.data,())
def g11(r:bn):=(e0 r,((),r.aR.gJ,r.aR.iR,(),()),({r.aR.bX with data:=([]:List Int)},(),()),(),r.aR.bT,r.aR.bX.data,())
def g12(r:bn):=(e0 r,((),r.aR.gJ,r.aR.iR,(),()),({r.aR.bX with data:=([]:List Int)},(),()),r.aR.bX.data,r.aR.bT,())
def g13(r:bn):=(((),()),e0 r,((),r.aR.gJ,r.aR.iR,(),()),e1 r.aR.bX,r.aR.bX.data,r.aR.bT,())
def g14(r:bn):=(e0 r,((),r.aR.gJ,r.aR.iR,(),()),e1 r.aR.bX,r.aR.bX.data,r.aR.bT,((),()),())
def g15(r:bn):=(e0 r,((),r.aR.gJ,r.aR.iR,(),()),e1 r.aR.bX,(),r.aR.bT,r.aR.bX.data,())
def g16(r:bR):=(((),(),r.lY,()),((),()),e0 (r.aT.getD 0 aG),e2 (r.aT.getD 0 aG).aR,e1 (r.aT.getD 0 aG).aR.bX,(r.aT.getD 0 aG).aR.bX.data,(r.aT.getD 0 aG).aR.bT,(),r.bg,())
def g17(r:fT):=(((),r.gJ,r.iR,(),()),({r.bX with data:=([]:List Int)},(),()),r.bX.data,(),r.bT,())
def g18(r:fT):=(((),r.gJ,r.iR,(),()),({r.bX with data:=([]:List Int)},(),()),(),(),r.bX.data,r.bT,())
def g19(r:bn):=(e0 r,((),r.aR.gJ,r.aR.iR,(),()),e1 r.aR.bX,(),(),r.aR.bX.data,r.aR.bT,())
def g20(r:bn):=(e0 r,((),r.aR.gJ,r.aR.iR,(),()),({r.aR.bX with data:=([]:List Int)},(),()),(),(),r.aR.bX.data,r.aR.bT,())
def g21(r:bR):=(((),(),r.lY,()),((),()),Ho (r.aT.getD 0 aG) ((),(r.aT.getD 0 aG).aR.bX.data,(r.aT.getD 0 aG).aR.bT,r.bg,()))
def g22(r:bO):=(e3 r,((),(),r.bg.lY,()),((),()),Ho (r.bg.aT.getD 0 aG) ((),(r.bg.aT.getD 0 aG).aR.bX.data,(r.bg.aT.getD 0 aG).aR.bT,r.bg.bg,()))
def g23(r:wP):=(e5 r,e3 r.p,((),(),r.p.bg.lY,()),((),()),Ho (r.p.bg.aT.getD 0 aG) ((),((),()),((),(),()),(((r.copies.getD 0 aG).getD 0 aG).cell,((r.copies.getD 0 aG).getD 0 aG).vH,(),(),(),(),(),()),((r.copies.getD 0 aG).getD 0 aG).sj,((),()),((r.copies.getD 0 aG).getD 0 aG).now.tH.values,((r.copies.getD 0 aG).getD 0 aG).now.qz,((r.copies.getD 0 aG).getD 0 aG).now.wT,({((r.copies.getD 0 aG).getD 0 aG).qj with mq:=([]:List iC)},(),()),((r.copies.getD 0 aG).getD 0 aG).qj.mq,(((r.copies.getD 0 aG).getD 1 aG).cell,((r.copies.getD 0 aG).getD 1 aG).vH,(),(),(),(),(),()),((r.copies.getD 0 aG).getD 1 aG).sj,((),()),((r.copies.getD 0 aG).getD 1 aG).now.tH.values,((r.copies.getD 0 aG).getD 1 aG).now.qz,((r.copies.getD 0 aG).getD 1 aG).now.wT,({((r.copies.getD 0 aG).getD 1 aG).qj with mq:=([]:List iC)},(),()),((r.copies.getD 0 aG).getD 1 aG).qj.mq,(),(r.p.bg.aT.getD 0 aG).aR.bX.data,(r.p.bg.aT.getD 0 aG).aR.bT,r.p.bg.bg,r.Gp,()))
def g24(r:iH):=(({r with mq:=([]:List iC)},(),()),(),r.mq,())
def g25(r:wP):=(e5 r,e3 r.p,((),(),r.p.bg.lY,()),((),()),e0 (r.p.bg.aT.getD 0 aG),e2 (r.p.bg.aT.getD 0 aG).aR,e1 (r.p.bg.aT.getD 0 aG).aR.bX,(r.p.bg.aT.getD 0 aG).aR.bX.data,(r.p.bg.aT.getD 0 aG).aR.bT,r.p.bg.bg,((),()),((),(),()),(((r.copies.getD 0 aG).getD 0 aG).cell,((r.copies.getD 0 aG).getD 0 aG).vH,(),(),(),(),(),()),((r.copies.getD 0 aG).getD 0 aG).sj,((),()),((r.copies.getD 0 aG).getD 0 aG).now.tH.values,((r.copies.getD 0 aG).getD 0 aG).now.qz,((r.copies.getD 0 aG).getD 0 aG).now.wT,({((r.copies.getD 0 aG).getD 0 aG).qj with mq:=([]:List iC)},(),()),(),(((r.copies.getD 0 aG).getD 1 aG).cell,((r.copies.getD 0 aG).getD 1 aG).vH,(),(),(),(),(),()),((r.copies.getD 0 aG).getD 1 aG).sj,((),()),((r.copies.getD 0 aG).getD 1 aG).now.tH.values,((r.copies.getD 0 aG).getD 1 aG).now.qz,((r.copies.getD 0 aG).getD 1 aG).now.wT,({((r.copies.getD 0 aG).getD 1 aG).qj with mq:=([]:List iC)},(),()),(),r.Gp,((r.copies.getD 0 aG).getD 0 aG).qj.mq,((r.copies.getD 0 aG).getD 1 aG).qj.mq,())
def g26(r:lQ):=(e6 r,r.sj,((),()),r.now.tH.values,r.now.qz,r.now.wT,e4 r.qj,r.qj.mq,())
def g27(r:AO×pJ×iw×jq):=(((),()),r.2.1.values,r.2.2.1,r.2.2.2,((),()),r.1.tH.values,e7 r.1.qz.zV,r.1.qz.yj,r.1.qz.yS,r.1.wT,())
def g28(r:iw):=(e7 r.zV,(),(),r.yj,r.yS,())
def g29(r:pJ×iw×jq):=(((),()),r.1.values,e7 r.2.1.zV,(),(),r.2.2,r.2.1.yj,r.2.1.yS,())
def g30(r:lQ):=((r.cell,r.vH,(),(),(),(),(),()),(),(),(),(),(),e4 r.qj,r.qj.mq,r.sj,((),()),r.now.tH.values,r.now.qz,r.now.wT,())
def g31(r:fH×List Int×Int×jm×aM×aN):=(r.1,((),()),r.2.1,(r.2.2.1,()),((),()),e9 r.2.2.2.1,r.2.2.2.1.dL,r.2.2.2.1.dM,(bD r).1,dH r,())
def g32(r:jm×fH×List Int×Int×aM×aN):=(e9 r.1,r.1.dL,r.1.dM,r.2.1,((),()),r.2.2.1,(r.2.2.2.1,()),((),()),(bD r).1,dH r,())
def Mv(r:bR):=(((),(),r.lY,()),((),(),(),()),e0 (r.aT.getD 0 aG),e2 (r.aT.getD 0 aG).aR,e1 (r.aT.getD 0 aG).aR.bX,(r.aT.getD 0 aG).aR.bX.data,(r.aT.getD 0 aG).aR.bT,e0 (r.aT.getD 1 aG),e2 (r.aT.getD 1 aG).aR,e1 (r.aT.getD 1 aG).aR.bX,(r.aT.getD 1 aG).aR.bX.data,(r.aT.getD 1 aG).aR.bT,e0 (r.aT.getD 2 aG),e2 (r.aT.getD 2 aG).aR,e1 (r.aT.getD 2 aG).aR.bX,(r.aT.getD 2 aG).aR.bX.data,(r.aT.getD 2 aG).aR.bT,r.bg,())
def QS(r:bO):=(e3 r,((),(),r.bg.lY,()),((),(),(),()),e0 (r.bg.aT.getD 0 aG),e2 (r.bg.aT.getD 0 aG).aR,e1 (r.bg.aT.getD 0 aG).aR.bX,(r.bg.aT.getD 0 aG).aR.bX.data,(r.bg.aT.getD 0 aG).aR.bT,e0 (r.bg.aT.getD 1 aG),e2 (r.bg.aT.getD 1 aG).aR,e1 (r.bg.aT.getD 1 aG).aR.bX,(r.bg.aT.getD 1 aG).aR.bX.data,(r.bg.aT.getD 1 aG).aR.bT,e0 (r.bg.aT.getD 2 aG),e2 (r.bg.aT.getD 2 aG).aR,e1 (r.bg.aT.getD 2 aG).aR.bX,(r.bg.aT.getD 2 aG).aR.bX.data,(r.bg.aT.getD 2 aG).aR.bT,r.bg.bg,())
def g35(r:bR):=(((),(),r.lY,()),((),(),(),()),e0 (r.aT.getD 0 aG),e2 (r.aT.getD 0 aG).aR,e1 (r.aT.getD 0 aG).aR.bX,(r.aT.getD 0 aG).aR.bX.data,(r.aT.getD 0 aG).aR.bT,e0 (r.aT.getD 1 aG),e2 (r.aT.getD 1 aG).aR,e1 (r.aT.getD 1 aG).aR.bX,(r.aT.getD 1 aG).aR.bX.data,(r.aT.getD 1 aG).aR.bT,e0 (r.aT.getD 2 aG),e2 (r.aT.getD 2 aG).aR,e1 (r.aT.getD 2 aG).aR.bX,(r.aT.getD 2 aG).aR.bX.data,(r.aT.getD 2 aG).aR.bT,(),r.bg,())
def g36(r:bR):=(((),(),r.lY,()),((),(),(),()),Ho (r.aT.getD 0 aG) (Ho (r.aT.getD 1 aG) (Ho (r.aT.getD 2 aG) ((),(r.aT.getD 0 aG).aR.bX.data,(r.aT.getD 0 aG).aR.bT,(r.aT.getD 1 aG).aR.bX.data,(r.aT.getD 1 aG).aR.bT,(r.aT.getD 2 aG).aR.bX.data,(r.aT.getD 2 aG).aR.bT,r.bg,()))))
def QT(r:bO):=(e3 r,((),(),r.bg.lY,()),((),(),(),()),Ho (r.bg.aT.getD 0 aG) (Ho (r.bg.aT.getD 1 aG) (Ho (r.bg.aT.getD 2 aG) ((),(r.bg.aT.getD 0 aG).aR.bX.data,(r.bg.aT.getD 0 aG).aR.bT,(r.bg.aT.getD 1 aG).aR.bX.data,(r.bg.aT.getD 1 aG).aR.bT,(r.bg.aT.getD 2 aG).aR.bX.data,(r.bg.aT.getD 2 aG).aR.bT,r.bg.bg,()))))
def g38(r:bO):=(e3 r,((),(),r.bg.lY,()),((),()),e0 (r.bg.aT.getD 0 aG),e2 (r.bg.aT.getD 0 aG).aR,((r.bg.aT.getD 0 aG).aR.bX,(),()),(),(),(),r.bg.bg,(r.bg.aT.getD 0 aG).aR.bT,((r.bg.aT.getD 0 aG).aR.bX).data,())
def g39(r:bO):=(e3 r,((),(),r.bg.lY,()),((),(),(),()),e0 (r.bg.aT.getD 0 aG),e2 (r.bg.aT.getD 0 aG).aR,((r.bg.aT.getD 0 aG).aR.bX,(),()),(),(),e0 (r.bg.aT.getD 1 aG),e2 (r.bg.aT.getD 1 aG).aR,((r.bg.aT.getD 1 aG).aR.bX,(),()),(),(),e0 (r.bg.aT.getD 2 aG),e2 (r.bg.aT.getD 2 aG).aR,((r.bg.aT.getD 2 aG).aR.bX,(),()),(),(),(),r.bg.bg,(r.bg.aT.getD 0 aG).aR.bT,((r.bg.aT.getD 0 aG).aR.bX).data,(r.bg.aT.getD 1 aG).aR.bT,((r.bg.aT.getD 1 aG).aR.bX).data,(r.bg.aT.getD 2 aG).aR.bT,((r.bg.aT.getD 2 aG).aR.bX).data,())
def kH4{a b c d e f:Type}(v:a×b×c×d×e)(r:f):=(v.1,v.2.1,v.2.2.1,v.2.2.2.1,r)
def Qu{a b c d e f g h i j k l:Type}(v:a×b×c×d×e×f×g×h×i×j×k)(r:l):=(v.1,v.2.1,v.2.2.1,v.2.2.2.1,(bD v).1,(dH v).1,(dR v).1,(dz v).1,(fF v).1,(l7 v).1,r)
section
abbrev dK{α:Type}(r:α):=((r,()),())
abbrev dx{α β γ:Type}(v:(α×β)×γ):=v.1.1
section
variable [Fuel] {β:Type} {C:Cx} {p:Nat} {k:Exit->TS->Option β}
theorem v1{y:Code}{b:An β}(h:valid C p y b k):valid C p (.seq x0 y) (.two .z b) k:=vS vZ (h)
theorem v2{y:Code}{b:An β}(h:valid C p y b k):valid C p (.seq x0 (.seq x1 y)) (.two .z (.two .z b)) k:=vS vZ (vS vZ (h))
theorem v3{y:Code}{b:An β}(h:valid C p y b k):valid C p (.seq x0 (.seq x1 (.seq x2 y))) (.two .z (.two .z (.two .z b))) k:=vS vZ (vS vZ (vS vZ (h)))
theorem v4{y:Code}{b:An β}(h:valid C p y b k):valid C p (.seq x0 (.seq x1 (.seq x2 (.seq x3 y)))) (.two .z (.two .z (.two .z (.two .z b)))) k:=vS vZ (vS vZ (vS vZ (vS vZ (h))))
theorem v5{y:Code}{b:An β}(h:valid C p y b k):valid C p (.seq x0 (.seq x1 (.seq x2 (.seq x3 (.seq x4 y))))) (.two .z (.two .z (.two .z (.two .z (.two .z b))))) k:=vS vZ (vS vZ (vS vZ (vS vZ (vS vZ (h)))))
theorem v6{y:Code}{b:An β}(h:valid C p y b k):valid C p (.seq x0 (.seq x1 (.seq x2 (.seq x3 (.seq x4 (.seq x5 y)))))) (.two .z (.two .z (.two .z (.two .z (.two .z (.two .z b)))))) k:=vS vZ (vS vZ (vS vZ (vS vZ (vS vZ (vS vZ (h))))))
theorem v7{y:Code}{b:An β}(h:valid C p y b k):valid C p (.seq x0 (.seq x1 (.seq x2 (.seq x3 (.seq x4 (.seq x5 (.seq x6 y))))))) (.two .z (.two .z (.two .z (.two .z (.two .z (.two .z (.two .z b))))))) k:=vS vZ (vS vZ (vS vZ (vS vZ (vS vZ (vS vZ (vS vZ (h)))))))
theorem v8{x7 y:Code}{b:An β}(h:valid C p y b k):valid C p (.seq x0 (.seq x1 (.seq x2 (.seq x3 (.seq x4 (.seq x5 (.seq x6 (.seq x7 y)))))))) (.two .z (.two .z (.two .z (.two .z (.two .z (.two .z (.two .z (.two .z b)))))))) k:=vS vZ (vS vZ (vS vZ (vS vZ (vS vZ (vS vZ (vS vZ (vS vZ (h))))))))
end
variable [Fuel]
abbrev aW(S:aS):=kR Tryz.prog S
abbrev bA(f:FuncId)(ps rs:Shape){β:Type} [Inhabited β](F:ps.V->Option β)(g:β->rs.V):aS:={f:=f,ps:=ps,rs:=rs,β:=β,F:=F,g:=g,d:=λ_=>aG}
abbrev kV(f:FuncId)(ps rs:Shape){β:Type}(F:ps.V->Option β)(g:β->rs.V)(d:ps.V->β)(hd:∀v,(gY rs.objs (g (d v)).2).take ps.objs.length=gY ps.objs v.2:=by intro v;rfl):aS:={f:=f,ps:=ps,rs:=rs,β:=β,F:=F,g:=g,d:=d,dk:=true,hd:=λ_=>hd}
abbrev jk(f:FuncId)(ps rs:Shape){β:Type} [Inhabited β](F:ps.V->Option β)(g:β->rs.V){R:Type} [Inhabited R](Fr:ps.V->Option R)(pr:R->ps.V->β)(hF:∀v,F v=(Fr v).bind λx=>some (pr x v))(hr:∀v x,(gY rs.objs (g (pr x v)).2).take ps.objs.length=gY ps.objs v.2:=by intro v x;rfl):aS:={f:=f,ps:=ps,rs:=rs,β:=β,F:=F,g:=g,d:=λ_=>aG,ro:=some {R:=R,Fr:=Fr,dr:=aG,pr:=pr,hF:=hF},hr:=λq h v x=>by cases h;exact hr v x}
abbrev kO{S:aS}(h:aW S):{S // aW S}:=⟨S,h⟩
theorem kOk(L:List {S // aW S}):∀S∈L.map (λx=>x.1),kR Tryz.prog S:=by intro S h;obtain⟨x,_,e⟩:=qw.1 h;exact e▸x.2
theorem cu(nt:Nat)(tm:List (Nat×Ty))(L:List {S // aW S})(hf:Tryz.prog.funcs[S.f]? =some fn)(u:S.rs.V->S.β)(an:An S.β){c:Code}(hv:valid ⟨Tryz.prog,nt,tm,L.map (λx=>x.1),[]⟩ S.ps.objs.length c an (vY Tryz.prog S.ps.objs.length S.rs fn.results.toList u))(hb:fn.body=some c:=by rfl)(hgo:∀(vs:Array Value) (w:World),(callFunc S.f vs).run Tryz.prog w=.ok (.enter S.f vs) w:=by intro vs w;rfl)(hn:(Nat.beq nt fn.ntmps&&Nat.ble S.ps.slots.length fn.ntmps&&sZ 0 S.ps.slots&&sZ 0 S.rs.slots)=true:=by kernel_rfl)(hu:∀v,kN S.rs.slots (S.g (u v)).1=kN S.rs.slots v.1/\gY S.rs.objs (S.g (u v)).2=gY S.rs.objs v.2:=by intro v;exact⟨au,au⟩)(hm:∀v,S.F v=exec ⟨Tryz.prog,nt,tm,L.map (λx=>x.1),[]⟩ S.ps.objs.length c an (enc S.ps v) (vY Tryz.prog S.ps.objs.length S.rs fn.results.toList u):=by intro v;kernel_rfl):aW S:=fnI nt tm (L.map λx=>x.1) [] hf u an (kOk L) hv hb hgo hn hu hm
theorem bN(nt:Nat)(tm:List (Nat×Ty))(L:List {S // aW S})(hf:Tryz.prog.funcs[S.f]? =some fn)(u:S.rs.V->S.β){c:Code}(hb:fn.body=some c:=by rfl)(hgo:∀(vs:Array Value) (w:World),(callFunc S.f vs).run Tryz.prog w=.ok (.enter S.f vs) w:=by intro vs w;rfl)(hn:(Nat.beq nt fn.ntmps&&Nat.ble S.ps.slots.length fn.ntmps&&sZ 0 S.ps.slots&&sZ 0 S.rs.slots)=true:=by kernel_rfl)(hu:∀v,kN S.rs.slots (S.g (u v)).1=kN S.rs.slots v.1/\gY S.rs.objs (S.g (u v)).2=gY S.rs.objs v.2:=by intro v;exact⟨au,au⟩)(hm:∀v,S.F v=exec ⟨Tryz.prog,nt,tm,L.map (λx=>x.1),[]⟩ S.ps.objs.length c .z (enc S.ps v) (vY Tryz.prog S.ps.objs.length S.rs fn.results.toList u):=by intro v;kernel_rfl):aW S:=fnI nt tm (L.map λx=>x.1) [] hf u .z (kOk L) vZ hb hgo hn hu hm
end
end
end Go.Proofs
