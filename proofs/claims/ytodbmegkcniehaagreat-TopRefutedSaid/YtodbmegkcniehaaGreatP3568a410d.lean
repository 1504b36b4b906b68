/- Names for what the walks say again and again, printed by crush.py. -/
import Derived.Shelf.SlSortCmp.NoneTotal
import Derived.Shelf.Slices.CompactI
import Derived.Shelf.SlMaps.Clone
import Derived.Defers
import Derived.Test.YtodbmegkcniehaaGreatP23eaad774
set_option linter.unusedSimpArgs false
set_option linter.unusedVariables false
namespace Go.Proofs
open Go Go.AM Go.CP
abbrev zC:CK:= .ty (.i .i64)
abbrev zS:SK:= .c zC
abbrev o0:OK:= .bx [zC,.ty (.l (.n .dn)),.ty (.l (.n .cu)),.ty (.l (.n .aW)),.ty (.l (.n .aY)),.ty (.l (.i .i64)),.ty (.l (.i .i64)),zC,zC,zC,.pb 1 0,zC,zC,zC,.ty (.l (.n .ay)),.ty (.l (.n .aH)),zC,zC,zC,zC]
abbrev o1:OK:= .bx [zC,.ty (.l (.n .dn)),.ty (.l (.n .cu)),.ty (.l (.n .aW)),.ty (.l (.n .aY)),.ty (.l (.i .i64)),.ty (.l (.i .i64)),zC,zC,zC,.pb 2 0,zC,zC,zC,.ty (.l (.n .ay)),.ty (.l (.n .aH)),zC,zC,zC,zC]
abbrev o2:OK:= .bx [zC,.ty (.l (.n .dn)),.ty (.l (.n .cu)),.ty (.l (.n .aW)),.ty (.l (.n .aY)),.ty (.l (.i .i64)),.ty (.l (.i .i64)),zC,zC,zC,.pb 1 0,.own 10,.own 28,.ty (.l (.n .mq)),zC]
abbrev o3:OK:= .bw .ak [(1,.own 3),(2,.own 4),(3,.own 5),(4,.nl),(5,.nl),(6,.nl)]
abbrev o4:OK:= .bw .ak [(1,.nl),(2,.nl),(3,.nl),(4,.nl),(5,.nl),(6,.nl)]
abbrev o5:OK:= .bx [.pb 1 0,zC,zC,zC,zC,zC,zC,zC,zC,zC,zC,zC,zC,zC,zC,zC]
abbrev o6:OK:= .bx [.pb 3 0,zC,zC,zC,zC,zC,zC,zC,zC,zC,zC,zC,zC,zC,zC,zC]
abbrev o7:OK:= .bx [.pb 4 0,zC,zC,zC,zC,zC,zC,zC,zC,zC,zC,zC,zC,zC,zC,zC]
abbrev o8:OK:= .bx [.pb 5 0,zC,zC,zC,zC,zC,zC,zC,zC,zC,zC,zC,zC,zC,zC,zC]
abbrev o9:OK:= .bx [.pb 2 0,zC,zC,zC,zC,zC,zC,zC,zC,zC,zC,zC,zC,zC,zC,zC]
abbrev o10:OK:= .bx [zC,zC,.own 13,.pb 14 0,.pb 16 0,.pb 17 0,.pb 18 0]
abbrev o11:OK:= .bx [zC,zC,.own 21,.pb 22 0,.pb 24 0,.pb 25 0,.pb 26 0]
abbrev o12:OK:= .bx [zC,zC,.own 8,.pb 9 0,.pb 11 0,.pb 12 0,.pb 6 0]
abbrev o13:OK:= .bx [zC,zC,.own 1,.pb 2 0,.pb 4 0,.pb 5 0,.pb 6 0]
abbrev o14:OK:= .bx [.own 1,.own 10,.ty (.l (.n .aA))]
abbrev o15:OK:= .bx [.own 2,.own 11,.ty (.l (.n .aA))]
abbrev o16:OK:= .bx [.own 1,.own 7,.ty (.l (.n .aA))]
abbrev o17:OK:= .bx [.own 2,.own 8,.ty (.l (.n .aA))]
abbrev o18:OK:= .bx [.own 3,.own 9,.ty (.l (.n .aA))]
abbrev o19:OK:= .bx [.own 1,.own 8,.ty (.l (.n .aA))]
abbrev o20:OK:= .bx [.own 2,.own 9,.ty (.l (.n .aA))]
abbrev o21:OK:= .bw .bB [(13,.own 1),(14,.own 3)]
abbrev o22:OK:= .bw .aO [(0,.own 3),(1,.own 4)]
abbrev o23:OK:= .bw .aB [(2,.own 1),(3,.own 2)]
abbrev o24:OK:= .bw .aB [(2,.own 0),(3,.own 1)]
abbrev o25:OK:= .bw .eG [(0,.own 5),(1,.own 6)]
abbrev o26:OK:= .bw .aB [(2,.nl),(3,.nl)]
abbrev o27:OK:= .bx [.pb 5 0,zC,zC,.own 10]
abbrev o28:OK:= .bw .aX [(12,.own 1)]
abbrev o29:OK:= .bx [.pb 1 0,zC,zC,.own 3]
abbrev o30:OK:= .bx [.pb 2 0,zC,zC,.own 4]
abbrev o31:OK:= .bx [.pb 4 0,zC,zC,.own 6]
abbrev o32:OK:= .bx [.pb 5 0,zC,zC,.own 7]
abbrev o33:OK:= .bx [.pb 6 0,zC,zC,.own 8]
abbrev o34:OK:= .bx [.pb 2 0,zC,zC,.own 6]
abbrev o35:OK:= .bx [.pb 4 0,zC,zC,.own 9]
abbrev o36:OK:= .bx [.ty (.l (.n .aK))]
abbrev o37:OK:= .bw .aF [(3,.own 2)]
abbrev o38:OK:= .bw .bU [(2,.own 19)]
abbrev o39:OK:= .bw .bU [(2,.own 27)]
abbrev o40:OK:= .bw .ak [(3,.own 2)]
abbrev o41:OK:= .bw .aZ [(0,.own 1)]
abbrev o42:OK:= .bw .aZ [(0,.own 2)]
abbrev o43:OK:= .bw .aZ [(0,.own 3)]
abbrev o44:OK:= .bw .aZ [(0,.own 5)]
abbrev o45:OK:= .bw .aZ [(0,.own 6)]
abbrev o46:OK:= .bw .bU [(2,.own 1)]
abbrev o47:OK:= .bw .bU [(2,.own 7)]
abbrev o48:OK:= .bw .aZ [(0,.own 7)]
abbrev o49:OK:= .bw .aZ [(0,.own 4)]
abbrev o50:OK:= .ra [.pb 12 0,.pb 20 0]
abbrev o51:OK:= .ra [.pb 2 0]
abbrev o52:OK:= .ra [.pb 3 0]
abbrev o53:OK:= .ra [.pb 4 0]
abbrev o54:OK:= .ra [.own 11]
abbrev o55:OK:= .bx [.mc 15]
abbrev o56:OK:= .bx [.mc 23]
abbrev w57:List (Nat×SK):= [(1,.c (.ty (.l (.n .aK)))),(2,.c (.ty (.l (.i .i64)))),(3,.c (.pb 0 0)),(7,.c (.own 1)),(8,zS),(9,.c (.ty (.l (.i .i64)))),(17,zS),(18,zS),(27,.c (.ty (.l (.n .cu)))),(28,zS),(29,zS)]
abbrev w58:List (Nat×SK):= [(0,zS),(2,.c (.fn 204 [0])),(7,.c (.own 1)),(8,zS),(12,.c (.ty (.l (.n .aK)))),(13,zS),(14,zS),(23,.c (.own 2)),(24,zS),(25,zS)]
abbrev w59:List (Nat×SK):= [(0,zS),(2,.c (.fn 206 [0])),(7,.c (.own 1)),(8,zS),(12,.c (.ty (.l (.n .aK)))),(13,zS),(14,zS),(23,.c (.own 2)),(24,zS),(25,zS)]
abbrev w60:List (Nat×SK):= [(0,zS),(1,.c (.ty (.l (.n .aK)))),(2,.c (.fn 210 [0,1])),(7,.c (.own 2)),(8,zS),(11,zS),(12,zS),(15,zS),(16,zS)]
abbrev w61:List (Nat×SK):= [(0,zS),(1,.c (.ty (.l (.n .aK)))),(2,.c (.fn 212 [0,1])),(7,.c (.own 2)),(8,zS),(11,zS),(12,zS),(15,zS),(16,zS)]
abbrev w62:List (Nat×SK):= [(3,.c (.pb 2 0)),(4,.c (.pb 3 0)),(5,.c (.pb 4 0)),(6,.c (.pb 5 0)),(8,.c (.pe 1 0)),(9,.c (.pb 6 0)),(10,zS),(11,zS)]
abbrev w63:List (Nat×SK):= [(5,.c (.pb 0 0)),(7,.c (.pb 1 0)),(9,.c (.pb 3 0)),(10,.c (.pb 4 0)),(12,.c (.ty (.l (.n .aA)))),(13,zS)]
abbrev w64:List (Nat×SK):= [(2,.c (.pb 0 0)),(5,.c (.own 1)),(6,.c (.ty (.l (.i .i64)))),(18,.c (.ty (.l (.n .cu)))),(19,zS),(20,zS)]
abbrev w65:List (Nat×SK):= [(0,.c (.pb 0 0)),(5,.c (.pb 1 0)),(6,.c (.pb 2 0)),(7,.c (.pb 3 0)),(8,.c (.pb 4 0)),(9,.c (.pb 5 0))]
abbrev w66:List (Nat×SK):= [(1,.c (.ty (.l (.i .i64)))),(5,.c (.own 0)),(10,.c (.ty (.l (.n .cu)))),(11,zS),(12,zS)]
abbrev w67:List (Nat×SK):= [(2,zS),(3,.c (.pb 0 0)),(7,.c (.own 1)),(19,.c (.ty (.l (.n .aK)))),(20,zS),(21,zS)]
abbrev w68:List (Nat×SK):= [(3,.c (.pb 0 0)),(5,.c (.pb 1 0)),(9,zS),(55,.c (.ty (.l (.i .i64)))),(56,zS),(57,zS)]
abbrev w69:List (Nat×SK):= [(1,.c (.pb 0 0)),(3,.c (.own 1)),(7,.c (.ty (.l (.n .aH)))),(8,zS),(9,zS)]
abbrev w70:List (Nat×SK):= [(2,.c (.pb 0 0)),(5,.c (.own 1)),(17,.c (.ty (.l (.n .aK)))),(18,zS),(19,zS)]
abbrev w71:List (Nat×SK):= [(2,.c (.pb 0 0)),(5,.c (.own 1)),(8,.c (.ty (.l (.n .aK)))),(9,zS),(10,zS)]
abbrev w72:List (Nat×SK):= [(1,.c (.pb 0 0)),(3,.c (.own 1)),(12,.c (.ty (.l (.i .i64)))),(13,zS),(14,zS)]
abbrev w73:List (Nat×SK):= [(0,.st .ak),(1,.sw .aB [(2,.own 0),(3,.own 1)]),(2,.st .aA)]
abbrev w74:List (Nat×SK):= [(2,zS),(4,.c (.pb 0 0)),(7,.c (.pb 1 0)),(8,.c (.pb 2 0)),(9,.c (.own 3))]
abbrev w75:List (Nat×SK):= [(0,.c (.pb 0 0)),(1,.c (.fn 294 [5])),(5,.c (.own 6)),(10,zS),(11,zS)]
abbrev w76:List (Nat×SK):= [(0,.c (.pb 0 0)),(1,.c (.fb 301 0 0)),(5,.c (.own 5)),(10,zS),(11,zS)]
abbrev w77:List (Nat×SK):= [(2,.c (.pb 0 0)),(3,.c (.pb 1 0)),(5,.c (.own 2)),(15,zS),(16,zS)]
abbrev w78:List (Nat×SK):= [(2,.c (.pb 0 0)),(5,.c (.own 1)),(10,.c (.own 2)),(11,zS),(12,zS)]
abbrev w79:List (Nat×SK):= [(1,zS),(5,zS),(8,.c (.ty (.l (.n .bM)))),(9,zS),(10,zS)]
abbrev w80:List (Nat×SK):= [(8,.c (.own 0)),(21,.c (.ty (.l (.n .aA)))),(22,zS),(23,zS)]
abbrev w81:List (Nat×SK):= [(0,.c (.pb 0 0)),(1,zS),(10,.c (.pe 1 1)),(125,zS),(126,zS)]
abbrev w82:List (Nat×SK):= [(0,.c (.pb 0 0)),(1,zS),(10,.c (.pe 1 0)),(125,zS),(126,zS)]
abbrev w83:List (Nat×SK):= [(0,.st .ak),(1,.sw .aB [(2,.own 0),(3,.own 1)])]
abbrev w84:List (Nat×SK):= [(1,zS),(5,zS),(8,.c (.ty (.l (.i .i64)))),(9,zS),(10,zS)]
abbrev w85:List (Nat×SK):= [(0,.sw .aB [(2,.own 0),(3,.own 1)]),(1,.st .aA)]
abbrev w86:List (Nat×SK):= [(0,.c (.pb 0 0)),(3,zS),(4,zS),(5,zS),(14,zS),(15,zS)]
abbrev w87:List (Nat×SK):= [(1,zS),(2,zS),(8,zS),(14,.c (.own 1)),(15,zS),(16,zS)]
abbrev w88:List (Nat×SK):= [(0,.st .aF),(1,.c (.ty (.l (.n .aK)))),(2,zS)]
abbrev w89:List (Nat×SK):= [(2,.c (.pb 0 0)),(3,.c (.pb 1 0)),(5,.c (.own 2)),(6,zS)]
abbrev w90:List (Nat×SK):= [(1,zS),(2,zS),(3,.c (.pb 0 0)),(7,.c (.own 1)),(8,zS)]
abbrev w91:List (Nat×SK):= [(2,.c (.pb 0 0)),(5,.c (.own 1)),(6,.c (.own 2)),(7,zS)]
abbrev w92:List (Nat×SK):= [(0,.st .ak),(1,.st .aB),(2,.st .aA)]
abbrev w93:List (Nat×SK):= [(0,.c (.pb 0 0)),(1,zS),(2,zS),(3,.st .bJ)]
abbrev w94:List (Nat×SK):= [(0,.c (.own 0)),(1,.c (.fn 319 [1])),(5,zS),(6,zS)]
abbrev w95:List (Nat×SK):= [(0,.c (.own 0)),(1,.c (.fn 109 [])),(5,zS),(6,zS)]
abbrev w96:List (Nat×SK):= [(0,.c (.pb 0 0)),(5,.c (.pb 2 0)),(63,zS),(64,zS)]
abbrev w97:List (Nat×SK):= [(0,.c (.pb 0 0)),(2,zS),(3,zS),(28,zS),(29,zS)]
abbrev w98:List (Nat×SK):= [(0,.c (.ty (.l (.n .bP)))),(1,.c (.fn 191 [0]))]
abbrev w99:List (Nat×SK):= [(0,.st .aF),(1,.c (.ty (.l (.n .aK))))]
abbrev asM:List (Nat×SK):= [(1,zS),(2,.c (.pb 0 0)),(5,zS),(11,zS),(12,zS)]
abbrev asN:List (Nat×SK):= [(0,.c (.ty (.l (.n .aI)))),(1,.st .aI)]
abbrev atZ:List (Nat×SK):= [(0,.sw .aB [(2,.own 0),(3,.own 1)]),(1,zS)]
abbrev asO:List (Nat×SK):= [(0,.st .ak),(1,.c (.ty (.l (.n .aA))))]
abbrev asP:List (Nat×SK):= [(0,zS),(1,zS),(2,.c (.pb 0 0)),(3,.c (.pb 1 0))]
abbrev at0:List (Nat×SK):= [(0,.sw .aB [(2,.own 2),(3,.own 3)]),(1,zS)]
abbrev asQ:List (Nat×SK):= [(0,.c (.own 0)),(3,.c (.pb 1 0)),(7,zS),(8,zS)]
abbrev asR:List (Nat×SK):= [(1,zS),(2,.c (.pb 0 0)),(5,.c (.own 1)),(6,zS)]
abbrev asS:List (Nat×SK):= [(0,.st .ak),(1,.st .aB),(2,zS)]
abbrev asU:List (Nat×SK):= [(0,.c (.pb 0 0)),(1,.c (.ty (.l (.i .u8))))]
abbrev at1:List (Nat×SK):= [(0,.c (.pb 0 0)),(1,zS),(2,.st .aA)]
abbrev at5:List (Nat×SK):= [(0,.sw .aB [(2,.own 0),(3,.own 1)])]
abbrev apm:List (Nat×SK):= [(0,.st .ak),(1,.st .aB)]
abbrev at6:List (Nat×SK):= [(0,.c (.pb 0 0)),(1,.st .aC)]
abbrev anz:List (Nat×SK):= [(0,.st .aB),(1,.st .aA)]
abbrev arh:List (Nat×SK):= [(0,.c (.pb 0 0)),(1,.st .aU)]
abbrev aoq:List (Nat×SK):= [(0,.st .ak),(1,zS),(2,zS)]
abbrev arZ:List (Nat×SK):= [(0,.c (.pe 0 0)),(1,.st .aA)]
abbrev ar0:List (Nat×SK):= [(0,.c (.pb 0 0)),(1,.st .aA)]
abbrev ap6:List (Nat×SK):= [(0,.c (.pb 0 0)),(1,zS),(2,zS)]
abbrev ari:List (Nat×SK):= [(0,.c (.ty (.l (.n .aC))))]
abbrev asV:List (Nat×SK):= [(0,.c (.ty (.l (.n .aG))))]
abbrev akH:List (Nat×SK):= [(0,.c (.ty (.l (.n .aI))))]
abbrev arj:List (Nat×SK):= [(0,.c (.ty (.l (.n .aA))))]
abbrev af7:List (Nat×SK):= [(0,.c (.ty (.l (.i .i64))))]
abbrev aor:List (Nat×SK):= [(0,.st .ak),(1,zS)]
abbrev ar1:List (Nat×SK):= [(0,.st .aB),(1,zS)]
abbrev alS:List (Nat×SK):= [(0,.c (.pb 0 0)),(1,zS)]
abbrev ark:List (Nat×SK):= [(0,zS),(1,zS),(2,zS)]
abbrev ar2:List (Nat×SK):= [(0,zS),(1,.c (.ty .b))]
abbrev apn:List (Nat×SK):= [(0,.c (.ty (.i .u64)))]
abbrev ar3:List (Nat×SK):= [(0,.st .aC)]
abbrev ahl:List (Nat×SK):= [(0,.st .ak)]
abbrev arl:List (Nat×SK):= [(0,.st .aB)]
abbrev aos:List (Nat×SK):= [(0,.st .aA)]
abbrev aeu:List (Nat×SK):= [(0,.c (.pb 0 0))]
abbrev zy:List (Nat×SK):= [(0,.c (.ty .b))]
abbrev akI:List (Nat×SK):= [(0,zS),(1,zS)]
abbrev ajg:List (Nat×SK):= [(0,.c (.own 0))]
abbrev ap7:List (Nat×SK):= [(0,.c (.ty .s))]
abbrev asW:Shape:=⟨w62,[.ar (.n .ay),.ar (.n .aH),.bs .ak,o24,.bs .aA,o26,.bs .aY]⟩
abbrev arn:Shape:=⟨aeu,[o13,.ar (.n .aU),.bx [.mc 3],.ms,.bs .aO,.bs .aM,o47,.ar (.n .aT)]⟩
abbrev ar4:Shape:=⟨w93,[o13,.ar (.n .aU),.bx [.mc 3],.ms,.bs .aO,.bs .aM,o47,.ar (.n .aT)]⟩
abbrev ar5:Shape:=⟨w65,[.bs .aP,.bs .ak,.bs .aB,.bs .aA,.bs .aA,.bs .ay]⟩
abbrev asX:Shape:=⟨w63,[.bs .eG,o40,.ar (.n .aW),o37,o25,.ar (.n .aK),.ar (.n .dQ)]⟩
abbrev asY:Shape:=⟨alS,[o0,o17,o52,o7,o32,o45,.ar (.i .u8),.ar (.n .aG),.ar (.n .aC)]⟩
abbrev aro:Shape:=⟨aeu,[o0,o17,o52,o7,o32,o45,.ar (.i .u8),.ar (.n .aG),.ar (.n .aC)]⟩
abbrev asZ:Shape:=⟨zy,[o0,o17,o52,o7,o32,o45,.ar (.i .u8),.ar (.n .aG),.ar (.n .aC)]⟩
abbrev as0:Shape:=⟨w75,[o5,o30,o43,.ar (.i .u8),.ar (.n .aG),.bx [.pb 0 0],.ar (.n .aC)]⟩
abbrev as1:Shape:=⟨ar0,[o0,o17,o52,o7,o32,o45,.ar (.i .u8),.ar (.n .aG),.ar (.n .aC)]⟩
abbrev as2:Shape:=⟨[],[o19,o51,o6,o31,o44,.ar (.i .u8),.ar (.n .aG),.dd,.ar (.n .aC)]⟩
abbrev as3:Shape:=⟨w86,[o0,o17,o52,o7,o32,o45,.ar (.i .u8),.ar (.n .aG),.ar (.n .aC)]⟩
abbrev apo:Shape:=⟨alS,[o16,o51,o6,o31,o44,.ar (.i .u8),.ar (.n .aG),.ar (.n .aC)]⟩
abbrev ar6:Shape:=⟨aeu,[o16,o51,o6,o31,o44,.ar (.i .u8),.ar (.n .aG),.ar (.n .aC)]⟩
abbrev as4:Shape:=⟨zy,[o16,o51,o6,o31,o44,.ar (.i .u8),.ar (.n .aG),.ar (.n .aC)]⟩
abbrev as5:Shape:=⟨w76,[o5,o30,o43,.ar (.i .u8),.ar (.n .aG),.ar (.n .aC)]⟩
abbrev as6:Shape:=⟨w74,[.bs .ak,.bs .aP,.bs .aB,.ar (.n .aA)]⟩
abbrev aiz:Shape:=⟨at0,[.dd,.dd,.ar (.n .ay),.ar (.n .aH)]⟩
abbrev as7:Shape:=⟨ari,[o5,o34,o44,.dd,.dd,.ar (.i .u8),.ar (.n .aG)]⟩
abbrev as8:Shape:=⟨ari,[o5,o30,o44,.dd,.ar (.n .aG),.ar (.i .u8)]⟩
abbrev as9:Shape:=⟨w58,[.bs .aF,.ar (.n .aI),.ar (.i .i64)]⟩
abbrev ata:Shape:=⟨w59,[.bs .aF,.ar (.n .aI),.ar (.i .i64)]⟩
abbrev arp:Shape:=⟨at5,[.ar (.n .ay),.ar (.n .aH)]⟩
abbrev ar7:Shape:=⟨atZ,[.ar (.n .ay),.ar (.n .aH)]⟩
abbrev ap8:Shape:=⟨alS,[o5,o30,o43,.ar (.i .u8),.ar (.n .aG)]⟩
abbrev ajh:Shape:=⟨aeu,[o5,o30,o43,.ar (.i .u8),.ar (.n .aG)]⟩
abbrev atb:Shape:=⟨ap6,[o5,o30,o43,.ar (.i .u8),.ar (.n .aG)]⟩
abbrev atc:Shape:=⟨ar3,[o5,o30,o43,.ar (.i .u8),.ar (.n .aG)]⟩
abbrev atd:Shape:=⟨asV,[o5,o30,o43,.ar (.i .u8),.ar (.n .aG)]⟩
abbrev ap9:Shape:=⟨ari,[o5,o30,o43,.ar (.i .u8),.ar (.n .aG)]⟩
abbrev apq:Shape:=⟨at6,[o5,o30,o43,.ar (.i .u8),.ar (.n .aG)]⟩
abbrev ate:Shape:=⟨w83,[.ar (.n .ay),.ar (.n .aH)]⟩
abbrev aot:Shape:=⟨w73,[.ar (.n .ay),.ar (.n .aH)]⟩
abbrev arq:Shape:=⟨w85,[.ar (.n .ay),.ar (.n .aH)]⟩
abbrev atf:Shape:=⟨w97,[o5,o30,o43,.ar (.i .u8),.ar (.n .aG)]⟩
abbrev atg:Shape:=⟨w81,[o21,.ar (.n .aK),.dd,.ar (.n .dQ)]⟩
abbrev ath:Shape:=⟨w82,[o21,.ar (.n .aK),.dd,.ar (.n .dQ)]⟩
abbrev ars:Shape:=⟨[],[o5,o30,o43,.ar (.i .u8),.ar (.n .aG)]⟩
abbrev aqa:Shape:=⟨aeu,[o29,o42,.ar (.i .u8),.ar (.n .aG)]⟩
abbrev ati:Shape:=⟨w77,[.bs .ak,.bs .aB,.ar (.i .i64)]⟩
abbrev atj:Shape:=⟨w78,[.bs .ak,.ar (.i .i64),.ar (.i .i64)]⟩
abbrev atl:Shape:=⟨ap6,[o29,o42,.ar (.i .u8),.ar (.n .aG)]⟩
abbrev aru:Shape:=⟨alS,[o29,o42,.ar (.i .u8),.ar (.n .aG)]⟩
abbrev atm:Shape:=⟨at1,[o29,o42,.ar (.i .u8),.ar (.n .aG)]⟩
abbrev atn:Shape:=⟨w89,[.bs .ak,.bs .aB,.ar (.i .i64)]⟩
abbrev ato:Shape:=⟨w91,[.bs .ak,.ar (.i .i64),.ar (.i .i64)]⟩
abbrev atp:Shape:=⟨[],[o29,o42,.ar (.i .u8),.ar (.n .aG)]⟩
abbrev atq:Shape:=⟨w60,[.bs .aF,o36,.ar (.n .aI)]⟩
abbrev atr:Shape:=⟨w61,[.bs .aF,o36,.ar (.n .aI)]⟩
abbrev att:Shape:=⟨w71,[.bs .aF,.ar (.n .bM)]⟩
abbrev atu:Shape:=⟨w96,[o28,.ar (.n .aK),.bx [.pe 1 1]]⟩
abbrev atv:Shape:=⟨w96,[o28,.ar (.n .aK),.bx [.pe 1 0]]⟩
abbrev atw:Shape:=⟨w71,[.bs .aF,.ar (.n .aI)]⟩
abbrev atx:Shape:=⟨w57,[.bs .aF,.ar (.n .aI)]⟩
abbrev ar8:Shape:=⟨zy,[o28,.ar (.n .aK)]⟩
abbrev arv:Shape:=⟨ajg,[.ar (.n .aI)]⟩
abbrev ar9:Shape:=⟨aeu,[.bx [.mc 1],.ms]⟩
abbrev asa:Shape:=⟨aeu,[.bs .aO]⟩
abbrev arw:Shape:=⟨ajg,[.ar (.i .i64)]⟩
def m0 {α0 α1:Type} (v:(aZ×α0)×((List Int)×α1)):aZ:={v.1.1 with data:=v.2.1:aZ}
def m1 {α0 α1 α2 α3:Type} (v:(α0×(Int×(Int×α1)))×((aZ×α2)×((List Int)×((List aG)×α3)))):aJ:={uw:=(m0 v.2),term:=v.1.2.1,RH:=v.1.2.2.1,log:=v.2.2.2.1:aJ}
def m2 {α0:Type} (v:Int×(Int×(Int×(Int×(Int×α0))))):xV:={e0:=v.1,e1:=v.2.1,e2:=v.2.2.1,e3:=v.2.2.2.1,e4:=v.2.2.2.2.1:xV}
def m3 {α0 α1 α2 α3 α4 α5:Type} (v:(α0×(Int×(Int×(Int×(Int×(Int×(Int×(Int×(Int×(Int×(Int×(Int×(Int×(Int×(Int×(Int×α1))))))))))))))))×((α2×(Int×(Int×α3)))×((aZ×α4)×((List Int)×((List aG)×α5))))):aj:={aQ:=(m1 v.2),id:=v.1.2.1,n:=v.1.2.2.1,role:=v.1.2.2.2.1,commit:=v.1.2.2.2.2.1,Di:=v.1.2.2.2.2.2.1,next:=(m2 v.1.2.2.2.2.2.2),match_:=(m2 v.1.2.2.2.2.2.2.2.2.2.2.2):aj}
def m4 {α0 α1 α2 α3 α4 α5 α6 α7 α8 α9:Type} (v:(α0×(α1×((List aA)×α2)))×(α3×((α4×(Int×(Int×(Int×(Int×(Int×(Int×(Int×(Int×(Int×(Int×(Int×(Int×(Int×(Int×(Int×α5))))))))))))))))×((α6×(Int×(Int×α7)))×((aZ×α8)×((List Int)×((List aG)×((List aC)×α9)))))))):aL:={au:= [(m3 v.2.2)],net:=v.2.2.2.2.2.2.2.1,committed:=v.1.2.2.1:aL}
def m5 {α0:Type} (v:Int×((List dn)×((List cu)×((List aW)×((List aY)×((List Int)×((List Int)×(Int×(Int×(Int×α0)))))))))):ak:={bK:=v.1,kW:=v.2.1,Cells:=v.2.2.1,ah:=v.2.2.2.1,bf:=v.2.2.2.2.1,bO:=v.2.2.2.2.2.1,cO:=v.2.2.2.2.2.2.1,BM:=v.2.2.2.2.2.2.2.1,Lease:=v.2.2.2.2.2.2.2.2.1,Uz:=v.2.2.2.2.2.2.2.2.2.1:ak}
def m6 {α0:Type} (v:Int×(Int×((List ay)×((List aH)×(Int×(Int×(Int×(Int×α0)))))))):aB:={Tick:=v.1,Count:=v.2.1,ah:=v.2.2.1,Cells:=v.2.2.2.1,jY:=v.2.2.2.2.1,bg:=v.2.2.2.2.2.1,Low:=v.2.2.2.2.2.2.1,High:=v.2.2.2.2.2.2.2.1:aB}
def m7 {α0 α1 α2 α3 α4 α5 α6 α7 α8 α9 α10 α11:Type} (v:(Int×((List dn)×((List cu)×((List aW)×((List aY)×((List Int)×((List Int)×(Int×(Int×(Int×(α0×(Int×(Int×(Int×((List ay)×((List aH)×(Int×(Int×(Int×(Int×α1))))))))))))))))))))×((α2×(α3×((List aA)×α4)))×(α5×((α6×(Int×(Int×(Int×(Int×(Int×(Int×(Int×(Int×(Int×(Int×(Int×(Int×(Int×(Int×(Int×α7))))))))))))))))×((α8×(Int×(Int×α9)))×((aZ×α10)×((List Int)×((List aG)×((List aC)×α11))))))))):aV:={config:=(m5 v.1),net:=(m4 v.2),up:=v.1.2.2.2.2.2.2.2.2.2.2.2.1,state:=(m6 v.1.2.2.2.2.2.2.2.2.2.2.2.2):aV}
def m8 (v:List (Value×Value)):dM:={values:=v:dM}
def m9 {α0:Type} (v:(List (Value×Value))×(aO×(aM×α0))):oL:={Store:=(m8 v.1),Queue:=v.2.1,Table:=v.2.2.1:oL}
def m10 {α0 α1:Type} (v:(bU×α0)×((List aT)×α1)):bU:={v.1.1 with windows:=v.2.1:bU}
def m11 {α0 α1 α2 α3:Type} (v:(Int×(Int×α0))×((List aU)×(α1×((List (Value×Value))×(aO×(aM×((bU×α2)×((List aT)×α3)))))))):dN:={cell:=v.1.1,xC:=v.1.2.1,history:=v.2.1,now:=(m9 v.2.2.2),gate:=(m10 v.2.2.2.2.2.2):dN}
def m12 {α0 α1 α2:Type} (v:(aZ×α0)×(α1×((List Int)×α2))):aZ:={v.1.1 with data:=v.2.2.1:aZ}
def m13 {α0 α1 α2 α3:Type} (v:(aZ×α0)×(α1×(α2×((List Int)×α3)))):aZ:={v.1.1 with data:=v.2.2.2.1:aZ}
def m14 {α0 α1 α2 α3 α4:Type} (v:(α0×(Int×(Int×α1)))×((aZ×α2)×(α3×((List aG)×((List Int)×α4))))):aJ:={uw:=(m13 v.2),term:=v.1.2.1,RH:=v.1.2.2.1,log:=v.2.2.2.1:aJ}
def m15 {α0 α1 α2 α3 α4 α5 α6:Type} (v:(α0×(Int×(Int×(Int×(Int×(Int×(Int×(Int×(Int×(Int×(Int×(Int×(Int×(Int×(Int×(Int×α1))))))))))))))))×((α2×(Int×(Int×α3)))×((aZ×α4)×(α5×((List aG)×((List Int)×α6)))))):aj:={aQ:=(m14 v.2),id:=v.1.2.1,n:=v.1.2.2.1,role:=v.1.2.2.2.1,commit:=v.1.2.2.2.2.1,Di:=v.1.2.2.2.2.2.1,next:=(m2 v.1.2.2.2.2.2.2),match_:=(m2 v.1.2.2.2.2.2.2.2.2.2.2.2):aj}
def m16 {α0 α1 α2 α3 α4 α5 α6 α7 α8 α9 α10:Type} (v:(α0×(α1×((List aA)×α2)))×(α3×((α4×(Int×(Int×(Int×(Int×(Int×(Int×(Int×(Int×(Int×(Int×(Int×(Int×(Int×(Int×(Int×α5))))))))))))))))×((α6×(Int×(Int×α7)))×((aZ×α8)×((List Int)×((List aG)×(α9×((List aC)×α10))))))))):aL:={au:= [(m3 v.2.2)],net:=v.2.2.2.2.2.2.2.2.1,committed:=v.1.2.2.1:aL}
def m17 {α0 α1 α2 α3 α4:Type} (v:(α0×(Int×(Int×α1)))×((aZ×α2)×((List Int)×(α3×((List aG)×α4))))):aJ:={uw:=(m0 v.2),term:=v.1.2.1,RH:=v.1.2.2.1,log:=v.2.2.2.2.1:aJ}
def m18 {α0 α1 α2 α3 α4 α5:Type} (v:(α0×(Int×(Int×α1)))×((aZ×α2)×(α3×(α4×((List Int)×((List aG)×α5)))))):aJ:={uw:=(m13 v.2),term:=v.1.2.1,RH:=v.1.2.2.1,log:=v.2.2.2.2.2.1:aJ}
def m19 {α0 α1 α2 α3 α4 α5 α6 α7:Type} (v:(α0×(Int×(Int×(Int×(Int×(Int×(Int×(Int×(Int×(Int×(Int×(Int×(Int×(Int×(Int×(Int×α1))))))))))))))))×((α2×(Int×(Int×α3)))×((aZ×α4)×(α5×(α6×((List Int)×((List aG)×α7))))))):aj:={aQ:=(m18 v.2),id:=v.1.2.1,n:=v.1.2.2.1,role:=v.1.2.2.2.1,commit:=v.1.2.2.2.2.1,Di:=v.1.2.2.2.2.2.1,next:=(m2 v.1.2.2.2.2.2.2),match_:=(m2 v.1.2.2.2.2.2.2.2.2.2.2.2):aj}
def m20 {α0 α1 α2 α3 α4:Type} (v:(aZ×α0)×(α1×(α2×(α3×((List Int)×α4))))):aZ:={v.1.1 with data:=v.2.2.2.2.1:aZ}
def m21 {α0 α1 α2 α3 α4 α5:Type} (v:(α0×(Int×(Int×α1)))×((aZ×α2)×(α3×(α4×((List aG)×((List Int)×α5)))))):aJ:={uw:=(m20 v.2),term:=v.1.2.1,RH:=v.1.2.2.1,log:=v.2.2.2.2.1:aJ}
def m22 {α0 α1 α2 α3 α4 α5 α6 α7:Type} (v:(α0×(Int×(Int×(Int×(Int×(Int×(Int×(Int×(Int×(Int×(Int×(Int×(Int×(Int×(Int×(Int×α1))))))))))))))))×((α2×(Int×(Int×α3)))×((aZ×α4)×(α5×(α6×((List aG)×((List Int)×α7))))))):aj:={aQ:=(m21 v.2),id:=v.1.2.1,n:=v.1.2.2.1,role:=v.1.2.2.2.1,commit:=v.1.2.2.2.2.1,Di:=v.1.2.2.2.2.2.1,next:=(m2 v.1.2.2.2.2.2.2),match_:=(m2 v.1.2.2.2.2.2.2.2.2.2.2.2):aj}
def m23 {α0 α1 α2 α3 α4 α5 α6:Type} (v:(α0×(Int×(Int×α1)))×((aZ×α2)×(α3×(α4×(α5×((List Int)×((List aG)×α6))))))):aJ:={uw:=(m20 v.2),term:=v.1.2.1,RH:=v.1.2.2.1,log:=v.2.2.2.2.2.2.1:aJ}
def m24 {α0 α1 α2 α3 α4 α5 α6 α7 α8:Type} (v:(α0×(Int×(Int×(Int×(Int×(Int×(Int×(Int×(Int×(Int×(Int×(Int×(Int×(Int×(Int×(Int×α1))))))))))))))))×((α2×(Int×(Int×α3)))×((aZ×α4)×(α5×(α6×(α7×((List Int)×((List aG)×α8)))))))):aj:={aQ:=(m23 v.2),id:=v.1.2.1,n:=v.1.2.2.1,role:=v.1.2.2.2.1,commit:=v.1.2.2.2.2.1,Di:=v.1.2.2.2.2.2.1,next:=(m2 v.1.2.2.2.2.2.2),match_:=(m2 v.1.2.2.2.2.2.2.2.2.2.2.2):aj}
def m25 {α0 α1 α2 α3 α4 α5 α6 α7 α8 α9 α10 α11 α12:Type} (v:(α0×(α1×((List aA)×α2)))×(α3×((α4×(Int×(Int×(Int×(Int×(Int×(Int×(Int×(Int×(Int×(Int×(Int×(Int×(Int×(Int×(Int×α5))))))))))))))))×((α6×(Int×(Int×α7)))×((aZ×α8)×(α9×(α10×(α11×((List Int)×((List aG)×((List aC)×α12))))))))))):aL:={au:= [(m24 v.2.2)],net:=v.2.2.2.2.2.2.2.2.2.2.1,committed:=v.1.2.2.1:aL}
def m26 {α0 α1 α2 α3 α4 α5 α6:Type} (v:(aZ×α0)×(α1×(α2×(α3×(α4×(α5×((List Int)×α6))))))):aZ:={v.1.1 with data:=v.2.2.2.2.2.2.1:aZ}
def m27 {α0 α1 α2 α3 α4 α5 α6 α7:Type} (v:(α0×(Int×(Int×α1)))×((aZ×α2)×(α3×(α4×(α5×(α6×((List aG)×((List Int)×α7)))))))):aJ:={uw:=(m26 v.2),term:=v.1.2.1,RH:=v.1.2.2.1,log:=v.2.2.2.2.2.2.1:aJ}
def m28 {α0 α1 α2 α3 α4 α5 α6 α7 α8 α9:Type} (v:(α0×(Int×(Int×(Int×(Int×(Int×(Int×(Int×(Int×(Int×(Int×(Int×(Int×(Int×(Int×(Int×α1))))))))))))))))×((α2×(Int×(Int×α3)))×((aZ×α4)×(α5×(α6×(α7×(α8×((List aG)×((List Int)×α9))))))))):aj:={aQ:=(m27 v.2),id:=v.1.2.1,n:=v.1.2.2.1,role:=v.1.2.2.2.1,commit:=v.1.2.2.2.2.1,Di:=v.1.2.2.2.2.2.1,next:=(m2 v.1.2.2.2.2.2.2),match_:=(m2 v.1.2.2.2.2.2.2.2.2.2.2.2):aj}
def m29 {α0 α1 α2 α3 α4 α5 α6 α7 α8 α9 α10 α11 α12:Type} (v:(α0×(α1×((List aA)×α2)))×(α3×((α4×(Int×(Int×(Int×(Int×(Int×(Int×(Int×(Int×(Int×(Int×(Int×(Int×(Int×(Int×(Int×α5))))))))))))))))×((α6×(Int×(Int×α7)))×((aZ×α8)×(α9×(α10×(α11×((List aC)×((List aG)×((List Int)×α12))))))))))):aL:={au:= [(m28 v.2.2)],net:=v.2.2.2.2.2.2.2.2.1,committed:=v.1.2.2.1:aL}
def m30 {α0 α1 α2 α3 α4 α5 α6 α7 α8 α9 α10 α11 α12 α13 α14:Type} (v:(Int×((List dn)×((List cu)×((List aW)×((List aY)×((List Int)×((List Int)×(Int×(Int×(Int×(α0×(Int×(Int×(Int×((List ay)×((List aH)×(Int×(Int×(Int×(Int×α1))))))))))))))))))))×((α2×(α3×((List aA)×α4)))×(α5×((α6×(Int×(Int×(Int×(Int×(Int×(Int×(Int×(Int×(Int×(Int×(Int×(Int×(Int×(Int×(Int×α7))))))))))))))))×((α8×(Int×(Int×α9)))×((aZ×α10)×(α11×(α12×(α13×((List Int)×((List aG)×((List aC)×α14)))))))))))):aV:={config:=(m5 v.1),net:=(m25 v.2),up:=v.1.2.2.2.2.2.2.2.2.2.2.2.1,state:=(m6 v.1.2.2.2.2.2.2.2.2.2.2.2.2):aV}
def m31 {α0 α1 α2 α3 α4 α5 α6 α7 α8 α9 α10 α11 α12 α13 α14:Type} (v:(Int×((List dn)×((List cu)×((List aW)×((List aY)×((List Int)×((List Int)×(Int×(Int×(Int×(α0×(Int×(Int×(Int×((List ay)×((List aH)×(Int×(Int×(Int×(Int×α1))))))))))))))))))))×((α2×(α3×((List aA)×α4)))×(α5×((α6×(Int×(Int×(Int×(Int×(Int×(Int×(Int×(Int×(Int×(Int×(Int×(Int×(Int×(Int×(Int×α7))))))))))))))))×((α8×(Int×(Int×α9)))×((aZ×α10)×(α11×(α12×(α13×((List aC)×((List aG)×((List Int)×α14)))))))))))):aV:={config:=(m5 v.1),net:=(m29 v.2),up:=v.1.2.2.2.2.2.2.2.2.2.2.2.1,state:=(m6 v.1.2.2.2.2.2.2.2.2.2.2.2.2):aV}
def m32 {α0 α1 α2 α3 α4 α5 α6 α7 α8 α9 α10 α11 α12 α13 α14 α15 α16 α17 α18 α19 α20 α21 α22 α23:Type} (v:(aZ×α0)×(α1×(α2×(α3×(α4×(α5×(α6×(α7×(α8×(α9×(α10×(α11×(α12×(α13×(α14×(α15×(α16×(α17×(α18×(α19×(α20×(α21×(α22×((List Int)×α23)))))))))))))))))))))))):aZ:={v.1.1 with data:=v.2.2.2.2.2.2.2.2.2.2.2.2.2.2.2.2.2.2.2.2.2.2.2.1:aZ}
def m33 {α0 α1 α2 α3 α4 α5 α6 α7 α8 α9 α10 α11 α12 α13 α14 α15 α16 α17 α18 α19 α20 α21 α22 α23 α24 α25:Type} (v:(α0×(Int×(Int×α1)))×((aZ×α2)×(α3×(α4×(α5×(α6×(α7×(α8×(α9×(α10×(α11×(α12×(α13×(α14×(α15×(α16×(α17×(α18×(α19×(α20×(α21×(α22×(α23×(α24×((List Int)×((List aG)×α25)))))))))))))))))))))))))):aJ:={uw:=(m32 v.2),term:=v.1.2.1,RH:=v.1.2.2.1,log:=v.2.2.2.2.2.2.2.2.2.2.2.2.2.2.2.2.2.2.2.2.2.2.2.2.2.1:aJ}
def m34 {α0 α1 α2 α3 α4 α5 α6 α7 α8 α9 α10 α11 α12 α13 α14 α15 α16 α17 α18 α19 α20 α21 α22 α23 α24 α25 α26 α27:Type} (v:(α0×(Int×(Int×(Int×(Int×(Int×(Int×(Int×(Int×(Int×(Int×(Int×(Int×(Int×(Int×(Int×α1))))))))))))))))×((α2×(Int×(Int×α3)))×((aZ×α4)×(α5×(α6×(α7×(α8×(α9×(α10×(α11×(α12×(α13×(α14×(α15×(α16×(α17×(α18×(α19×(α20×(α21×(α22×(α23×(α24×(α25×(α26×((List Int)×((List aG)×α27))))))))))))))))))))))))))):aj:={aQ:=(m33 v.2),id:=v.1.2.1,n:=v.1.2.2.1,role:=v.1.2.2.2.1,commit:=v.1.2.2.2.2.1,Di:=v.1.2.2.2.2.2.1,next:=(m2 v.1.2.2.2.2.2.2),match_:=(m2 v.1.2.2.2.2.2.2.2.2.2.2.2):aj}
def m35 {α0 α1 α2 α3 α4 α5 α6 α7 α8 α9 α10 α11 α12 α13 α14 α15 α16 α17 α18 α19 α20 α21 α22 α23 α24 α25 α26 α27 α28 α29 α30 α31:Type} (v:(α0×(α1×((List aA)×α2)))×(α3×((α4×(Int×(Int×(Int×(Int×(Int×(Int×(Int×(Int×(Int×(Int×(Int×(Int×(Int×(Int×(Int×α5))))))))))))))))×((α6×(Int×(Int×α7)))×((aZ×α8)×(α9×(α10×(α11×(α12×(α13×(α14×(α15×(α16×(α17×(α18×(α19×(α20×(α21×(α22×(α23×(α24×(α25×(α26×(α27×(α28×(α29×(α30×((List Int)×((List aG)×((List aC)×α31)))))))))))))))))))))))))))))):aL:={au:= [(m34 v.2.2)],net:=v.2.2.2.2.2.2.2.2.2.2.2.2.2.2.2.2.2.2.2.2.2.2.2.2.2.2.2.2.2.1,committed:=v.1.2.2.1:aL}
def m36 {α0 α1 α2 α3 α4 α5 α6 α7 α8 α9 α10 α11 α12 α13 α14 α15 α16 α17 α18 α19 α20 α21 α22 α23 α24 α25 α26 α27 α28 α29 α30 α31 α32 α33:Type} (v:(Int×((List dn)×((List cu)×((List aW)×((List aY)×((List Int)×((List Int)×(Int×(Int×(Int×(α0×(Int×(Int×(Int×((List ay)×((List aH)×(Int×(Int×(Int×(Int×α1))))))))))))))))))))×((α2×(α3×((List aA)×α4)))×(α5×((α6×(Int×(Int×(Int×(Int×(Int×(Int×(Int×(Int×(Int×(Int×(Int×(Int×(Int×(Int×(Int×α7))))))))))))))))×((α8×(Int×(Int×α9)))×((aZ×α10)×(α11×(α12×(α13×(α14×(α15×(α16×(α17×(α18×(α19×(α20×(α21×(α22×(α23×(α24×(α25×(α26×(α27×(α28×(α29×(α30×(α31×(α32×((List Int)×((List aG)×((List aC)×α33))))))))))))))))))))))))))))))):aV:={config:=(m5 v.1),net:=(m35 v.2),up:=v.1.2.2.2.2.2.2.2.2.2.2.2.1,state:=(m6 v.1.2.2.2.2.2.2.2.2.2.2.2.2):aV}
def m37 {α0 α1 α2 α3 α4 α5 α6 α7 α8 α9 α10 α11 α12 α13 α14 α15 α16 α17 α18 α19 α20 α21 α22 α23 α24 α25 α26:Type} (v:(aZ×α0)×(α1×(α2×(α3×(α4×(α5×(α6×(α7×(α8×(α9×(α10×(α11×(α12×(α13×(α14×(α15×(α16×(α17×(α18×(α19×(α20×(α21×(α22×(α23×(α24×(α25×((List Int)×α26))))))))))))))))))))))))))):aZ:={v.1.1 with data:=v.2.2.2.2.2.2.2.2.2.2.2.2.2.2.2.2.2.2.2.2.2.2.2.2.2.2.1:aZ}
def m38 {α0 α1 α2 α3 α4 α5 α6 α7 α8 α9 α10 α11 α12 α13 α14 α15 α16 α17 α18 α19 α20 α21 α22 α23 α24 α25 α26 α27:Type} (v:(α0×(Int×(Int×α1)))×((aZ×α2)×(α3×(α4×(α5×(α6×(α7×(α8×(α9×(α10×(α11×(α12×(α13×(α14×(α15×(α16×(α17×(α18×(α19×(α20×(α21×(α22×(α23×(α24×(α25×(α26×((List aG)×((List Int)×α27)))))))))))))))))))))))))))):aJ:={uw:=(m37 v.2),term:=v.1.2.1,RH:=v.1.2.2.1,log:=v.2.2.2.2.2.2.2.2.2.2.2.2.2.2.2.2.2.2.2.2.2.2.2.2.2.2.1:aJ}
def m39 {α0 α1 α2 α3 α4 α5 α6 α7 α8 α9 α10 α11 α12 α13 α14 α15 α16 α17 α18 α19 α20 α21 α22 α23 α24 α25 α26 α27 α28 α29:Type} (v:(α0×(Int×(Int×(Int×(Int×(Int×(Int×(Int×(Int×(Int×(Int×(Int×(Int×(Int×(Int×(Int×α1))))))))))))))))×((α2×(Int×(Int×α3)))×((aZ×α4)×(α5×(α6×(α7×(α8×(α9×(α10×(α11×(α12×(α13×(α14×(α15×(α16×(α17×(α18×(α19×(α20×(α21×(α22×(α23×(α24×(α25×(α26×(α27×(α28×((List aG)×((List Int)×α29))))))))))))))))))))))))))))):aj:={aQ:=(m38 v.2),id:=v.1.2.1,n:=v.1.2.2.1,role:=v.1.2.2.2.1,commit:=v.1.2.2.2.2.1,Di:=v.1.2.2.2.2.2.1,next:=(m2 v.1.2.2.2.2.2.2),match_:=(m2 v.1.2.2.2.2.2.2.2.2.2.2.2):aj}
def m40 {α0 α1 α2 α3 α4 α5 α6 α7 α8 α9 α10 α11 α12 α13 α14 α15 α16 α17 α18 α19 α20 α21 α22 α23 α24 α25 α26 α27 α28 α29 α30 α31 α32:Type} (v:(α0×(α1×((List aA)×α2)))×(α3×((α4×(Int×(Int×(Int×(Int×(Int×(Int×(Int×(Int×(Int×(Int×(Int×(Int×(Int×(Int×(Int×α5))))))))))))))))×((α6×(Int×(Int×α7)))×((aZ×α8)×(α9×(α10×(α11×(α12×(α13×(α14×(α15×(α16×(α17×(α18×(α19×(α20×(α21×(α22×(α23×(α24×(α25×(α26×(α27×(α28×(α29×(α30×(α31×((List aC)×((List aG)×((List Int)×α32))))))))))))))))))))))))))))))):aL:={au:= [(m39 v.2.2)],net:=v.2.2.2.2.2.2.2.2.2.2.2.2.2.2.2.2.2.2.2.2.2.2.2.2.2.2.2.2.1,committed:=v.1.2.2.1:aL}
def m41 {α0 α1 α2 α3 α4 α5 α6 α7 α8 α9 α10 α11 α12 α13 α14 α15 α16 α17 α18 α19 α20 α21 α22 α23 α24 α25 α26 α27 α28 α29 α30 α31 α32 α33 α34:Type} (v:(Int×((List dn)×((List cu)×((List aW)×((List aY)×((List Int)×((List Int)×(Int×(Int×(Int×(α0×(Int×(Int×(Int×((List ay)×((List aH)×(Int×(Int×(Int×(Int×α1))))))))))))))))))))×((α2×(α3×((List aA)×α4)))×(α5×((α6×(Int×(Int×(Int×(Int×(Int×(Int×(Int×(Int×(Int×(Int×(Int×(Int×(Int×(Int×(Int×α7))))))))))))))))×((α8×(Int×(Int×α9)))×((aZ×α10)×(α11×(α12×(α13×(α14×(α15×(α16×(α17×(α18×(α19×(α20×(α21×(α22×(α23×(α24×(α25×(α26×(α27×(α28×(α29×(α30×(α31×(α32×(α33×((List aC)×((List aG)×((List Int)×α34)))))))))))))))))))))))))))))))):aV:={config:=(m5 v.1),net:=(m40 v.2),up:=v.1.2.2.2.2.2.2.2.2.2.2.2.1,state:=(m6 v.1.2.2.2.2.2.2.2.2.2.2.2.2):aV}
def m42 {α0 α1 α2:Type} (v:(bU×α0)×(α1×((List aT)×α2))):bU:={v.1.1 with windows:=v.2.2.1:bU}
def m43 {α0 α1 α2 α3 α4 α5 α6 α7 α8 α9 α10 α11:Type} (v:(bU×α0)×(α1×(α2×(α3×(α4×(α5×(α6×(α7×(α8×(α9×(α10×((List aT)×α11)))))))))))):bU:={v.1.1 with windows:=v.2.2.2.2.2.2.2.2.2.2.2.1:bU}
def m44 {α0 α1 α2 α3 α4 α5 α6 α7 α8 α9 α10 α11 α12 α13:Type} (v:(Int×(Int×α0))×((List aU)×(α1×((List (Value×Value))×(aO×(aM×((bU×α2)×(α3×(α4×(α5×(α6×(α7×(α8×(α9×(α10×(α11×(α12×((List aT)×α13)))))))))))))))))):dN:={cell:=v.1.1,xC:=v.1.2.1,history:=v.2.1,now:=(m9 v.2.2.2),gate:=(m43 v.2.2.2.2.2.2):dN}
def m45 {α0 α1 α2 α3 α4:Type} (v:(bU×α0)×(α1×(α2×(α3×((List aT)×α4))))):bU:={v.1.1 with windows:=v.2.2.2.2.1:bU}
def m46 {α0 α1 α2 α3 α4 α5 α6:Type} (v:(Int×(Int×α0))×((List aU)×(α1×((List (Value×Value))×(aO×(aM×((bU×α2)×(α3×(α4×(α5×((List aT)×α6))))))))))):dN:={cell:=v.1.1,xC:=v.1.2.1,history:=v.2.1,now:=(m9 v.2.2.2),gate:=(m45 v.2.2.2.2.2.2):dN}
def m47 {α0 α1:Type} (v:(aO×α0)×((List bP)×((List bH)×α1))):aO:={items:=v.2.1,Dl:=v.2.2.1,greatest:=v.1.1.greatest:aO}
def m48 {α0 α1:Type} (v:(List (Value×Value))×((aO×α0)×((List bP)×((List bH)×(aM×α1))))):oL:={Store:=(m8 v.1),Queue:=(m47 v.2),Table:=v.2.2.2.2.1:oL}
def m49 {α0 α1 α2 α3:Type} (v:(aO×α0)×(α1×(α2×((List bP)×((List bH)×α3))))):aO:={items:=v.2.2.2.1,Dl:=v.2.2.2.2.1,greatest:=v.1.1.greatest:aO}
def m50 {α0 α1 α2 α3:Type} (v:(aO×α0)×(α1×(α2×((List bP)×((List bH)×α3))))):aO:={v.1.1 with items:=v.2.2.2.1,Dl:=v.2.2.2.2.1:aO}
def m51 {α0 α1 α2 α3 α4:Type} (v:(aO×α0)×(α1×(α2×(α3×((List bP)×((List bH)×α4)))))):aO:={items:=v.2.2.2.2.1,Dl:=v.2.2.2.2.2.1,greatest:=v.1.1.greatest:aO}
def m52 {α0 α1 α2 α3 α4 α5 α6 α7 α8:Type} (v:(Int×(Int×α0))×(α1×(α2×(α3×(α4×(α5×((bU×α6)×((List aT)×((List aU)×(α7×((List (Value×Value))×(aO×(aM×α8))))))))))))):dN:={cell:=v.1.1,xC:=v.1.2.1,history:=v.2.2.2.2.2.2.2.2.1,now:=(m9 v.2.2.2.2.2.2.2.2.2.2),gate:=(m10 v.2.2.2.2.2.2):dN}
def m53 {α0 α1:Type} (v:(ak×α0)×((List dn)×α1)):ak:={v.1.1 with kW:=v.2.1,Cells:= [],ah:= [],bf:= [],bO:= [],cO:= []:ak}
def m54 {α0 α1:Type} (v:(ak×α0)×((List dn)×((List cu)×α1))):ak:={v.1.1 with kW:=v.2.1,Cells:=v.2.2.1,ah:= [],bf:= [],bO:= [],cO:= []:ak}
def m55 {α0 α1:Type} (v:(ak×α0)×((List dn)×((List cu)×((List aW)×α1)))):ak:={v.1.1 with kW:=v.2.1,Cells:=v.2.2.1,ah:=v.2.2.2.1,bf:= [],bO:= [],cO:= []:ak}
def m56 (v:ak):ak:={v with kW:= [],Cells:= [],ah:= [],bf:= [],bO:= [],cO:= []:ak}
def m57 {α0 α1:Type} (v:(ak×α0)×((List dn)×((List cu)×((List aW)×((List aY)×α1))))):ak:={v.1.1 with kW:=v.2.1,Cells:=v.2.2.1,ah:=v.2.2.2.1,bf:=v.2.2.2.2.1,bO:= [],cO:= []:ak}
def m58 {α0 α1:Type} (v:(ak×α0)×((List dn)×((List cu)×((List aW)×((List aY)×((List Int)×α1)))))):ak:={v.1.1 with kW:=v.2.1,Cells:=v.2.2.1,ah:=v.2.2.2.1,bf:=v.2.2.2.2.1,bO:=v.2.2.2.2.2.1,cO:= []:ak}
def m59 {α0 α1:Type} (v:(ak×α0)×((List dn)×((List cu)×((List aW)×((List aY)×((List Int)×((List Int)×α1))))))):ak:={v.1.1 with kW:=v.2.1,Cells:=v.2.2.1,ah:=v.2.2.2.1,bf:=v.2.2.2.2.1,bO:=v.2.2.2.2.2.1,cO:=v.2.2.2.2.2.2.1:ak}
def m60 {α0:Type} (v:(List aK)×((List dQ)×α0)):eG:={Places:=v.1,Tree:=v.2.1:eG}
def m61 (v:eG):eG:={v with Places:= [],Tree:= []:eG}
def m62 {α0 α1:Type} (v:(eG×α0)×((List aK)×((List dQ)×α1))):eG:={v.1.1 with Places:=v.2.1,Tree:=v.2.2.1:eG}
def e0 (r:aj):=((),(r.id,(r.n,(r.role,(r.commit,(r.Di,(r.next.e0,(r.next.e1,(r.next.e2,(r.next.e3,(r.next.e4,(r.match_.e0,(r.match_.e1,(r.match_.e2,(r.match_.e3,(r.match_.e4,()))))))))))))))))
def e1 (r:aZ):=({r with data:=([]:List Int)},((),()))
def e2 (r:aJ):=((),(r.term,(r.RH,((),()))))
def e3 (r:aV):=(r.config.bK,(r.config.kW,(r.config.Cells,(r.config.ah,(r.config.bf,(r.config.bO,(r.config.cO,(r.config.BM,(r.config.Lease,(r.config.Uz,((),(r.up,(r.state.Tick,(r.state.Count,(r.state.ah,(r.state.Cells,(r.state.jY,(r.state.bg,(r.state.Low,(r.state.High,()))))))))))))))))))))
def e4 (r:bU):=({r with windows:=([]:List aT)},((),()))
def e5 (r:xW):=(r.c.bK,(r.c.kW,(r.c.Cells,(r.c.ah,(r.c.bf,(r.c.bO,(r.c.cO,(r.c.BM,(r.c.Lease,(r.c.Uz,((),((),((),(r.served,(r.tick,())))))))))))))))
def e6 (r:dN):=(r.cell,(r.xC,((),((),((),((),((),())))))))
def e7 (r:Int):=({items:=([]:List bP),Dl:=([]:List bH),greatest:=r:aO},((),((),())))
def e8 (r:bB):=({r with places:=([]:List aK),tree:=([]:List dQ)},((),((),())))
def g0 (r:aZ):=(({r with data:=([]:List Int)},((),())),(r.data,()))
def g1 (r:aJ):=(((),(r.term,(r.RH,((),())))),(({r.uw with data:=([]:List Int)},((),())),(r.uw.data,(r.log,()))))
def g2 (r:aj):=(e0 r,(((),(r.aQ.term,(r.aQ.RH,((),())))),(e1 r.aQ.uw,(r.aQ.uw.data,(r.aQ.log,())))))
def g3 (r:aL×Int):=(((),((),(r.1.committed,()))),(((),()),(e0 (r.1.au.getD 0 default),(e2 (r.1.au.getD 0 default).aQ,(e1 (r.1.au.getD 0 default).aQ.uw,((r.1.au.getD 0 default).aQ.uw.data,((r.1.au.getD 0 default).aQ.log,(r.1.net,()))))))))
def g4 (r:aV×Int):=(e3 r.1,(((),((),(r.1.net.committed,()))),(((),()),(e0 (r.1.net.au.getD 0 default),(e2 (r.1.net.au.getD 0 default).aQ,(e1 (r.1.net.au.getD 0 default).aQ.uw,((r.1.net.au.getD 0 default).aQ.uw.data,((r.1.net.au.getD 0 default).aQ.log,(r.1.net.net,())))))))))
def g5 (r:bU):=(({r with windows:=([]:List aT)},((),())),(r.windows,()))
def g6 (r:dN):=((r.cell,(r.xC,((),((),((),((),((),()))))))),(r.history,(((),()),(r.now.Store.values,(r.now.Queue,(r.now.Table,(({r.gate with windows:=([]:List aT)},((),())),(r.gate.windows,()))))))))
def g7 (r:dN):=((r.cell,(r.xC,((),((),((),((),((),()))))))),(r.history,(((),()),(r.now.Store.values,(r.now.Queue,(r.now.Table,(e4 r.gate,(r.gate.windows,()))))))))
def g8 (r:aB×aV):=(e3 r.2,(((),((),(r.2.net.committed,()))),(((),()),(e0 (r.2.net.au.getD 0 default),(e2 (r.2.net.au.getD 0 default).aQ,(e1 (r.2.net.au.getD 0 default).aQ.uw,((r.2.net.au.getD 0 default).aQ.uw.data,((r.2.net.au.getD 0 default).aQ.log,(r.2.net.net,())))))))))
def g9 (r:xW):=(e5 r,(e3 r.p,(((),((),(r.p.net.committed,()))),(((),()),(e0 (r.p.net.au.getD 0 default),(e2 (r.p.net.au.getD 0 default).aQ,(e1 (r.p.net.au.getD 0 default).aQ.uw,((r.p.net.au.getD 0 default).aQ.uw.data,((r.p.net.au.getD 0 default).aQ.log,(r.p.net.net,(((),()),(((),((),())),((((r.copies.getD 0 default).getD 0 default).cell,(((r.copies.getD 0 default).getD 0 default).xC,((),((),((),((),((),()))))))),(((r.copies.getD 0 default).getD 0 default).history,(((),()),(((r.copies.getD 0 default).getD 0 default).now.Store.values,(((r.copies.getD 0 default).getD 0 default).now.Queue,(((r.copies.getD 0 default).getD 0 default).now.Table,(({((r.copies.getD 0 default).getD 0 default).gate with windows:=([]:List aT)},((),())),(((r.copies.getD 0 default).getD 0 default).gate.windows,((((r.copies.getD 0 default).getD 1 default).cell,(((r.copies.getD 0 default).getD 1 default).xC,((),((),((),((),((),()))))))),(((r.copies.getD 0 default).getD 1 default).history,(((),()),(((r.copies.getD 0 default).getD 1 default).now.Store.values,(((r.copies.getD 0 default).getD 1 default).now.Queue,(((r.copies.getD 0 default).getD 1 default).now.Table,(({((r.copies.getD 0 default).getD 1 default).gate with windows:=([]:List aT)},((),())),(((r.copies.getD 0 default).getD 1 default).gate.windows,(r.granted,())))))))))))))))))))))))))))))
def g10 (r:Bool×aV):=(e3 r.2,(((),((),(r.2.net.committed,()))),(((),()),(e0 (r.2.net.au.getD 0 default),(e2 (r.2.net.au.getD 0 default).aQ,(e1 (r.2.net.au.getD 0 default).aQ.uw,((r.2.net.au.getD 0 default).aQ.uw.data,((r.2.net.au.getD 0 default).aQ.log,(r.2.net.net,())))))))))
def g11 (r:Int×aL):=(((),((),(r.2.committed,()))),(((),()),(e0 (r.2.au.getD 0 default),(e2 (r.2.au.getD 0 default).aQ,(e1 (r.2.au.getD 0 default).aQ.uw,((r.2.au.getD 0 default).aQ.uw.data,((r.2.au.getD 0 default).aQ.log,(r.2.net,()))))))))
def g12 (r:Bool×aL):=(((),((),(r.2.committed,()))),(((),()),(e0 (r.2.au.getD 0 default),(e2 (r.2.au.getD 0 default).aQ,(e1 (r.2.au.getD 0 default).aQ.uw,((r.2.au.getD 0 default).aQ.uw.data,((r.2.au.getD 0 default).aQ.log,(r.2.net,()))))))))
def g13 (r:aZ):=(({r with data:=([]:List Int)},((),())),((),(r.data,())))
def g14 (r:aJ):=(((),(r.term,(r.RH,((),())))),(({r.uw with data:=([]:List Int)},((),())),((),(r.log,(r.uw.data,())))))
def g15 (r:aj):=(e0 r,(((),(r.aQ.term,(r.aQ.RH,((),())))),(({r.aQ.uw with data:=([]:List Int)},((),())),((),(r.aQ.log,(r.aQ.uw.data,()))))))
def g16 (r:aj):=(e0 r,(((),(r.aQ.term,(r.aQ.RH,((),())))),(({r.aQ.uw with data:=([]:List Int)},((),())),(r.aQ.uw.data,(r.aQ.log,())))))
def g17 (r:aj):=(((),()),(e0 r,(((),(r.aQ.term,(r.aQ.RH,((),())))),(e1 r.aQ.uw,(r.aQ.uw.data,(r.aQ.log,()))))))
def g18 (r:aj):=(e0 r,(((),(r.aQ.term,(r.aQ.RH,((),())))),(e1 r.aQ.uw,(r.aQ.uw.data,(r.aQ.log,(((),()),()))))))
def g19 (r:aj):=(e0 r,(((),(r.aQ.term,(r.aQ.RH,((),())))),(e1 r.aQ.uw,((),(r.aQ.log,(r.aQ.uw.data,()))))))
def g20 (r:aL):=(((),((),(r.committed,()))),(((),()),(e0 (r.au.getD 0 default),(e2 (r.au.getD 0 default).aQ,(e1 (r.au.getD 0 default).aQ.uw,((r.au.getD 0 default).aQ.uw.data,((r.au.getD 0 default).aQ.log,((),(r.net,())))))))))
def g21 (r:aJ):=(((),(r.term,(r.RH,((),())))),(({r.uw with data:=([]:List Int)},((),())),(r.uw.data,((),(r.log,())))))
def g22 (r:aJ):=(((),(r.term,(r.RH,((),())))),(({r.uw with data:=([]:List Int)},((),())),((),((),(r.uw.data,(r.log,()))))))
def g23 (r:aj):=(e0 r,(((),(r.aQ.term,(r.aQ.RH,((),())))),(e1 r.aQ.uw,((),((),(r.aQ.uw.data,(r.aQ.log,())))))))
def g24 (r:aj):=(e0 r,(((),(r.aQ.term,(r.aQ.RH,((),())))),(({r.aQ.uw with data:=([]:List Int)},((),())),((),((),(r.aQ.uw.data,(r.aQ.log,())))))))
def g25 (r:aL):=(((),((),(r.committed,()))),(((),()),(e0 (r.au.getD 0 default),(e2 (r.au.getD 0 default).aQ,(e1 (r.au.getD 0 default).aQ.uw,((r.au.getD 0 default).aQ.uw.data,((r.au.getD 0 default).aQ.log,(r.net,()))))))))
def g26 (r:Int×aL):=(((),((),(r.2.committed,()))),(((),()),(e0 (r.2.au.getD 0 default),(e2 (r.2.au.getD 0 default).aQ,(e1 (r.2.au.getD 0 default).aQ.uw,((),((),((),((r.2.au.getD 0 default).aQ.uw.data,((r.2.au.getD 0 default).aQ.log,(r.2.net,())))))))))))
def g27 (r:(List aG)×aL):=(((),((),(r.2.committed,()))),(((),()),(e0 (r.2.au.getD 0 default),(e2 (r.2.au.getD 0 default).aQ,(e1 (r.2.au.getD 0 default).aQ.uw,((r.2.au.getD 0 default).aQ.uw.data,((r.2.au.getD 0 default).aQ.log,(r.2.net,()))))))))
def g28 (r:Int×aV):=(e3 r.2,(((),((),(r.2.net.committed,()))),(((),()),(e0 (r.2.net.au.getD 0 default),(e2 (r.2.net.au.getD 0 default).aQ,(e1 (r.2.net.au.getD 0 default).aQ.uw,((r.2.net.au.getD 0 default).aQ.uw.data,((r.2.net.au.getD 0 default).aQ.log,(r.2.net.net,())))))))))
def g29 (r:Bool×aV):=(e3 r.2,(((),((),(r.2.net.committed,()))),(((),()),(e0 (r.2.net.au.getD 0 default),(e2 (r.2.net.au.getD 0 default).aQ,(e1 (r.2.net.au.getD 0 default).aQ.uw,((),((),((),((r.2.net.au.getD 0 default).aQ.uw.data,((r.2.net.au.getD 0 default).aQ.log,(r.2.net.net,()))))))))))))
def g30 (r:Int×Int×aV):=(e3 r.2.2,(((),((),(r.2.2.net.committed,()))),(((),()),(e0 (r.2.2.net.au.getD 0 default),(e2 (r.2.2.net.au.getD 0 default).aQ,(e1 (r.2.2.net.au.getD 0 default).aQ.uw,((),((),((),((r.2.2.net.au.getD 0 default).aQ.uw.data,((r.2.2.net.au.getD 0 default).aQ.log,(r.2.2.net.net,()))))))))))))
def g31 (r:Bool×xW):=(e5 r.2,(e3 r.2.p,(((),((),(r.2.p.net.committed,()))),(((),()),(e0 (r.2.p.net.au.getD 0 default),(e2 (r.2.p.net.au.getD 0 default).aQ,(e1 (r.2.p.net.au.getD 0 default).aQ.uw,((),((),((),(((),()),(((),((),())),((((r.2.copies.getD 0 default).getD 0 default).cell,(((r.2.copies.getD 0 default).getD 0 default).xC,((),((),((),((),((),()))))))),(((r.2.copies.getD 0 default).getD 0 default).history,(((),()),(((r.2.copies.getD 0 default).getD 0 default).now.Store.values,(((r.2.copies.getD 0 default).getD 0 default).now.Queue,(((r.2.copies.getD 0 default).getD 0 default).now.Table,(({((r.2.copies.getD 0 default).getD 0 default).gate with windows:=([]:List aT)},((),())),(((r.2.copies.getD 0 default).getD 0 default).gate.windows,((((r.2.copies.getD 0 default).getD 1 default).cell,(((r.2.copies.getD 0 default).getD 1 default).xC,((),((),((),((),((),()))))))),(((r.2.copies.getD 0 default).getD 1 default).history,(((),()),(((r.2.copies.getD 0 default).getD 1 default).now.Store.values,(((r.2.copies.getD 0 default).getD 1 default).now.Queue,(((r.2.copies.getD 0 default).getD 1 default).now.Table,(({((r.2.copies.getD 0 default).getD 1 default).gate with windows:=([]:List aT)},((),())),(((r.2.copies.getD 0 default).getD 1 default).gate.windows,((),((r.2.p.net.au.getD 0 default).aQ.uw.data,((r.2.p.net.au.getD 0 default).aQ.log,(r.2.p.net.net,(r.2.granted,())))))))))))))))))))))))))))))))))
def g32 (r:bU):=(({r with windows:=([]:List aT)},((),())),((),(r.windows,())))
def g33 (r:xW):=(e5 r,(e3 r.p,(((),((),(r.p.net.committed,()))),(((),()),(e0 (r.p.net.au.getD 0 default),(e2 (r.p.net.au.getD 0 default).aQ,(e1 (r.p.net.au.getD 0 default).aQ.uw,((r.p.net.au.getD 0 default).aQ.uw.data,((r.p.net.au.getD 0 default).aQ.log,(r.p.net.net,(((),()),(((),((),())),((((r.copies.getD 0 default).getD 0 default).cell,(((r.copies.getD 0 default).getD 0 default).xC,((),((),((),((),((),()))))))),(((r.copies.getD 0 default).getD 0 default).history,(((),()),(((r.copies.getD 0 default).getD 0 default).now.Store.values,(((r.copies.getD 0 default).getD 0 default).now.Queue,(((r.copies.getD 0 default).getD 0 default).now.Table,(({((r.copies.getD 0 default).getD 0 default).gate with windows:=([]:List aT)},((),())),((),((((r.copies.getD 0 default).getD 1 default).cell,(((r.copies.getD 0 default).getD 1 default).xC,((),((),((),((),((),()))))))),(((r.copies.getD 0 default).getD 1 default).history,(((),()),(((r.copies.getD 0 default).getD 1 default).now.Store.values,(((r.copies.getD 0 default).getD 1 default).now.Queue,(((r.copies.getD 0 default).getD 1 default).now.Table,(({((r.copies.getD 0 default).getD 1 default).gate with windows:=([]:List aT)},((),())),((),(r.granted,(((r.copies.getD 0 default).getD 0 default).gate.windows,(((r.copies.getD 0 default).getD 1 default).gate.windows,())))))))))))))))))))))))))))))))
def g34 (r:dN):=(e6 r,(r.history,(((),()),(r.now.Store.values,(r.now.Queue,(r.now.Table,(e4 r.gate,(r.gate.windows,()))))))))
def g35 (r:oL×dM×aO×aM):=(((),()),(r.2.1.values,(r.2.2.1,(r.2.2.2,(((),()),(r.1.Store.values,(e7 r.1.Queue.greatest,(r.1.Queue.items,(r.1.Queue.Dl,(r.1.Table,()))))))))))
def g36 (r:aO):=(e7 r.greatest,((),((),(r.items,(r.Dl,())))))
def g37 (r:dM×aO×aM):=(((),()),(r.1.values,(e7 r.2.1.greatest,((),((),(r.2.2,(r.2.1.items,(r.2.1.Dl,()))))))))
def g38 (r:dN):=((r.cell,(r.xC,((),((),((),((),((),()))))))),((),((),((),((),((),(e4 r.gate,(r.gate.windows,(r.history,(((),()),(r.now.Store.values,(r.now.Queue,(r.now.Table,())))))))))))))
def g39 (r:(List aA)×aL):=(((),((),(r.2.committed,()))),(((),()),(e0 (r.2.au.getD 0 default),(e2 (r.2.au.getD 0 default).aQ,(e1 (r.2.au.getD 0 default).aQ.uw,((r.2.au.getD 0 default).aQ.uw.data,((r.2.au.getD 0 default).aQ.log,(r.2.net,()))))))))
def g40 (r:(List aA)×aV):=(e3 r.2,(((),((),(r.2.net.committed,()))),(((),()),(e0 (r.2.net.au.getD 0 default),(e2 (r.2.net.au.getD 0 default).aQ,(e1 (r.2.net.au.getD 0 default).aQ.uw,((r.2.net.au.getD 0 default).aQ.uw.data,((r.2.net.au.getD 0 default).aQ.log,(r.2.net.net,())))))))))
def g41 (r:aX):=(({r with places:=([]:List aK)},((),())),(r.places,()))
end Go.Proofs
namespace Go.AM
open Go Go.RowKit Go.CP
theorem Zl [Fuel] {P:Program} (w:World) (d:Nat) {T e:TypeId} (a:Option Addr) (n c:Nat) (hT:P.underlying T=some (.slice e)):
  (Op.equalIn (d+1) T (.slice a n c) (.slice none 0 0)).run P w= .ok a.isNone w:=by
 have hu:=run_underlying (P:=P) (w:=w) hT
 cases a with
 |none=>simp [Op.equalIn,hu]
 |some a=>simp [Op.equalIn,hu]
theorem aiA [Fuel] {P:Program} {w:World} {T e:TypeId} {xo yo:Operand} {a:Option Addr} {n c:Nat} (hT:P.underlying T=some (.slice e)):
  (do eqGuard .eql T xo yo (.slice a n c) (.slice none 0 0);binOp .eql T (.slice a n c) (.slice none 0 0):Sem Value).run P w= .ok (.bool a.isNone) w:=by
 have hq:=Zl (P:=P) w 9999 a n c hT
 have hg:(eqGuard .eql T xo yo (.slice a n c) (.slice none 0 0)).run P w= .ok () w:=by simp [eqGuard]
 rw [Sem.run_bind,hg]
 simp [binOp,Op.equal,Op.maxDepth,hq]
def akJ (ops:Array Oper):Option (Nat×Nat×Nat×TypeId):=
 match ops.toList with
 | [⟨some d0,.move (.tmp x),_,_,_,none⟩,⟨some d1,.binOp .eql T (.tmp y) (.const (.slice none 0 0)) _,_,_,_,none⟩]=>bif Nat.beq y d0 then some (x,d0,d1,T)else none
 |_=>none
theorem aiB [Fuel] {P:Program} {nt p:Nat} {Q:Exit->St->Prop} {st:St} {id:Nat} {ops:Array Oper} (x d0 d1:Nat) (T:TypeId) {e:TypeId} {t:Ty} {xs:List (den t)} {y:Code}
  (hops:akJ ops=some (x,d0,d1,T))
  (hT:P.underlying T=some (.slice e)) (hx:look st.σ x=some (SV.one (.s (.c (.ls t xs))))) (hd:(Nat.blt d0 nt&&Nat.blt d1 nt)=true)
  (hy:∀b,(b=true->xs= [])->wpA P nt p y Q ⟨Sv (Sv st.σ (some d0) (SV.one (.s (.c (.ls t xs))))) (some d1) (mkv (.bool b)),st.h⟩):
  wpA P nt p (.seq (.region id ops false) y) Q st:=by
 obtain⟨o0,o1,u,hl,h0,h0d,h0g,h1,h1d,h1g⟩:∃(o0 o1:Oper) (u:TypeId),ops.toList= [o0,o1]/\o0.op= .move (.tmp x)/\o0.dst=some d0/\o0.guard=none∧
   o1.op= .binOp .eql T (.tmp d0) (.const (.slice none 0 0)) u/\o1.dst=some d1/\o1.guard=none:=by
  unfold akJ at hops
  split at hops
  ·rename_i e0 x0 t0 q0 af0 e1 T1 y1 u1 t1 q1 af1 hl
   cases hb:Nat.beq y1 e0 with
   |false=>rw [hb]at hops;cases hops
   |true=>
    rw [hb]at hops
    cases hops
    have:=Nat.eq_of_beq_eq_true hb
    subst this
    exact⟨_,_,u1,hl,rfl,rfl,rfl,rfl,rfl,rfl⟩
  ·cases hops
 simp only [Bool.and_eq_true]at hd
 intro Df X w0 M0 m0 a w R
 obtain⟨m,H,hs,hm,hj⟩:=R.ex
 obtain⟨v,hv,Cz⟩:=hs.2 x _ hx
 obtain⟨ad,c,rfl,hnil⟩:∃ad c,v= .slice ad xs.length c/\(ad.isNone=true->xs= []):=by
  cases Cz with
  | c h=>
   cases h with
   |ls _ _ _ h=>
    generalize hn:xs.length=n at h
    generalize fE t xs=f at h
    cases h with
    |rd0 _ _ ad cap=>exact⟨ad,cap,rfl,λ_=>List.eq_nil_of_length_eq_zero hn⟩
    |rd _ _ _ b off cap=>exact⟨_,cap,rfl,λh=>by cases h⟩
 refine wp_seq (wp_region_list ?_)
 rw [hl]
 have hev:a.eval (.tmp x)= .slice ad xs.length c:=by
  show a.tmps.getD x undef=_
  simp [hv]
 refine wpList_step (λK hK=> ?_)
 rw [if_pos (by simp [Region.wanted,h0g])]
 have hr0:(execOp a.eval o0).run P w= .ok (.value (.slice ad xs.length c)) w:=by
  obtain⟨dst,op,type,pos,after,guard⟩:=o0
  simp only at h0;subst h0
  simp [execOp,hev]
 unfold Oper.wp
 rw [hr0]
 simp only [Oper.upon]
 refine hK _ _ ?_
 rw [h0d]
 have hs1:Slots w m (MX X m st.h) nt (Sv st.σ (some d0) (SV.one (.s (.c (.ls t xs))))) (a.put (some d0) (.slice ad xs.length c)):=
  UN hs (by simp only [aav];exact hd.1) Later.refl Cz
 obtain⟨v1,hv1,_⟩:=hs1.2 d0 (SV.one (.s (.c (.ls t xs)))) (by rw [uN];simp)
 refine wpList_step (λK hK=> ?_)
 rw [if_pos (by simp [Region.wanted,h1g])]
 have arF:(a.put (some d0) (.slice ad xs.length c)).eval (.tmp d0)= .slice ad xs.length c:=by
  have hlt:d0<a.tmps.size:=by rw [hs.1];exact(by simpa using hd.1)
  show((a.put (some d0) (.slice ad xs.length c)).tmps).getD d0 undef=_
  simp [Act.put,hlt]
 have hr1:(execOp (a.put (some d0) (.slice ad xs.length c)).eval o1).run P w= .ok (.value (.bool ad.isNone)) w:=by
  obtain⟨dst,op,type,pos,after,guard⟩:=o1
  simp only at h1;subst h1
  have:=aiA (P:=P) (w:=w) (xo:= .tmp d0) (yo:= .const (.slice none 0 0)) (a:=ad) (n:=xs.length) (c:=c) hT
  simp only [execOp,arF]
  show(Next.value<$>(do eqGuard .eql T (.tmp d0) (.const (.slice none 0 0)) (.slice ad xs.length c) (.slice none 0 0);binOp .eql T (.slice ad xs.length c) (.slice none 0 0):Sem Value)).run P w=_
  rw [Sem.run_map,this];rfl
 unfold Oper.wp
 rw [hr1]
 simp only [Oper.upon]
 refine hK _ _ (wpList_nil ?_)
 rw [h1d]
 have hs2:=UN (d:=some d1) (r:=mkv (.bool ad.isNone)) (v:= .bool ad.isNone) hs1 (by simp only [aav];exact hd.2) Later.refl (.c (.val _))
 have alO:Rel Df X w0 M0 m0 p nt ⟨Sv (Sv st.σ (some d0) (SV.one (.s (.c (.ls t xs))))) (some d1) (mkv (.bool ad.isNone)),st.h⟩ ((a.put (some d0) (.slice ad xs.length c)).put (some d1) (.bool ad.isNone)) w:=
  ⟨R.defers,R.frame,m,H,hs2,hm,hj⟩
 exact hy ad.isNone hnil Df X w0 M0 m0 _ w alO
def arx:Exit->TS->Option TS
 | .normal,ts=>some ts
 |_,_=>none
def bTS (ts:TS) (d0 d1:Nat) (s:SV) (b:Bool):TS:=⟨Sv (Sv ts.σ (some d0) s) (some d1) (mkv (.bool b)),ts.h,ts.n⟩
def tsB [Fuel] (C:Cx) (p:Nat) (r0:Code) (ts:TS):TS:=(exec C p r0 .z ts arx).getD ⟨[],[],0⟩
theorem LW [Fuel] {P:Program} {S:aS} (nt:Nat) (tm:List (Nat×Ty)) {fn:Func} (hf:P.funcs[S.f]? =some fn) (u:S.rs.V->S.β) (x d0 d1:Nat) (T:TypeId) {e:TypeId} {id:Nat} {ops:Array Oper} {r0 c1 rest:Code}
  {t:Ty} (xs:S.ps.V->List (den t)) (e0:S.β)
  (hb:fn.body=some (.seq r0 (.seq (.seq (.region id ops false) c1) rest)))
  (hops:akJ ops=some (x,d0,d1,T)) (hTy:P.underlying T=some (.slice e))
  (h0:∀v,exec ⟨P,nt,tm,[],[]⟩ S.ps.objs.length r0 .z (enc S.ps v) arx=some (tsB ⟨P,nt,tm,[],[]⟩ S.ps.objs.length r0 (enc S.ps v)))
  (hx:∀v,look (tsB ⟨P,nt,tm,[],[]⟩ S.ps.objs.length r0 (enc S.ps v)).σ x=some (SV.one (.s (.c (.ls t (xs v)))))) (hd:(Nat.blt d0 nt&&Nat.blt d1 nt)=true)
  (hgo:∀(vs:Array Value) (w:World),(callFunc S.f vs).run P w= .ok (.enter S.f vs) w)
  (hn:(Nat.beq nt fn.ntmps&&Nat.ble S.ps.slots.length fn.ntmps&&wQ 0 S.ps.slots&&wQ 0 S.rs.slots)=true) (hu:∀v,eSs S.rs.slots (S.g (u v)).1=eSs S.rs.slots v.1/\eOs S.rs.objs (S.g (u v)).2=eOs S.rs.objs v.2)
  (hm1:∀v,S.F v=exec ⟨P,nt,tm,[],[]⟩ S.ps.objs.length c1 .z (bTS (tsB ⟨P,nt,tm,[],[]⟩ S.ps.objs.length r0 (enc S.ps v)) d0 d1 (SV.one (.s (.c (.ls t (xs v))))) false) (G8 (λts'=>exec ⟨P,nt,tm,[],[]⟩ S.ps.objs.length rest .z ts' (ado P S.ps.objs.length S.rs fn.results.toList u)) (ado P S.ps.objs.length S.rs fn.results.toList u)))
  (hm2:∀v,exec ⟨P,nt,tm,[],[]⟩ S.ps.objs.length c1 .z (bTS (tsB ⟨P,nt,tm,[],[]⟩ S.ps.objs.length r0 (enc S.ps v)) d0 d1 (SV.one (.s (.c (.ls t (xs v))))) true) (G8 (λts'=>exec ⟨P,nt,tm,[],[]⟩ S.ps.objs.length rest .z ts' (ado P S.ps.objs.length S.rs fn.results.toList u)) (ado P S.ps.objs.length S.rs fn.results.toList u))=some e0)
  (he:∀v r,xs v= []->S.F v=some r->r=e0):bL P S:=by
 refine akG (C:=⟨P,nt,tm,[],[]⟩) hgo hf hb hn hu (λv r hF=> ?_)
 have hw0:=rZ (C:=⟨P,nt,tm,[],[]⟩) ok0 r0 vZ (abA S.ps v) (h0 v)
 refine TY (uO hw0 (λex st h=> ?_))
 obtain⟨ts,k1,k2,k3⟩:=h
 cases ex with
 | normal=>
  have:ts=(tsB ⟨P,nt,tm,[],[]⟩ S.ps.objs.length r0 (enc S.ps v)):=by simpa [arx]using k1
  subst this
  refine K8 k3 (TY ?_)
  refine aiB (st:=(tsB ⟨P,nt,tm,[],[]⟩ S.ps.objs.length r0 (enc S.ps v)).er) x d0 d1 T hops hTy (hx v) hd (λb hb=> ?_)
  have fin:∀{b:Bool},exec ⟨P,nt,tm,[],[]⟩ S.ps.objs.length c1 .z (bTS (tsB ⟨P,nt,tm,[],[]⟩ S.ps.objs.length r0 (enc S.ps v)) d0 d1 (SV.one (.s (.c (.ls t (xs v))))) b) (G8 (λts'=>exec ⟨P,nt,tm,[],[]⟩ S.ps.objs.length rest .z ts' (ado P S.ps.objs.length S.rs fn.results.toList u)) (ado P S.ps.objs.length S.rs fn.results.toList u))=some r→
    wpA P nt S.ps.objs.length c1 (amc (wpA P nt S.ps.objs.length rest (Post S.ps.objs.length (ado P S.ps.objs.length S.rs fn.results.toList u) r)) (Post S.ps.objs.length (ado P S.ps.objs.length S.rs fn.results.toList u) r)) (bTS (tsB ⟨P,nt,tm,[],[]⟩ S.ps.objs.length r0 (enc S.ps v)) d0 d1 (SV.one (.s (.c (.ls t (xs v))))) b).er:=by
   intro b hE
   refine uO (rZ (C:=⟨P,nt,tm,[],[]⟩) (ts:=bTS (tsB ⟨P,nt,tm,[],[]⟩ S.ps.objs.length r0 (enc S.ps v)) d0 d1 (SV.one (.s (.c (.ls t (xs v))))) b) ok0 c1 vZ k2 hE) (λex st h=> ?_)
   obtain⟨ts',h1,h2,h3⟩:=h
   cases ex with
   |normal=>exact K8 h3 (rZ (C:=⟨P,nt,tm,[],[]⟩) ok0 rest vZ h2 h1)
   |_=>exact⟨ts',h1,h2,h3⟩
  cases b with
  |false=>exact fin (by rw [<-hm1 v];exact hF)
  |true=>exact fin (by rw [hm2 v,he v r (hb rfl) hF])
 |_=>simp [arx]at k1
theorem Au [Fuel] {α:Type} {b:Bool} {xs r:List α} (h:xs= []) (hF:chk b (some (([]:List α)++xs))=some r):r= []:=by
 subst h
 obtain⟨_,h⟩:=RG hF
 exact(Option.some.inj h).symm
end Go.AM
namespace Go.AM
open Go Go.RowKit Go.CP Go.Sort Go.Proofs Go.Shelf
theorem abH [Fuel] {W w':World} (hos:w'.os=W.os) (htp:w'.tape=W.tape) (hout: @UG adq W w') (hs:W.heap.size<=w'.heap.size) (hk:∀b,b<W.heap.size->w'.heap[b]? =W.heap[b]?):∃q os',w'=grow (W.drewN q) os':=by
 refine⟨w'.drawn - W.drawn,w'.heap.extract W.heap.size w'.heap.size,?_⟩
 have h1:w'.heap=W.heap++w'.heap.extract W.heap.size w'.heap.size:=by
  apply Array.ext_getElem?
  intro i
  by_cases hi:i<W.heap.size
  ·rw [Array.getElem?_append_left hi];exact hk i hi
  ·rw [Array.getElem?_append_right (by omega)]
   rw [Array.getElem?_extract]
   by_cases h2:i<w'.heap.size
   ·rw [if_pos (by omega)];congr 1;omega
   ·rw [if_neg (by omega),Array.getElem?_eq_none (by omega)]
 have hout:w'.output=W.output/\(True->W.drawn<=w'.drawn):=hout
 have hd:=hout.2 trivial
 cases w' with
 | mk heap tape drawn os output=>
  cases W with
  |mk at7 aua aty os0 asb=>
   have e1:=hos;have e2:=htp;have e3:=hout.1
   simp only at e1 e2 e3 h1 hd hs
   subst e1;subst e2;subst e3
   simp only [grow,World.drewN,World.mk.injEq,and_true,true_and]
   exact⟨h1,by omega⟩
theorem K7.two [Fuel] {α β:Type} {R:α->β->Prop} {a b:α} {vs:List β} (h:K7 R [a,b] vs):∃x y,vs= [x,y]/\R a x/\R b y:=by
 cases h with
 | cons h1 h2=>
  cases h2 with
  |cons h3 h4=>
   cases h4 with
   |nil=>exact⟨_,_,rfl,h1,h3⟩
section
variable {P:Program} {ρ:Ren}
theorem af8 [Fuel] (L:SlLaysF.n6 P ρ) {n:N} {c:T n} {g:Nat} {xs:List Int} (cf:Int->Int->Int) (hO:apx (ltOf cf) xs) (hlen:xs.length<4611686018427387904)
  (eg:∀args w,(callFunc g args).run P w= .ok (.enter g args) w)
  (hg:∀x∈xs,∀y∈xs, @Jb adq P g [mkv (.int .i64 x),mkv (.int .i64 y),.one (.s (.rp (Jz n c)))] [] (λr h=>r=mkv (.int .i64 (cf x y))/\h= [])):
  Jb P (ρ.f 6) [.one (.s (.own 0)),.one (.s (.fn g [1]))] [.arr 1 xs.length (fE (.i .i64) xs),.box ((Jz n c).map .c)]
   (λr h=>r= .tup []/\h= [.arr 1 xs.length (fE (.i .i64) (xs.mergeSort λx y=> !ltOf cf y x)),.box ((Jz n c).map .c)]):=by
 intro X w m vs H ha
 obtain⟨v0,v1,rfl,h0,h1⟩:=ha.two
 change lU w m _ (.own 0) v0 at h0
 change lU w m _ (.fn g [1]) v1 at h1
 obtain⟨l,z0,⟨ln,lc⟩,lb,hblk⟩:∃l,m 0=some l/\(l.n=xs.length/\xs.length<=l.cap)/\(l.blk=none->l.cap=0)∧∀b,l.blk=some b->l.base=some ⟨b,0,none⟩∧
   ∃T vs,w.heap[b]? =some (.cells vs T (0,0))/\vs.size=l.cap*1/\(∀i,i<vs.size->(vs.getD i undef).oneCell'=true)∧
    ∀i,i<xs.length->(fE (.i .i64) xs i).length=1∧∀(j:Nat) x,(fE (.i .i64) xs i)[j]? =some x->OZ w (MX X m [.arr 1 xs.length (fE (.i .i64) xs),.box ((Jz n c).map .c)]) x (vs.getD (i*1+j) undef):=by
  obtain⟨l,a1,a2,a3,a4,a5⟩:=H.obj 0 _ rfl
  exact⟨l,a1,a3,a4,a5⟩
 cases h0 with
 |own _ l' hl'=>
 rw [z0]at hl';cases hl'
 cases h1 with
 |fn _ _ cb hcs hcap=>
 obtain⟨l1,b1,m1,lb1,hcb⟩:=hcap 0 1 rfl
 have asc:cb= #[.pointer (some ⟨b1,0,none⟩)]:=by
  apply Array.ext_getElem?
  intro i
  match i with
  |0=>exact hcb
  |i+1=>rw [Array.getElem?_eq_none (by rw [hcs];simp)];simp
 subst asc
 show Calls P (ρ.f 6) #[_,_] w _
 rw [ln]
 cases xs with
 |nil=>
  have e0:(([]:List Int).mergeSort λx y=> !ltOf cf y x)= []:=by simp
  rw [e0]
  refine(AnyF.slices_SortFunc_none (P:=P) (ρ:=ρ) {L with} l.base l.cap _ w).mono ?_
  rintro e w' ⟨rfl,rfl⟩
  exact⟨.tuple #[],.tup [],_,m,rfl,⟨rfl,rfl⟩,H,⟨#[],rfl,rfl,λi a h=>by simp at h⟩,⟨rfl,rfl,UG.same _,Nat.le_refl _,λ_ _ _=>rfl⟩,λb hb=> .inl hb,λj l _ h=>h⟩
 |cons x0 xr=>
 generalize hxs:x0::xr=xs at*
 have hne:xs≠ []:=by rw [<-hxs];simp
 have hpos:0<xs.length:=List.length_pos_iff.2 hne
 obtain⟨b,hlb⟩:∃b,l.blk=some b:=by
  cases hq:l.blk with
  |some b=>exact⟨b,rfl⟩
  |none=>have:=lb hq;omega
 obtain⟨hbase,Tb,bs,hb,hbs,hone,hcell⟩:=hblk b hlb
 rw [hbase]
 have hbl:b<w.heap.size:=lt_of_block hb
 have hval:∀i,i<xs.length->bs.getD i undef= .int .i64 (xs.getD i default):=by
  intro i hi
  have:=(hcell i hi).2 0 _ rfl
  rw [Nat.mul_one,Nat.add_zero]at this
  generalize bs.getD i undef=u at this
  cases this with
  |val v=>rfl
 haveI:Inhabited {x:Int // x∈xs}:=⟨⟨x0,by rw [<-hxs];simp⟩⟩
 obtain⟨en,hen⟩:∃en:{x:Int // x∈xs}->Value,en=λx=> .int .i64 x.1:=⟨_,rfl⟩
 obtain⟨cf',hcf⟩:∃cf':{x:Int // x∈xs}->{x:Int // x∈xs}->Int,cf'=λx y=>cf x.1 y.1:=⟨_,rfl⟩
 obtain⟨d,hd⟩:∃d:Array {x:Int // x∈xs},d=xs.attach.toArray:=⟨_,rfl⟩
 have akK:∀x y,ltOf cf' x y=ltOf cf x.1 y.1:=λx y=>by rw [hcf];rfl
 have hds:d.size=xs.length:=by rw [hd];simp
 have hdi:∀j,j<xs.length->(d[j]!).1=xs.getD j default:=by
  intro j hj
  rw [getElem!_pos d j (by rw [hds];exact hj)]
  subst hd
  simp [List.getD_eq_getElem?_getD,hj]
 have hO':SWO (ltOf cf'):=⟨λx=>by rw [akK];exact hO.irr x.1 x.2,λx y z=>by simp only [akK];exact hO.tr x.1 x.2 y.1 y.2 z.1 z.2,λx y z=>by simp only [akK];exact hO.nt x.1 x.2 y.1 y.2 z.1 z.2⟩
 have hT':∀x y,ltOf cf' x y=false->ltOf cf' y x=false->x=y:=λx y h1 h2=>by rw [akK]at h1 h2;exact Subtype.ext (hO.tot x.1 x.2 y.1 y.2 h1 h2)
 have aji:∀x,en x= .int .i64 x.1:=λx=>by rw [hen]
 have hH:Holds en w b 0 d:=by
  intro j hj
  rw [hds]at hj
  have hj2:j<bs.size:=by omega
  constructor
  ·unfold World.cell?
   simp only [hb,Nat.zero_add]
   have e1:=hval j hj
   rw [Array.getElem?_eq_getElem hj2]
   have e2:bs.getD j undef=bs[j]:=by simp [Array.getD,hj2]
   rw [e2]at e1
   rw [aji,e1,hdi j hj];rfl
  ·unfold World.frozen?
   simp [hb]
 have RI:∀bb,Mut m [.arr 1 xs.length (fE (.i .i64) xs),.box ((Jz n c).map .c)] bb ↔ bb=b\/bb=b1:=by
  intro bb
  constructor
  ·rintro⟨k,o,lk,hk,ho,hm,hbk⟩
   match k,hk with
   |0,hk=>rw [z0]at hm;cases hm;rw [hlb]at hbk;cases hbk;exact .inl rfl
   |1,hk=>rw [m1]at hm;cases hm;rw [lb1]at hbk;cases hbk;exact .inr rfl
   |k+2,hk=>simp at hk
  ·rintro(rfl|rfl)
   ·exact⟨0,_,l,rfl,trivial,z0,hlb⟩
   ·exact⟨1,_,l1,rfl,trivial,m1,lb1⟩
 have ase:b1≠b:=by
  intro e
  have:=H.inj 0 1 _ _ l l1 b rfl rfl trivial trivial z0 m1 hlb (by rw [lb1,e])
  cases this
 obtain⟨l1',b1',T1,bs1,q1,q2,hbx,hsl,aiC⟩:Sr w m (MX X m [.arr 1 xs.length (fE (.i .i64) xs),.box ((Jz n c).map .c)]) 1 (.box ((Jz n c).map .c)):=H.obj 1 _ rfl
 rw [m1]at q1;cases q1
 rw [lb1]at q2;cases q2
 have asf:b1<w.heap.size:=lt_of_block hbx
 have aev:∀(mm:Nat) (os:Array Obj) (dk:Array {x:Int // x∈xs}) (bb:Nat),bb<w.heap.size->bb≠b->(sortWorld en w b 0 mm dk os).heap[bb]? =w.heap[bb]? :=by
  intro mm os dk bb hbb hne'
  show((mapBlock (Sort.ahead w mm) b _).heap++os)[bb]? =_
  rw [Array.getElem?_append_left (by simpa [mapBlock,Sort.ahead]using hbb)]
  simp [mapBlock,Sort.ahead,Array.getElem?_modify,Ne.symm hne']
 have hszW:∀(mm:Nat) (os:Array Obj) (dk:Array {x:Int // x∈xs}),w.heap.size<=(sortWorld en w b 0 mm dk os).heap.size:=by
  intro mm os dk
  show _<=((mapBlock (Sort.ahead w mm) b _).heap++os).size
  simp [mapBlock,Sort.ahead]
 let X':Mu:=λbb=>X bb\/bb=b
 have hL:∀(mm:Nat) (os:Array Obj) (dk:Array {x:Int // x∈xs}),Later w m (MX X m [.arr 1 xs.length (fE (.i .i64) xs),.box ((Jz n c).map .c)]) (sortWorld en w b 0 mm dk os) m X':=by
  intro mm os dk
  refine⟨λ_ _ h=>h,λbb _ hM hX=> ?_,λbb hbb hM=> ?_,hszW mm os dk⟩
  ·rcases hX with hX|rfl
   ·exact hM (.inl hX)
   ·exact hM (.inr ((RI _).2 (.inl rfl)))
  ·exact aev mm os dk bb hbb (λe=>hM (.inr ((RI _).2 (.inl e))))
 have hcmp:CmpLays1 P g #[.pointer (some ⟨b1,0,none⟩)] en cf' b 0 d.size w:=by
  intro mm os dk _ x y
  have hW:=hg x.1 x.2 y.1 y.2 X' (sortWorld en w b 0 mm dk os) (λ_=>none) [.int .i64 x.1,.int .i64 y.1,.pointer (some ⟨b1,0,none⟩)]
   ⟨λk o hk=>by simp at hk,λk k' o o' l l' b hk=>by simp at hk,λ_ _=>rfl,λbb ⟨k,o,l,hk,_⟩=>by simp at hk,λbb hbb=>by
    rcases hbb with h|rfl
    ·exact Nat.lt_of_lt_of_le (H.xlt bb h) (hszW mm os dk)
    ·exact Nat.lt_of_lt_of_le hbl (hszW mm os dk)⟩
   (by
    have hnX:¬X' b1:=by
     rintro(h|h)
     ·exact H.adA b1 ((RI b1).2 (.inr rfl)) h
     ·exact ase h
    have hMX:∀bb,MX X' (λ_=>none) [] bb ↔ X' bb:=λbb=>⟨λh=>by rcases h with h|⟨k,o,l,hk,_⟩;exact h;simp at hk,.inl⟩
    have aub:MX X' (λ_=>none) ([]:List bF)=X':=by funext bb;exact propext (hMX bb)
    refine .cons (.c (.val _)) (.cons (.c (.val _)) (.cons ?_ .nil))
    rw [aub]
    have hlen1:bs1.size=(Jz n c).length:=by have:=hsl.1;simpa using this
    refine lU.rp (Jz n c) b1 0 (λj=>bs1.getD j undef) hnX (Nat.lt_of_lt_of_le asf (hszW mm os dk)) (λj hj=> ?_) (λj z hz=> ?_)
    ·have hk:=aev mm os dk b1 asf ase
     unfold World.cell?
     rw [hk,hbx]
     have hj2:j<bs1.size:=by omega
     simp [Array.getD,hj2]
    ·have hs:=hsl.2 j (.c z) (by rw [List.getElem?_map,hz];rfl)
     cases hs with
     |c hs=>exact hs.later (hL mm os dk))
  have ea:(#[en x,en y]++ #[.pointer (some ⟨b1,0,none⟩)]:Array Value)= [Value.int .i64 x.1,.int .i64 y.1,.pointer (some ⟨b1,0,none⟩)].toArray:=by rw [aji,aji];rfl
  rw [ea]
  refine Calls.mono hW ?_
  rintro e w' ⟨v,r,h',m',rfl,⟨rfl,rfl⟩,_,Cz,⟨f1,f2,f3,f4,f5⟩,_⟩
  refine⟨?_,abH f1 f2 f3 f4 (λbb hbb=>f5 bb hbb (by rintro⟨k,o,l,hk,_⟩;simp at hk))⟩
  change lU _ _ _ (.c (.val (.int .i64 (cf x.1 y.1)))) v at Cz
  cases Cz with
  |c h=>cases h with|val _=>rw [hcf]
 have hS:=Any.slices_SortFunc_total L en (λx=>by rw [aji];rfl) cf' hO' g #[.pointer (some ⟨b1,0,none⟩)] b 0 l.cap d w eg hcmp hH hbl (by rw [hds];exact hlen) hT'
 rw [hds]at hS
 refine hS.mono ?_
 rintro e w' ⟨rfl,mm,os,rfl⟩
 have hmap:((d.toList.mergeSort λx y=> !ltOf cf' y x).map (·.1))=xs.mergeSort λx y=> !ltOf cf y x:=by
  rw [List.map_mergeSort (r:=λx y=> !ltOf cf' y x) (s:=λx y=> !ltOf cf y x) (f:=λx:{x:Int // x∈xs}=>x.1) (λa _ b _=>by rw [akK])]
  congr 1
  rw [hd];simp
 generalize hd':(d.toList.mergeSort λx y=> !ltOf cf' y x).toArray=d' at*
 have asg:d'.toList.map (·.1)=xs.mergeSort λx y=> !ltOf cf y x:=by rw [<-hd'];simpa using hmap
 have apr:d'.size=xs.length:=by rw [<-hd'];simp [hds]
 have asF:(xs.mergeSort λx y=> !ltOf cf y x).length=xs.length:=by simp
 have hdv:∀i,i<xs.length->(d'[i]!).1=(xs.mergeSort λx y=> !ltOf cf y x).getD i default:=by
  intro i hi
  rw [<-asg,getElem!_pos d' i (by omega)]
  simp [List.getD_eq_getElem?_getD,show i<d'.size by omega]
 have hWb:(sortWorld en w b 0 mm d' os).heap[b]? =some (.cells (putCells en 0 d' bs) Tb (0,0)):=by
  have e1:(sortWorld en w b 0 mm d' os).heap=(putRow en (Sort.ahead w mm) b 0 d').heap++os:=rfl
  rw [e1,Array.getElem?_append_left (by simpa [putRow,mapBlock,Sort.ahead]using hbl)]
  simp only [putRow,mapBlock,Sort.ahead,Array.getElem?_modify,if_true,hb]
  rfl
 generalize hW':sortWorld en w b 0 mm d' os=W at*
 have atz:MX X m [.arr 1 xs.length (fE (.i .i64) (xs.mergeSort λx y=> !ltOf cf y x)),.box ((Jz n c).map .c)]=MX X m [.arr 1 xs.length (fE (.i .i64) xs),.box ((Jz n c).map .c)]:=by
  funext bb
  apply propext
  have:∀(f:Nat->List CV),Mut m [.arr 1 xs.length f,.box ((Jz n c).map .c)] bb ↔ bb=b\/bb=b1:=by
   intro f
   constructor
   ·rintro⟨k,o,lk,hk,ho,hm,hbk⟩
    match k,hk with
    |0,hk=>rw [z0]at hm;cases hm;rw [hlb]at hbk;cases hbk;exact .inl rfl
    |1,hk=>rw [m1]at hm;cases hm;rw [lb1]at hbk;cases hbk;exact .inr rfl
    |k+2,hk=>simp at hk
   ·rintro(rfl|rfl)
    ·exact⟨0,_,l,rfl,trivial,z0,hlb⟩
    ·exact⟨1,_,l1,rfl,trivial,m1,lb1⟩
  unfold MX
  rw [this,this]
 have hkp:∀bb,bb<w.heap.size->bb≠b->W.heap[bb]? =w.heap[bb]? :=λbb h1 h2=>by rw [<-hW'];exact aev mm os d' bb h1 h2
 have hsz2:w.heap.size<=W.heap.size:=by rw [<-hW'];exact hszW mm os d'
 have hLt:Later w m (MX X m [.arr 1 xs.length (fE (.i .i64) xs),.box ((Jz n c).map .c)]) W m (MX X m [.arr 1 xs.length (fE (.i .i64) xs),.box ((Jz n c).map .c)]):=
  ⟨λ_ _ h=>h,λ_ _ h=>h,λbb hbb hM=>hkp bb hbb (λe=>hM (.inr ((RI _).2 (.inl e)))),hsz2⟩
 refine⟨.tuple #[],.tup [],_,m,rfl,⟨rfl,rfl⟩,⟨λk o hk=> ?_,λk k' o o' lk lk' bb hk hk' ho ho' hm hm' hbk hbk'=> ?_,λk hk=>H.used k (by simpa using hk),λbb hbb=> ?_,λbb hbb=>Nat.lt_of_lt_of_le (H.xlt bb hbb) hsz2⟩,⟨#[],rfl,rfl,λi a h=>by simp at h⟩,⟨?_,?_,?_,hsz2,λbb hbb hM=>hkp bb hbb (λe=>hM ((RI _).2 (.inl e)))⟩,λbb hbb=> .inl ?_,λj l _ h=>h⟩
 ·rw [atz]
  match k,hk with
  | 0, hk=>
   cases hk
   refine⟨l,z0,?_,⟨ln,lc⟩,lb,λbb hbb=> ?_⟩
   ·obtain⟨l2,a1,a2,_⟩:=H.obj 0 _ rfl
    rw [z0]at a1;cases a1;exact a2
   ·rw [hlb]at hbb;cases hbb
    refine⟨hbase,Tb,_,hWb,?_,λi hi=> ?_,λi hi=>⟨rfl,λj z hz=> ?_⟩⟩
    ·simp [putCells];omega
    ·have hi2:i<bs.size:=by simpa [putCells]using hi
     have:(putCells en 0 d' bs).getD i undef=if i<d'.size then en d'[i]! else bs[i]:=by simp [putCells,Array.getD,hi2]
     rw [this]
     split
     ·rw [aji];rfl
     ·have:=hone i hi2
      simpa [Array.getD,hi2]using this
    ·match j,hz with
     | 0,hz=>
      cases hz
      have hi2:i<bs.size:=by omega
      have:(putCells en 0 d' bs).getD (i*1+0) undef=en d'[i]! :=by
       rw [Nat.mul_one,Nat.add_zero]
       simp [putCells,Array.getD,hi2,show i<d'.size by omega]
      rw [this,aji,hdv i hi]
      exact .val _
     |j+1,hz=>simp [fE,afd,anU]at hz
  |1,hk=>
   cases hk
   exact⟨l1,b1,T1,bs1,m1,lb1,by rw [hkp b1 asf ase];exact hbx,hsl.later hLt,aiC⟩
  |k+2,hk=>simp at hk
 ·have atA:∀(k:Nat) (o:bF),[bF.arr 1 xs.length (fE (.i .i64) (xs.mergeSort λx y=> !ltOf cf y x)),.box ((Jz n c).map .c)][k]? =some o→∃o',[bF.arr 1 xs.length (fE (.i .i64) xs),.box ((Jz n c).map .c)][k]? =some o'/\o'.live:=by
   intro k o hk
   match k,hk with
   |0,hk=>exact⟨_,rfl,trivial⟩
   |1,hk=>exact⟨_,rfl,trivial⟩
   |k+2,hk=>simp at hk
  obtain⟨p,p1,p2⟩:=atA k o hk
  obtain⟨p',p1',p2'⟩:=atA k' o' hk'
  exact H.inj k k' p p' lk lk' bb p1 p1' p2 p2' hm hm' hbk hbk'
 ·have:=atz
  refine H.adA bb ?_
  have h2:Mut m [.arr 1 xs.length (fE (.i .i64) (xs.mergeSort λx y=> !ltOf cf y x)),.box ((Jz n c).map .c)] bb:=hbb
  obtain⟨k,o,lk,hk,ho,hm,hbk⟩:=h2
  match k,hk with
  |0,hk=>rw [z0]at hm;cases hm;rw [hlb]at hbk;cases hbk;exact(RI _).2 (.inl rfl)
  |1,hk=>rw [m1]at hm;cases hm;rw [lb1]at hbk;cases hbk;exact(RI _).2 (.inr rfl)
  |k+2,hk=>simp at hk
 ·rw [<-hW'];rfl
 ·rw [<-hW'];rfl
 ·rw [<-hW'];exact⟨rfl,λ_=>Nat.le_add_right _ _⟩
 ·obtain⟨k,o,lk,hk,ho,hm,hbk⟩:=hbb
  match k,hk with
  |0,hk=>rw [z0]at hm;cases hm;rw [hlb]at hbk;cases hbk;exact(RI _).2 (.inl rfl)
  |1,hk=>rw [m1]at hm;cases hm;rw [lb1]at hbk;cases hbk;exact(RI _).2 (.inr rfl)
  |k+2,hk=>simp at hk
def aqb (f g:Nat) (n:N) (cmp:T n->Int->Int->Option Int):aS:=
 {f:=f,ps:=⟨[(0,.c (.own 0)),(1,.c (.fn g [1]))],[.ar (.i .i64),.bs n]⟩,rs:=⟨[],[.ar (.i .i64),.bs n]⟩,β:=List Int×T n,F:=λv=>(abX (cmp v.2.2.1) v.2.1).bind λl=>some (l,v.2.2.1),g:=λr=>((),(r.1,(r.2,()))),d:=λv=>(v.2.1,v.2.2.1),dk:=true,hd:=λ_ _=>rfl}
theorem aiD [Fuel] (L:SlLaysF.n6 P ρ) {g:Nat} {n:N} {cmp:T n->Int->Int->Option Int} (eg:∀(vs:Array Value) (w:World),(callFunc g vs).run P w= .ok (.enter g vs) w)
  (hg:∀c x y r,cmp c x y=some r-> @Jb adq P g [mkv (.int .i64 x),mkv (.int .i64 y),.one (.s (.rp (Jz n c)))] [] (λr' h'=>r'=mkv (.int .i64 r)/\h'= [])) (xs l:List Int) (c:T n) (h1:abX (cmp c) xs=some l):
  Jb P (ρ.f 6) [.one (.s (.own 0)),.one (.s (.fn g [1]))] [.arr 1 xs.length (fE (.i .i64) xs),.box ((Jz n c).map .c)]
   (λr h=>r= .tup []/\h= [.arr 1 l.length (fE (.i .i64) l),.box ((Jz n c).map .c)]):=by
 obtain⟨a1,a2,hO,rfl⟩:=aa8 h1
 have key:=af8 L (n:=n) (c:=c) (g:=g) (xs:=xs) (λx y=>(cmp c x y).getD 0) hO a1 eg (λx hx y hy=>by
  obtain⟨q,hq⟩:=a2 x hx y hy
  have:=hg c x y q hq
  rw [hq]
  exact this)
 refine Jb.mono key ?_
 rintro r' h' ⟨rfl,rfl⟩
 refine⟨rfl,?_⟩
 rw [List.length_mergeSort]
 rfl
theorem amC [Fuel] (L:SlLaysF.n6 P ρ) {f g:Nat} {n:N} {cmp:T n->Int->Int->Option Int} (hf:ρ.f 6=f)
  (hgo:∀(vs:Array Value) (w:World),(callFunc f vs).run P w= .ok (.enter f vs) w) (eg:∀(vs:Array Value) (w:World),(callFunc g vs).run P w= .ok (.enter g vs) w)
  (hg:∀c x y r,cmp c x y=some r-> @Jb adq P g [mkv (.int .i64 x),mkv (.int .i64 y),.one (.s (.rp (Jz n c)))] [] (λr' h'=>r'=mkv (.int .i64 r)/\h'= [])):bL P (aqb f g n cmp):=by
 refine⟨hgo,λv r hF=> ?_⟩
 obtain⟨v1,xs,c,u⟩:=v
 change ((abX (cmp c) xs).bind λl=>some (l,c))=some r at hF
 obtain⟨l,h1,h2⟩:=GY hF
 obtain rfl:=Option.some.inj h2
 have key:=aiD L eg hg xs l c h1
 rw [hf]at key
 exact key
end
end Go.AM
namespace Go.AM
open Go Go.RowKit Go.CP Go.Sort Go.Proofs Go.Shelf
def plV:CV->Value
 | .val v=>v
 |_=>undef
def plE (m:N) (x:T m):List Value:=(Jz m x).map plV
theorem Wy [Fuel] (m:N) (x:T m):(plE m x).length=wdN m:=by unfold plE;rw [List.length_map,Yu]
section
variable {P:Program} {ρ:Ren}
theorem af9 [Fuel] (L:SlLaysF0.n6 P ρ) {m:N} (hm0:0<wdN m) (aE:∀w,(isAgg (ρ.t 24)).run P w= .ok true w) (zE:∀w,(Go.sizeOf (ρ.t 24)).run P w= .ok (wdN m) w) (hpl:∀x:T m,Jz m x=(plE m x).map .val) (aiC:∀x:T m,∀v∈plE m x,v.oneCell'=true)
  {g:Nat} {xs:List (T m)} (cf:T m->T m->Int) (hO:apx (ltOf cf) xs) (hlen:xs.length<4611686018427387904)
  (eg:∀args w,(callFunc g args).run P w= .ok (.enter g args) w)
  (hg:∀x∈xs,∀y∈xs, @Jb adq P g [.one (.agg ((Jz m x).map .c)),.one (.agg ((Jz m y).map .c))] [] (λr h=>r=mkv (.int .i64 (cf x y))/\h= [])):
  Jb P (ρ.f 6) [.one (.s (.own 0)),.one (.s (.fn g []))] [.arr (wdN m) xs.length (fE (.n m) xs)]
   (λr h=>r= .tup []/\h= [.arr (wdN m) xs.length (fE (.n m) (xs.mergeSort λx y=> !ltOf cf y x))]):=by
 intro X w mm0 vs H ha
 obtain⟨v0,v1,rfl,h0,h1⟩:=ha.two
 change lU w mm0 _ (.own 0) v0 at h0
 change lU w mm0 _ (.fn g []) v1 at h1
 obtain⟨l,z0,lz,⟨ln,lc⟩,lb,hblk⟩:∃l,mm0 0=some l/\l.z=wdN m/\(l.n=xs.length/\xs.length<=l.cap)/\(l.blk=none->l.cap=0)∧∀b,l.blk=some b->l.base=some ⟨b,0,none⟩∧
   ∃T vs,w.heap[b]? =some (.cells vs T (0,0))/\vs.size=l.cap*wdN m/\(∀i,i<vs.size->(vs.getD i undef).oneCell'=true)∧
    ∀i,i<xs.length->(fE (.n m) xs i).length=wdN m∧∀(j:Nat) x,(fE (.n m) xs i)[j]? =some x->OZ w (MX X mm0 [.arr (wdN m) xs.length (fE (.n m) xs)]) x (vs.getD (i*wdN m+j) undef):=by
  obtain⟨l,a1,a2,a3,a4,a5⟩:=H.obj 0 _ rfl
  exact⟨l,a1,a2,a3,a4,a5⟩
 cases h0 with
 |own _ l' hl'=>
 rw [z0]at hl';cases hl'
 cases h1 with
 |fn _ _ cb hcs hcap=>
 have asc:cb= #[]:=Array.size_eq_zero_iff.1 hcs
 subst asc
 show Calls P (ρ.f 6) #[_,_] w _
 rw [ln]
 cases xs with
 |nil=>
  have e0:(([]:List (T m)).mergeSort λx y=> !ltOf cf y x)= []:=by simp
  rw [e0]
  refine(AnyF.slices_SortFunc_none (P:=P) (ρ:=ρ) L l.base l.cap _ w).mono ?_
  rintro e w' ⟨rfl,rfl⟩
  exact⟨.tuple #[],.tup [],_,mm0,rfl,⟨rfl,rfl⟩,H,⟨#[],rfl,rfl,λi a h=>by simp at h⟩,⟨rfl,rfl,UG.same _,Nat.le_refl _,λ_ _ _=>rfl⟩,λb hb=> .inl hb,λj l _ h=>h⟩
 |cons x0 xr=>
 generalize hxs:x0::xr=xs at*
 have hne:xs≠ []:=by rw [<-hxs];simp
 have hpos:0<xs.length:=List.length_pos_iff.2 hne
 obtain⟨b,hlb⟩:∃b,l.blk=some b:=by
  cases hq:l.blk with
  |some b=>exact⟨b,rfl⟩
  |none=>have:=lb hq;omega
 obtain⟨hbase,Tb,bs,hb,hbs,hone,hcell⟩:=hblk b hlb
 rw [hbase]
 have hbl:b<w.heap.size:=lt_of_block hb
 have hget:∀i (hi:i<xs.length),xs.getD i default=xs[i]:=λi hi=>by simp [List.getD_eq_getElem?_getD,hi]
 have hval:∀i j,i<xs.length->j<wdN m->bs.getD (i*wdN m+j) undef=(plE m (xs.getD i default))[j]! :=by
  intro i j hi hj
  have hl:=Wy m (xs.getD i default)
  have e1:(fE (.n m) xs i)[j]? =some (.val ((plE m (xs.getD i default))[j]!)):=by
   show(Jz m (xs.getD i default))[j]? =_
   rw [hpl,List.getElem?_map,List.getElem?_eq_getElem (by omega)]
   rw [getElem!_pos _ _ (by omega)];rfl
  have:=(hcell i hi).2 j _ e1
  generalize bs.getD (i*wdN m+j) undef=u at this
  cases this with
  |val v=>rfl
 haveI:Inhabited {x:T m // x∈xs}:=⟨⟨x0,by rw [<-hxs];simp⟩⟩
 obtain⟨en,hen⟩:∃en:{x:T m // x∈xs}->List Value,en=λx=>plE m x.1:=⟨_,rfl⟩
 obtain⟨cf',hcf⟩:∃cf':{x:T m // x∈xs}->{x:T m // x∈xs}->Int,cf'=λx y=>cf x.1 y.1:=⟨_,rfl⟩
 obtain⟨d,hd⟩:∃d:Array {x:T m // x∈xs},d=xs.attach.toArray:=⟨_,rfl⟩
 have akK:∀x y,ltOf cf' x y=ltOf cf x.1 y.1:=λx y=>by rw [hcf];rfl
 have hds:d.size=xs.length:=by rw [hd];simp
 have hdi:∀j,j<xs.length->(d[j]!).1=xs.getD j default:=by
  intro j hj
  rw [getElem!_pos d j (by rw [hds];exact hj)]
  subst hd
  simp [List.getD_eq_getElem?_getD,hj]
 have hO':SWO (ltOf cf'):=⟨λx=>by rw [akK];exact hO.irr x.1 x.2,λx y z=>by simp only [akK];exact hO.tr x.1 x.2 y.1 y.2 z.1 z.2,λx y z=>by simp only [akK];exact hO.nt x.1 x.2 y.1 y.2 z.1 z.2⟩
 have hT':∀x y,ltOf cf' x y=false->ltOf cf' y x=false->x=y:=λx y h1 h2=>by rw [akK]at h1 h2;exact Subtype.ext (hO.tot x.1 x.2 y.1 y.2 h1 h2)
 have aji:∀x,en x=plE m x.1:=λx=>by rw [hen]
 have hkk:∀x,(en x).length=wdN m:=λx=>by rw [aji,Wy]
 have hk1:∀x,∀v∈en x,v.oneCell'=true:=λx=>by rw [aji];exact aiC x.1
 have hdm:∀t,t<xs.length*wdN m->t / wdN m<xs.length/\t%wdN m<wdN m/\t / wdN m*wdN m+t%wdN m=t:=by
  intro t ht
  refine⟨Nat.div_lt_of_lt_mul (by rw [Nat.mul_comm];exact ht),Nat.mod_lt _ hm0,?_⟩
  rw [Nat.mul_comm];exact Nat.div_add_mod t (wdN m)
 have aou:∀(dk:Array {x:T m // x∈xs}),dk.size=xs.length→∀i j,i<xs.length->j<wdN m->(flatK en (wdN m) dk)[i*wdN m+j]! =(plE m (dk[i]!).1)[j]! :=by
  intro dk hdk i j hi hj
  have ht:i*wdN m+j<dk.size*wdN m:=by
   rw [hdk]
   have:i*wdN m+wdN m<=xs.length*wdN m:=by rw [<-Nat.succ_mul];exact Nat.mul_le_mul_right _ hi
   omega
  rw [get_flatK en (wdN m) dk _ ht,aji]
  have e1:(i*wdN m+j) / wdN m=i:=by
   rw [Nat.mul_comm,Nat.mul_add_div hm0,Nat.div_eq_of_lt hj];omega
  have e2:(i*wdN m+j)%wdN m=j:=by
   rw [Nat.mul_comm,Nat.mul_add_mod,Nat.mod_eq_of_lt hj]
  rw [e1,e2]
 have hH:HoldsK en (wdN m) w b 0 d:=by
  intro t ht
  rw [size_flatK,hds]at ht
  obtain⟨q1,q2,q3⟩:=hdm t ht
  have ht2:t<bs.size:=by
   rw [hbs]
   have:xs.length*wdN m<=l.cap*wdN m:=Nat.mul_le_mul_right _ lc
   omega
  constructor
  ·unfold World.cell?
   simp only [hb,Nat.zero_add]
   have e1:=hval _ _ q1 q2
   rw [q3]at e1
   have e3:=aou d hds _ _ q1 q2
   rw [q3,hdi _ q1]at e3
   rw [Array.getElem?_eq_getElem ht2]
   have e2:bs.getD t undef=bs[t]:=by simp [Array.getD,ht2]
   rw [e2]at e1
   rw [e1,<-e3];rfl
  ·unfold World.frozen?
   simp [hb]
 have RI:∀bb,Mut mm0 [.arr (wdN m) xs.length (fE (.n m) xs)] bb ↔ bb=b:=by
  intro bb
  constructor
  ·rintro⟨k,o,lk,hk,ho,hm,hbk⟩
   match k,hk with
   |0,hk=>rw [z0]at hm;cases hm;rw [hlb]at hbk;cases hbk;rfl
   |k+1,hk=>simp at hk
  ·rintro rfl
   exact⟨0,_,l,rfl,trivial,z0,hlb⟩
 have aev:∀(mm:Nat) (os:Array Obj) (dk:Array {x:T m // x∈xs}) (bb:Nat),bb<w.heap.size->bb≠b->(sortWorldK en (wdN m) w b 0 mm dk os).heap[bb]? =w.heap[bb]? :=by
  intro mm os dk bb hbb hne'
  show((mapBlock (Sort.ahead w mm) b _).heap++os)[bb]? =_
  rw [Array.getElem?_append_left (by simpa [mapBlock,Sort.ahead]using hbb)]
  simp [mapBlock,Sort.ahead,Array.getElem?_modify,Ne.symm hne']
 have hszW:∀(mm:Nat) (os:Array Obj) (dk:Array {x:T m // x∈xs}),w.heap.size<=(sortWorldK en (wdN m) w b 0 mm dk os).heap.size:=by
  intro mm os dk
  show _<=((mapBlock (Sort.ahead w mm) b _).heap++os).size
  simp [mapBlock,Sort.ahead]
 let X':Mu:=λbb=>X bb\/bb=b
 have aqc:∀(W:World) (M:Mu) (x:T m),UF W (λ_=>none) M ((Jz m x).map .c) (plE m x).toArray:=by
  intro W M x
  refine⟨by simp [Wy,Yu],λi y hy=> ?_⟩
  rw [hpl,List.map_map,List.getElem?_map]at hy
  cases hq:(plE m x)[i]? with
  |none=>rw [hq]at hy;cases hy
  |some v=>
   rw [hq]at hy;cases hy
   have hi:=aR hq
   have:((plE m x).toArray).getD i undef=v:=by rw [jw,hq];rfl
   rw [this]
   exact .c (.val v)
 have hcmp:CmpLays P g #[] en (wdN m) cf' b 0 d.size w:=by
  intro mm os dk _ x y
  have hW:=hg x.1 x.2 y.1 y.2 X' (sortWorldK en (wdN m) w b 0 mm dk os) (λ_=>none) [.agg (plE m x.1).toArray,.agg (plE m y.1).toArray]
   ⟨λk o hk=>by simp at hk,λk k' o o' l l' b hk=>by simp at hk,λ_ _=>rfl,λbb ⟨k,o,l,hk,_⟩=>by simp at hk,λbb hbb=>by
    rcases hbb with h|rfl
    ·exact Nat.lt_of_lt_of_le (H.xlt bb h) (hszW mm os dk)
    ·exact Nat.lt_of_lt_of_le hbl (hszW mm os dk)⟩
   (.cons ⟨_,rfl,aqc _ _ _⟩ (.cons ⟨_,rfl,aqc _ _ _⟩ .nil))
  have ea:(#[Value.agg (en x).toArray,.agg (en y).toArray]++ #[]:Array Value)= [Value.agg (plE m x.1).toArray,.agg (plE m y.1).toArray].toArray:=by rw [aji,aji];rfl
  rw [ea]
  refine Calls.mono hW ?_
  rintro e w' ⟨v,r,h',m',rfl,⟨rfl,rfl⟩,_,Cz,⟨f1,f2,f3,f4,f5⟩,_⟩
  refine⟨?_,abH f1 f2 f3 f4 (λbb hbb=>f5 bb hbb (by rintro⟨k,o,l,hk,_⟩;simp at hk))⟩
  change lU _ _ _ (.c (.val (.int .i64 (cf x.1 y.1)))) v at Cz
  cases Cz with
  |c h=>cases h with|val _=>rw [hcf]
 have hS:=AnyQ.slices_SortFunc_total L (wdN m) aE zE en hkk hk1 cf' hO' g #[] b 0 l.cap d w eg hcmp hH hbl (by rw [hds];exact hlen) hT'
 rw [hds]at hS
 refine hS.mono ?_
 rintro e w' ⟨rfl,mm,os,rfl⟩
 have hmap:((d.toList.mergeSort λx y=> !ltOf cf' y x).map (·.1))=xs.mergeSort λx y=> !ltOf cf y x:=by
  rw [List.map_mergeSort (r:=λx y=> !ltOf cf' y x) (s:=λx y=> !ltOf cf y x) (f:=λx:{x:T m // x∈xs}=>x.1) (λa _ b _=>by rw [akK])]
  congr 1
  rw [hd];simp
 generalize hd':(d.toList.mergeSort λx y=> !ltOf cf' y x).toArray=d' at*
 have asg:d'.toList.map (·.1)=xs.mergeSort λx y=> !ltOf cf y x:=by rw [<-hd'];simpa using hmap
 have apr:d'.size=xs.length:=by rw [<-hd'];simp [hds]
 have hdv:∀i,i<xs.length->(d'[i]!).1=(xs.mergeSort λx y=> !ltOf cf y x).getD i default:=by
  intro i hi
  rw [<-asg,getElem!_pos d' i (by omega)]
  simp [List.getD_eq_getElem?_getD,show i<d'.size by omega]
 have hWb:(sortWorldK en (wdN m) w b 0 mm d' os).heap[b]? =some (.cells (putCells id 0 (flatK en (wdN m) d') bs) Tb (0,0)):=by
  have e1:(sortWorldK en (wdN m) w b 0 mm d' os).heap=(putRow id (Sort.ahead w mm) b 0 (flatK en (wdN m) d')).heap++os:=rfl
  rw [e1,Array.getElem?_append_left (by simpa [putRow,mapBlock,Sort.ahead]using hbl)]
  simp only [putRow,mapBlock,Sort.ahead,Array.getElem?_modify,if_true,hb]
  rfl
 have atB:=aev mm os d'
 have hsz0:=hszW mm os d'
 have hos0:(sortWorldK en (wdN m) w b 0 mm d' os).os=w.os/\(sortWorldK en (wdN m) w b 0 mm d' os).tape=w.tape/\UG w (sortWorldK en (wdN m) w b 0 mm d' os):=⟨rfl,rfl,rfl,λ_=>Nat.le_add_right _ _⟩
 generalize sortWorldK en (wdN m) w b 0 mm d' os=W at hWb atB hsz0 hos0⊢
 have afO:∀(f:Nat->List CV) bb,Mut mm0 [.arr (wdN m) xs.length f] bb ↔ bb=b:=by
  intro f bb
  constructor
  ·rintro⟨k,o,lk,hk,ho,hm,hbk⟩
   match k,hk with
   |0,hk=>rw [z0]at hm;cases hm;rw [hlb]at hbk;cases hbk;rfl
   |k+1,hk=>simp at hk
  ·rintro rfl
   exact⟨0,_,l,rfl,trivial,z0,hlb⟩
 refine⟨.tuple #[],.tup [],_,mm0,rfl,⟨rfl,rfl⟩,⟨λk o hk=> ?_,λk k' o o' lk lk' bb hk hk' ho ho' hm hm' hbk hbk'=> ?_,λk hk=>H.used k (by simpa using hk),λbb hbb=> ?_,λbb hbb=>Nat.lt_of_lt_of_le (H.xlt bb hbb) hsz0⟩,⟨#[],rfl,rfl,λi a h=>by simp at h⟩,⟨hos0.1,hos0.2.1,hos0.2.2,hsz0,λbb hbb hM=>atB bb hbb (λe=>hM ((RI _).2 e))⟩,λbb hbb=> .inl ?_,λj l _ h=>h⟩
 ·match k,hk with
  | 0,hk=>
   cases hk
   refine⟨l,z0,lz,⟨ln,lc⟩,lb,λbb hbb=> ?_⟩
   rw [hlb]at hbb;cases hbb
   refine⟨hbase,Tb,_,hWb,?_,λi hi=> ?_,λi hi=>⟨?_,λj z hz=> ?_⟩⟩
   ·simp [putCells];omega
   ·have hi2:i<bs.size:=by simpa [putCells]using hi
    have:(putCells id 0 (flatK en (wdN m) d') bs).getD i undef=if i<d'.size*wdN m then(flatK en (wdN m) d')[i]! else bs[i]:=by simp [putCells,Array.getD,hi2]
    rw [this]
    split
    ·rename_i hq
     rw [apr]at hq
     obtain⟨q1,q2,q3⟩:=hdm i hq
     have e3:=aou d' apr _ _ q1 q2
     rw [q3]at e3
     rw [e3]
     have hl:=Wy m (d'[i / wdN m]!).1
     rw [getElem!_pos _ _ (by omega)]
     exact aiC _ _ (List.getElem_mem _)
    ·have:=hone i hi2
     simpa [Array.getD,hi2]using this
   ·exact Yu m _
   ·have hz':(Jz m ((xs.mergeSort λx y=> !ltOf cf y x).getD i default))[j]? =some z:=hz
    rw [hpl,List.getElem?_map]at hz'
    cases hq:(plE m ((xs.mergeSort λx y=> !ltOf cf y x).getD i default))[j]? with
    |none=>rw [hq]at hz';cases hz'
    | some v=>
     rw [hq]at hz';cases hz'
     have hj:j<wdN m:=by have:=aR hq;rw [Wy]at this;exact this
     have hlt:i*wdN m+j<d'.size*wdN m:=by
      rw [apr]
      have:i*wdN m+wdN m<=xs.length*wdN m:=by rw [<-Nat.succ_mul];exact Nat.mul_le_mul_right _ hi
      omega
     have hi2:i*wdN m+j<bs.size:=by
      rw [hbs]
      have:xs.length*wdN m<=l.cap*wdN m:=Nat.mul_le_mul_right _ lc
      rw [apr]at hlt
      omega
     have:(putCells id 0 (flatK en (wdN m) d') bs).getD (i*wdN m+j) undef=(flatK en (wdN m) d')[i*wdN m+j]! :=by
      simp [putCells,Array.getD,hi2,hlt]
     rw [this,aou d' apr i j hi hj,hdv i hi]
     have hv:(plE m ((xs.mergeSort λx y=> !ltOf cf y x).getD i default))[j]! =v:=by
      have hl:=Wy m ((xs.mergeSort λx y=> !ltOf cf y x).getD i default)
      rw [getElem!_pos _ _ (by omega)]
      rw [List.getElem?_eq_getElem (by omega)]at hq
      exact Option.some.inj hq
     rw [hv]
     exact .val v
  |k+1,hk=>simp at hk
 ·match k,k',hk,hk' with
  |0,0,_,_=>rfl
  |k+1,_,hk,_=>simp at hk
  |_,k'+1,_,hk'=>simp at hk'
 ·exact H.adA bb ((RI _).2 ((afO _ _).1 hbb))
 ·exact(RI _).2 ((afO _ _).1 hbb)
def aqd (f g:Nat) (m:N) (cmp:T m->T m->Option Int):aS:=
 {f:=f,ps:=⟨[(0,.c (.own 0)),(1,.c (.fn g []))],[.ar (.n m)]⟩,rs:=⟨[],[.ar (.n m)]⟩,β:=List (T m),F:=λv=>ajp cmp v.2.1,g:=λr=>((),(r,())),d:=λv=>v.2.1,dk:=true,hd:=λ_ _=>rfl}
theorem amD [Fuel] (L:SlLaysF0.n6 P ρ) {f g:Nat} {m:N} {cmp:T m->T m->Option Int} (hm0:0<wdN m) (aE:∀w,(isAgg (ρ.t 24)).run P w= .ok true w) (zE:∀w,(Go.sizeOf (ρ.t 24)).run P w= .ok (wdN m) w) (hpl:∀x:T m,Jz m x=(plE m x).map .val) (aiC:∀x:T m,∀v∈plE m x,v.oneCell'=true) (hf:ρ.f 6=f)
  (hgo:∀(vs:Array Value) (w:World),(callFunc f vs).run P w= .ok (.enter f vs) w) (eg:∀(vs:Array Value) (w:World),(callFunc g vs).run P w= .ok (.enter g vs) w)
  (hg:∀x y r,cmp x y=some r-> @Jb adq P g [.one (.agg ((Jz m x).map .c)),.one (.agg ((Jz m y).map .c))] [] (λr' h'=>r'=mkv (.int .i64 r)/\h'= [])):bL P (aqd f g m cmp):=by
 refine⟨hgo,λv r hF=> ?_⟩
 obtain⟨v1,xs,u⟩:=v
 change ajp cmp xs=some r at hF
 obtain⟨a1,a2,hO,rfl⟩:=ahS hF
 have key:=af9 L hm0 aE zE hpl aiC (g:=g) (xs:=xs) (λx y=>(cmp x y).getD 0) hO a1 eg (λx hx y hy=>by
  obtain⟨q,hq⟩:=a2 x hx y hy
  have:=hg x y q hq
  rw [hq]
  exact this)
 rw [hf]at key
 refine Jb.mono key ?_
 rintro r' h' ⟨rfl,rfl⟩
 refine⟨rfl,?_⟩
 have hl:List.length (α:=T m) (List.mergeSort (α:=T m) xs λx y=> !ltM cmp y x)=List.length (α:=T m) xs:=List.length_mergeSort _
 show [bF.arr (wdN m) (List.length (α:=T m) xs) (fE (.n m) (List.mergeSort (α:=T m) xs λx y=> !ltM cmp y x))]= [bF.arr (wdN m) (List.length (α:=T m) (List.mergeSort (α:=T m) xs λx y=> !ltM cmp y x)) (fE (.n m) (List.mergeSort (α:=T m) xs λx y=> !ltM cmp y x))]
 rw [hl]
end
end Go.AM
namespace Go.AM
open Go Go.RowKit Go.CP Go.Proofs Go.Shelf
theorem aew [Fuel] {P:Program} {ρ:Ren} (L:SlLaysW.n5 P ρ) (es:List (Value×Value)):Jb P (ρ.f 5) [.one (.s (.mp 0))] [.ms es] (λr h=>r= .one (.s (.mp 1))/\h= [.ms es,.ms es]):=by
  intro X w m vs H ha
  cases ha with
  |cons h0 h1=>
  cases h1 with
  |nil=>
  rename_i v0
  change lU w m _ (.mp 0) v0 at h0
  cases h0 with
  |mp _ b l hk hb=>
  obtain⟨l',b',rows,clock,e1,e2,e3,e4⟩:=H.obj 0 _ rfl
  rw [hk]at e1;cases e1;rw [hb]at e2;cases e2
  show Calls P (ρ.f 5) #[_] w _
  refine(AnyW.maps_Clone L b rows clock w e3).mono λe w' he=> ?_
  obtain⟨rfl,rfl⟩:=he
  obtain⟨H1,hMX,apb⟩:=H.more 1
  have hm1:m 1=none:=H.used 1 (by simp)
  let l1:Loc:=⟨some ⟨w.heap.size,0,none⟩,0,0,some w.heap.size,0⟩
  have S:=Stp.make H1 (id:=1) rfl hm1 none l1 (.ms es) trivial (w':=w.alloc (.map rows clock)) rfl rfl ⟨rfl,λ_=>Nat.le_refl _⟩ (by simp) (λb hb=> .inl (yX w _ b hb))
    (λb hb=>by cases hb;exact .inl (Nat.le_refl _)) (λhLt=>⟨l1,w.heap.size,rows,clock,by simp [Qf],rfl,Mx w _,e4⟩)
  refine⟨_,_,_,Qf m 1 l1,rfl,⟨rfl,rfl⟩,S.rel,lU.mp 1 w.heap.size l1 (by simp [Qf]) rfl,⟨S.os,S.tape,S.output,S.later.size,λb hb hM=>S.keep b hb (λh=>hM ((apb b).1 h))⟩,λb hb=> ?_,λj l hj hl=>S.later.ext j l hl⟩
  rcases S.mt b hb with h|h
  · exact .inl ((apb b).1 h)
  · exact .inr h
def aov (f:Nat):aS:={f:=f,ps:=⟨[(0,.c (.mc 0))],[.ms]⟩,rs:=⟨[(0,.c (.mc 1))],[.ms,.ms]⟩,β:=List (Value×Value)×List (Value×Value),F:=λv=>some (v.2.1,v.2.1),g:=(λr=>(((),()),(r.2,(r.1,())))),d:=λ_=>default}
theorem akL [Fuel] {P:Program} {ρ:Ren} (L:SlLaysW.n5 P ρ) {f:Nat} (hf:ρ.f 5=f) (hgo:∀(vs:Array Value) (w:World),(callFunc f vs).run P w= .ok (.enter f vs) w):bL P (aov f):=by
  refine⟨hgo,λv r h=> ?_⟩
  subst hf
  obtain⟨u,es,u'⟩:=v
  have h:some (es,es)=some r:=h
  cases h
  exact aew L es
theorem aiE [Fuel] {P:Program} {f:FuncId} (hD:¬Dr) (hc:∀(b0 b clock:Nat) (w:World),w.cell? ⟨b0,0,none⟩=some (.map (some b))->w.heap[b]? =some (.map #[] clock)→
      Calls P f #[.pointer (some ⟨b0,0,none⟩)] w λe w'=>e= .returned (.slice none 0 0)/\Below w.heap.size w w') (t:Ty):
    Jb P f [.one (.s (.pb 0 0))] [.box [.mp 1],.ms []] (λr h=>r= .one (.s (.c (.ls t [])))/\h= [.box [.mp 1],.ms []]):=by
  intro X w m vs H ha
  cases ha with
  |cons h0 h1=>
  cases h1 with
  |nil=>
  rename_i v0
  change lU w m _ (.pb 0 0) v0 at h0
  cases h0 with
  |pb _ _ b0 l hk hb=>
  obtain⟨l',b',T,cs,e1,e2,e3,e4,e5⟩:=H.obj 0 _ rfl
  rw [hk]at e1;cases e1;rw [hb]at e2;cases e2
  have hp:=e4.2 0 (.mp 1) rfl
  have hz:0<cs.size:=by have:=e4.1;simp at this;omega
  generalize hv:cs.getD 0 undef=v1 at hp
  cases hp with
  |mp _ b1 l1 hk1 hb1=>
  obtain⟨l',b',rows,clock,q1,q2,q3,q4⟩:=H.obj 1 _ rfl
  rw [hk1]at q1;cases q1;rw [hb1]at q2;cases q2
  have hr:rows= #[]:=by
    have:rows.toList= []:=List.map_eq_nil_iff.1 q4
    simpa using this
  subst hr
  have hcell:w.cell? ⟨b0,0,none⟩=some (.map (some b1)):=by
    rw [cell_of_row w b0 0 cs T _ e3,<-hv]
    simp [Array.getD,hz]
  show Calls P f #[_] w _
  refine(hc b0 b1 clock w hcell q3).mono λe w' he=> ?_
  obtain⟨rfl,hB⟩:=he
  have hLt:Later w m (MX X m [.box [.mp 1],.ms []]) w' m (MX X m [.box [.mp 1],.ms []]):=⟨λ_ _ h=>h,λ_ _ h=>h,λb hb _=>hB.block b hb,hB.size⟩
  have hblk:∀(k:Nat) o l b,[bF.box [.mp 1],.ms []][k]? =some o->m k=some l->l.blk=some b->b<w.heap.size:=by
    intro k o l b ho hm hbk
    match k,ho with
    |0,_=>rw [hk]at hm;cases hm;rw [hb]at hbk;cases hbk;exact(Array.getElem?_eq_some_iff.1 e3).1
    |1,_=>rw [hk1]at hm;cases hm;rw [hb1]at hbk;cases hbk;exact(Array.getElem?_eq_some_iff.1 q3).1
    |k+2,ho=>simp at ho
  refine⟨_,_,_,m,rfl,⟨rfl,rfl⟩,⟨λk o ho=> ?_,H.inj,H.used,H.adA,λb hb=>Nat.lt_of_lt_of_le (H.xlt b hb) hB.size⟩,lU.c (.ls t [] _ (.rd0 _ _ none 0)),⟨hB.os,hB.tape,⟨hB.output,λd=>(hD d).elim⟩,hB.size,λb hb _=>hB.block b hb⟩,λb hb=> .inl hb,λj l _ h=>h⟩
  match k,ho with
  | 0,ho=>
    cases ho
    exact⟨_,b0,T,cs,hk,hb,(hB.block b0 (hblk 0 _ _ _ rfl hk hb)).trans e3,e4.later hLt,e5⟩
  | 1,ho=>
    cases ho
    exact⟨_,b1, #[],clock,hk1,hb1,(hB.block b1 (hblk 1 _ _ _ rfl hk1 hb1)).trans q3,q4⟩
  |k+2,ho=>simp at ho
end Go.AM
namespace Go.AM
open Go Go.CP Go.RowKit
def aqe [Fuel] (X:Mu) (w0:World) (m0:vW) (h:List bF) (R:SV->List bF->Prop) (e:Ending) (w':World):Prop:=
 ∃v r h' m',e= .returned v/\R r h'/\bI X w' m' h'/\nZ w' m' (MX X m' h') r v/\ad2 w0 (Mut m0 h) w'∧
  (∀b,Mut m' h' b->Mut m0 h b\/w0.heap.size<=b)∧∀j l,j<h.length->m0 j=some l->m' j=some l
def wpD [Fuel] (P:Program) (fn:Func) (h:List bF) (R:SV->List bF->Prop) (c:Code) (st:St):Prop:=
 ∀X w0 m0 a w,Rel [] X w0 (Mut m0 h) m0 h.length fn.ntmps st a w->c.wp P (bodyPostD P fn (aqe X w0 m0 h R)) a w
section
variable {P:Program} {fn:Func} {h:List bF} {R:SV->List bF->Prop}
theorem akM [Fuel] {e:Exit} {st:St} {Df:List Deferred} {X:Mu} {w0:World} {m0:vW} {nt:Nat} {a:Act} {w:World} (hq:an6 P h.length fn R e st) (hR:Rel Df X w0 (Mut m0 h) m0 h.length nt st a w):
  ∃v,(results fn a.tmps).run P w= .ok v w/\aqe X w0 m0 h R (.returned v) w:=by
 obtain⟨he,st1,hle,r0,r,h2,src,Z,hr,F,hF,hRr⟩:=hq
 have alO:=hR.le hle
 obtain⟨m',H',hs',hm',hj'⟩:=alO.ex
 obtain⟨v,hrun,Cz⟩:=Y4 (fn:=fn) H' hs' hr
 have hg:=Y3 st1.h
 have E:=ais.refl F hg H'
 exact⟨v,hrun,v,r,h2,Qs m' h2 src,rfl,hRr,F.rel hg E H',hF.sim F hg E H' Cz,alO.frame,λb hb=>hm' b (F.apH hg hb),λj l hj hm=>F.keep hj (hj' j l hj hm)⟩
theorem anA [Fuel] {c:Code} {st st':St} (hle:Le h.length st st') (hw:wpD P fn h R c st'):wpD P fn h R c st:=
 λX w0 m0 a w Rl=>hw X w0 m0 a w (Rl.le hle)
def aqf (N:St->Prop) (Q:Exit->St->Prop):Exit->St->Prop
 | .normal,s=>N s
 |e,s=>Q e s
theorem akN [Fuel] {x y:Code} {st:St} (hx:wpA P fn.ntmps h.length x (aqf (wpD P fn h R y) (an6 P h.length fn R)) st):wpD P fn h R (.seq x y) st:=by
 intro X w0 m0 a w Rl
 refine wp_seq (wp_mono (hx [] X w0 (Mut m0 h) m0 a w Rl) (λe a' w' hq=> ?_))
 obtain⟨s,q,r⟩:=hq
 cases e with
 |normal=>exact q X w0 m0 a' w' r
 |ret=>
  have:=akM q r
  show Leaves P fn a'.tmps _ a'.defers .returning w'
  rw [r.defers];exact this
 |_=>have:=q.1;simp at this
theorem aex [Fuel] {f:FuncId} {c:Code} {args:List SV} (hf:P.funcs[f]? =some fn) (hb:fn.body=some c) (hn:Nat.ble args.length fn.ntmps=true) (hw:wpD P fn h R c ⟨X5 0 args,h⟩):Jb P f args h R:=by
 intro X w m vs H ha
 have hn:=Nat.le_of_ble_eq_true hn
 have hlen:=ha.len
 refine calls_of_wp_defers hf hb ?_
 have hs:Slots w m (MX X m h) fn.ntmps (X5 0 args) {tmps:=vs.toArray++Array.replicate (fn.ntmps - vs.toArray.size) undef,defers:= []}:=by
  refine⟨by simp;omega,λx s hx=> ?_⟩
  obtain⟨_,hx⟩:=UR hx
  simp only [Nat.sub_zero]at hx
  obtain⟨v,hv,Cz⟩:=ha.at x s hx
  refine⟨v,?_,Cz⟩
  have hxl:x<vs.length:=aR hv
  show(vs.toArray++Array.replicate (fn.ntmps - vs.toArray.size) undef)[x]? =some v
  rw [Array.getElem?_append_left (by simpa using hxl)]
  simpa using hv
 exact hw X w m _ w ⟨rfl,⟨rfl,rfl,UG.same _,Nat.le_refl _,λ_ _ _=>rfl⟩,m,H,hs,λb hb=> .inl hb,λ_ _ _ h=>h⟩
theorem akO [Fuel] {id:Nat} {o1 o2:Oper} {t x:Nat} {g:FuncId} {k:Nat} {call:Call} {y:Code} {fg:Func} {cg:Code} {st:St}
  (h1:o1.op= .makeFunc (.func g) #[] #[.tmp x]) (h1g:o1.guard=none) (h1d:o1.dst=some t)
  (h2:o2.op= .defer call) (h2g:o2.guard=none) (h2d:o2.dst=none) (h2c:call.callee= .value (.tmp t)) (h2a:call.args= #[])
  (ht:t<fn.ntmps) (hx:look st.σ x=some (.one (.s (.pb k 0))))
  (hg:P.funcs[g]? =some fg) (hgb:fg.body=some cg) (hgo:∀(vs:Array Value) (w:World),(callFunc g vs).run P w= .ok (.enter g vs) w) (hgn:0<fg.ntmps) (hgr:fg.results= #[])
  (hy:wpA P fn.ntmps st.h.length y (λe s1=>(e= .normal\/e= .ret)∧∃s2,Le st.h.length s1 s2∧
   wpA P fg.ntmps s2.h.length cg (λe3 s3=>(e3= .normal\/e3= .ret)∧∃s4,Le s2.h.length s3 s4/\an6 P h.length fn R .ret ⟨s2.σ,s4.h⟩) ⟨[(0,.one (.s (.pb k 0)))],s2.h⟩) ⟨del st.σ t,st.h⟩)
  (hp:h.length<=st.h.length):wpD P fn h R (.seq (.region id #[o1,o2] false) y) st:=by
 intro X w0 m0 a w Rl
 obtain⟨m,H,hs,hm,hj⟩:=Rl.ex
 obtain⟨v,hv,hsv⟩:=hs.2 x _ hx
 change lU w m (MX X m st.h) (.pb k 0) v at hsv
 cases hsv with
 |pb _ _ b l hk hb=>
 have hev:a.eval (.tmp x)= .pointer (some ⟨b,0,none⟩):=by simp [Act.eval,hv]
 refine wp_seq (wp_region_list ?_)
 refine wpList_step (λK1 hK1=> ?_)
 rw [if_pos (by simp [Region.wanted,h1g])]
 have e1:(execOp a.eval o1).run P w= .ok (.value (.func (.func g) #[] #[.pointer (some ⟨b,0,none⟩)])) w:=by
  simp [execOp,h1,Instr.makeFunc,hev]
 show o1.upon P a K1 _ ((execOp a.eval o1).run P w)
 rw [e1,Oper.upon_value]
 refine hK1 _ _ ?_
 refine wpList_step (λK2 hK2=> ?_)
 rw [if_pos (by simp [Region.wanted,h2g])]
 have hts:t<a.tmps.size:=by rw [hs.1];exact ht
 have arG:(a.put o1.dst (.func (.func g) #[] #[.pointer (some ⟨b,0,none⟩)])).eval (.tmp t)= .func (.func g) #[] #[.pointer (some ⟨b,0,none⟩)]:=by
  rw [h1d];simp [Act.eval,Act.put,hts]
 have e2:(execOp (a.put o1.dst (.func (.func g) #[] #[.pointer (some ⟨b,0,none⟩)])).eval o2).run P w= .ok (.defer {target:= .fn (.func g) #[.pointer (some ⟨b,0,none⟩)],args:= #[]}) w:=by
  simp [execOp,h2,resolve,h2c,h2a,Deferred.ofValue,arG]
 show o2.upon P _ K2 _ ((execOp _ o2).run P w)
 rw [e2,Oper.upon_defer]
 refine hK2 _ _ ?_
 refine wpList_nil ?_
 rw [h2d,h1d]
 generalize hd:({target:= .fn (.func g) #[.pointer (some ⟨b,0,none⟩)],args:= #[]}:Deferred)=d
 generalize ha2:({a.put (some t) (.func (.func g) #[] #[.pointer (some ⟨b,0,none⟩)])with defers:=d::(a.put (some t) (.func (.func g) #[] #[.pointer (some ⟨b,0,none⟩)])).defers}:Act).put none undef=a2
 have hkp:k<st.h.length:=by
  rcases Nat.lt_or_ge k st.h.length with h'|h'
  ·exact h'
  ·rw [H.used k h']at hk;cases hk
 have R2:Rel [d] X w (Mut m st.h) m st.h.length fn.ntmps ⟨del st.σ t,st.h⟩ a2 w:=by
  refine⟨by rw [<-ha2];simp [Act.put,Rl.defers],⟨rfl,rfl,UG.same _,Nat.le_refl _,λ_ _ _=>rfl⟩,m,H,⟨by rw [<-ha2];simp [Act.put,hs.1],λq s hq=> ?_⟩,λb hb=> .inl hb,λ_ _ _ h=>h⟩
  rw [RP]at hq
  split at hq
  ·cases hq
  ·rename_i hne
   obtain⟨u,hu,hsu⟩:=hs.2 q s hq
   refine⟨u,?_,hsu⟩
   rw [<-ha2]
   simp only [Act.put]
   rw [Array.getElem?_setIfInBounds_ne (by exact hne)]
   exact hu
 show y.wp P (bodyPostD P fn (aqe X w0 m0 h R)) a2 w
 refine wp_mono (hy [d] X w (Mut m st.h) m a2 w R2) (λe a3 w3 hq=> ?_)
 obtain⟨s1,⟨he,s2,hle2,hc⟩,R3⟩:=hq
 replace R3:=R3.le hle2
 have key:Leaves P fn a3.tmps (aqe X w0 m0 h R) a3.defers .returning w3:=by
  rw [R3.defers,<-hd]
  obtain⟨m3,H3,hs3,hm3,hj3⟩:=R3.ex
  refine leaves_cons (by simp) (f:=g) (args:= #[.pointer (some ⟨b,0,none⟩)]) (by simpa [invoke]using hgo #[.pointer (some ⟨b,0,none⟩)] w3) ?_
  refine CallsD.mono (callsD_of_wp hg hgb (R:=λe w4=>∃vv,e= .returned vv/\Leaves P fn a3.tmps (aqe X w0 m0 h R) [] .returning w4) ?_) ?_
  ·have Rc:Rel [] X w3 (Mut m3 s2.h) m3 s2.h.length fg.ntmps ⟨[(0,.one (.s (.pb k 0)))],s2.h⟩ {tmps:= #[.pointer (some ⟨b,0,none⟩)]++Array.replicate (fg.ntmps - #[Value.pointer (some ⟨b,0,none⟩)].size) undef,defers:= []} w3:=by
    refine⟨rfl,⟨rfl,rfl,UG.same _,Nat.le_refl _,λ_ _ _=>rfl⟩,m3,H3,⟨by simp;omega,λq s hq=> ?_⟩,λb hb=> .inl hb,λ_ _ _ h=>h⟩
    simp only [look]at hq
    cases hb0:Nat.beq 0 q with
    |false=>rw [hb0]at hq;cases hq
    |true=>
     rw [hb0]at hq;cases hq
     have:=Nat.eq_of_beq_eq_true hb0
     subst this
     exact⟨.pointer (some ⟨b,0,none⟩),by rw [Array.getElem?_append_left (by simp)];rfl,lU.pb k 0 b l (hj3 k l hkp hk) hb⟩
   refine wp_mono (hc [] X w3 (Mut m3 s2.h) m3 _ w3 Rc) (λe4 a4 w4 hq=> ?_)
   obtain⟨s3',⟨he4,s3,auc,hret⟩,R4⟩:=hq
   replace R4:=R4.le auc
   have hres:(results fg a4.tmps).run P w4= .ok (.tuple #[]) w4:=by simp [results,hgr]
   obtain⟨m4,H4,_,hm4,hj4⟩:=R4.ex
   have hLt:Later w3 m3 (MX X m3 s2.h) w4 m4 (MX X m4 s3.h):=by
    refine⟨λq l hq=> ?_,λb hb hM hM'=> ?_,λb hb hM=>R4.frame.keep b hb (λhM'=>hM (.inr hM')),R4.frame.size⟩
    ·rcases Nat.lt_or_ge q s2.h.length with h'|h'
     ·exact hj4 q l h' hq
     ·rw [H3.used q h']at hq;cases hq
    ·rcases hM' with hM'|hM'
     ·exact hM (.inl hM')
     ·rcases hm4 b hM' with h1|h1
      ·exact hM (.inr h1)
      ·omega
   have fr:ad2 w0 (Mut m0 h) w4:=by
    refine⟨by rw [R4.frame.os,R3.frame.os,Rl.frame.os],by rw [R4.frame.tape,R3.frame.tape,Rl.frame.tape],(Rl.frame.output.trans R3.frame.output).trans R4.frame.output,Nat.le_trans Rl.frame.size (Nat.le_trans R3.frame.size R4.frame.size),λb hb hM=> ?_⟩
    have hb1:b<w.heap.size:=Nat.lt_of_lt_of_le hb Rl.frame.size
    have hb3:b<w3.heap.size:=Nat.lt_of_lt_of_le hb1 R3.frame.size
    have n1:¬Mut m st.h b:=λh1=>by rcases hm b h1 with h2|h2;exact hM h2;omega
    have n3:¬Mut m3 s2.h b:=λh1=>by rcases hm3 b h1 with h2|h2;exact n1 h2;omega
    rw [R4.frame.keep b hb3 n3,R3.frame.keep b hb1 n1,Rl.frame.keep b hb hM]
   have R5:Rel [d] X w0 (Mut m0 h) m0 h.length fn.ntmps ⟨s2.σ,s3.h⟩ a3 w4:=by
    refine⟨R3.defers,fr,m4,H4,⟨hs3.1,λq s hq=>let⟨u,hu,hsu⟩:=hs3.2 q s hq;⟨u,hu,hsu.later hLt⟩⟩,λb hb=> ?_,λj l hp' h0=> ?_⟩
    ·rcases hm4 b hb with h1|h1
     ·rcases hm3 b h1 with h2|h2
      ·rcases hm b h2 with h3|h3
       ·exact .inl h3
       ·exact .inr h3
      ·exact .inr (Nat.le_trans Rl.frame.size h2)
     ·exact .inr (Nat.le_trans Rl.frame.size (Nat.le_trans R3.frame.size h1))
    ·have q1:j<st.h.length:=Nat.lt_of_lt_of_le hp' hp
     have q2:=hj3 j l q1 (hj j l hp' h0)
     exact hLt.ext j l q2
   have fin:=akM hret R5
   rcases he4 with rfl|rfl
   ·exact⟨R4.defers,_,hres,_,rfl,fin⟩
   ·exact⟨R4.defers,_,hres,_,rfl,fin⟩
  ·rintro e u' w4 ⟨rfl,vv,rfl,hL⟩
   exact hL
 rcases he with rfl|rfl
 ·exact key
 ·exact key
end
end Go.AM
namespace Go.AM
open Go Go.RowKit Go.CP
inductive AnD (β:Type) where
 |two (a:An β) (b:AnD β)
 |dist (a1 a2:An β) (b1 b2:AnD β)
 |df (sh:Shape) (J:sh.V->Option β) (t k:Nat) (b:An β)
def aga:Exit->Bool
 | .normal=>true
 | .ret=>true
 |_=>false
theorem abI [Fuel] {e:Exit} (h:aga e=true):e= .normal\/e= .ret:=by cases e<;>first|exact .inl rfl|exact .inr rfl|cases h
def abJ [Fuel] {β:Type} (C:Cx) (ntg:Nat) (cg:Code) (k:Nat) (kr:Exit->TS->Option β):Exit->TS->Option β:=λe ts2=>
 bif aga e then exec ⟨C.P,ntg,C.tm,C.T,C.V⟩ ts2.n cg .z ⟨[(0,.one (.s (.pb k 0)))],ts2.h,ts2.n⟩ (λe3 ts3=>bif aga e3 then kr .ret ⟨ts2.σ,ts3.h,ts3.n⟩else none)else none
section
variable {β:Type} (C:Cx) (p:Nat) (ntg:Nat) (cg:Code) (kr:Exit->TS->Option β)
def MC [Fuel]:Code->AnD β->TS->Option β
 | .seq (.seq (.region id ops any) (.cond c x y)) z,.dist a1 a2 b1 b2,ts=>aaC C [] id ops any ts λts=>match boolT ts c with
  |some t=>bif t then exec C p x a1 ts (G8 (λts'=>MC z b1 ts') kr)else exec C p y a2 ts (G8 (λts'=>MC z b2 ts') kr)
  |none=>none
 | .seq x y,.two a b,ts=>exec C p x a ts (G8 (λts'=>MC y b ts') kr)
 | .seq x y,.df sh J t k b,ts=>ahj p sh J ts
 |_,_,_=>none
abbrev ash (x:Code) (sh:Shape) (t k:Nat):Prop:=
 ∃id o1 o2 xs g call fg,x= .region id #[o1,o2] false/\o1.op= .makeFunc (.func g) #[] #[.tmp xs]/\o1.guard=none/\o1.dst=some t/\o2.op= .defer call/\o2.guard=none/\o2.dst=none∧
  call.callee= .value (.tmp t)/\call.args= #[]/\t<C.nt/\(∀v:sh.V,look (enc sh v).σ xs=some (.one (.s (.pb k 0))))/\C.P.funcs[g]? =some fg/\fg.body=some cg∧
  (∀(vs:Array Value) (w:World),(callFunc g vs).run C.P w= .ok (.enter g vs) w)/\fg.ntmps=ntg/\0<ntg/\fg.results= #[]
def validD [Fuel]:Code->AnD β->Prop
 | .seq (.seq (.region id ops any) (.cond c x y)) z,.dist a1 a2 b1 b2=>(valid C p x a1 (G8 (λts'=>MC C p kr z b1 ts') kr)/\validD z b1)/\(valid C p y a2 (G8 (λts'=>MC C p kr z b2 ts') kr)/\validD z b2)
 | .seq x y,.two a b=>valid C p x a (G8 (λts'=>MC C p kr y b ts') kr)/\validD y b
 | .seq x y,.df sh J t k b=>ash C ntg cg x sh t k/\p<=sh.objs.length/\valid C sh.objs.length y b (abJ C ntg cg k kr)∧∀v,J v=exec C sh.objs.length y b ⟨del (enc sh v).σ t,(enc sh v).h,(enc sh v).n⟩ (abJ C ntg cg k kr)
 |_,_=>False
end
theorem amE [Fuel] {β:Type} {C:Cx} {fn:Func} {h:List bF} {R:SV->List bF->Prop} {ntg:Nat} {cg:Code} {kr:Exit->TS->Option β} {res:β} (hT:∀S∈C.T,bL C.P S) (hnt:C.nt=fn.ntmps)
  (hkr:∀e ts st,kr e ts=some res->ts.ok->Le h.length st ts.er->an6 C.P h.length fn R e st):
  ∀(c:Code) {an:AnD β} {ts:TS},validD C h.length ntg cg kr c an->ts.ok->MC C h.length kr c an ts=some res->wpD C.P fn h R c ts.er:=by
 intro c
 have conv:∀(x z:Code) (a:An β) (b:AnD β),(∀{ts:TS},validD C h.length ntg cg kr z b->ts.ok->MC C h.length kr z b ts=some res->wpD C.P fn h R z ts.er)->valid C h.length x a (G8 (λts'=>MC C h.length kr z b ts') kr)->validD C h.length ntg cg kr z b→
   ∀ts:TS,ts.ok->exec C h.length x a ts (G8 (λts'=>MC C h.length kr z b ts') kr)=some res->wpA C.P fn.ntmps h.length x (aqf (wpD C.P fn h R z) (an6 C.P h.length fn R)) ts.er:=by
  intro x z a b ih v1 v2 ts hok e
  rw [<-hnt]
  refine uO (rZ hT x v1 hok e) (λex st hp=> ?_)
  obtain⟨ts',h1,h2,h3⟩:=hp
  cases ex with
  |normal=>exact anA h3 (ih v2 h2 h1)
  |_=>exact hkr _ ts' st h1 h2 h3
 induction c with
 | seq x y _ ihy=>
  intro an ts hv hok e
  cases an with
  | two a b=>
   have hv:valid C h.length x a (G8 (λts'=>MC C h.length kr y b ts') kr)/\validD C h.length ntg cg kr y b:=
    (by cases x with|seq r x=>(cases r with|region _ _ _=>(cases x<;>exact hv)|_=>exact hv)|_=>exact hv)
   have e:exec C h.length x a ts (G8 (λts'=>MC C h.length kr y b ts') kr)=some res:=
    (by cases x with|seq r x=>(cases r with|region _ _ _=>(cases x<;>exact e)|_=>exact e)|_=>exact e)
   exact akN (conv x y a b ihy hv.1 hv.2 ts hok e)
  | dist a1 a2 b1 b2=>
   cases x with
   | seq r x=>
    cases r with
    | region id ops any=>
     cases x with
     | cond c x1 x2=>
      have hv:(valid C h.length x1 a1 (G8 (λts'=>MC C h.length kr y b1 ts') kr)/\validD C h.length ntg cg kr y b1)/\(valid C h.length x2 a2 (G8 (λts'=>MC C h.length kr y b2 ts') kr)/\validD C h.length ntg cg kr y b2):=hv
      have e:aaC C [] id ops any ts (λts=>match boolT ts c with
       |some t=>bif t then exec C h.length x1 a1 ts (G8 (λts'=>MC C h.length kr y b1 ts') kr)else exec C h.length x2 a2 ts (G8 (λts'=>MC C h.length kr y b2 ts') kr)
       |none=>none)=some res:=e
      refine akN (TY ?_)
      rw [<-hnt]
      refine uO (acD hT hok e) (λex st hp=> ?_)
      obtain⟨rfl,ts1,e,hok1,hle⟩:=hp
      show wpA C.P C.nt h.length (.cond c x1 x2) _ st
      cases hb:boolT ts1 c with
      |none=>rw [hb]at e;cases e
      |some t=>
       rw [hb]at e
       refine K8 hle (UQ (U5 hb) (λht=> ?_) (λht=> ?_))
       ·subst ht;rw [hnt];exact conv x1 y a1 b1 ihy hv.1.1 hv.1.2 ts1 hok1 e
       ·subst ht;rw [hnt];exact conv x2 y a2 b2 ihy hv.2.1 hv.2.2 ts1 hok1 e
     |_=>exact hv.elim
    |_=>exact hv.elim
   |_=>exact hv.elim
  | df sh J t k b=>
   have hv:ash C ntg cg x sh t k/\h.length<=sh.objs.length/\valid C sh.objs.length y b (abJ C ntg cg k kr)∧∀v,J v=exec C sh.objs.length y b ⟨del (enc sh v).σ t,(enc sh v).h,(enc sh v).n⟩ (abJ C ntg cg k kr):=
    (by cases x with|seq r x=>(cases r with|region _ _ _=>(cases x<;>exact hv)|_=>exact hv)|_=>exact hv)
   have e:ahj h.length sh J ts=some res:=
    (by cases x with|seq r x=>(cases r with|region _ _ _=>(cases x<;>exact e)|_=>exact e)|_=>exact e)
   obtain⟨⟨id,o1,o2,xs,g,call,fg,rfl,q1,q2,q3,q4,q5,q6,q7,q8,q9,q10,q11,q12,q13,q14,q15,q16⟩,aud,v1,v2⟩:=hv
   obtain⟨v,h2,h1⟩:=U6 hok e
   rw [v2 v]at h1
   refine anA h2 ?_
   have hlen:(enc sh v).er.h.length=sh.objs.length:=by simp [TS.er,JI,enc]
   have hok2:(⟨del (enc sh v).σ t,(enc sh v).h,(enc sh v).n⟩:TS).ok:=abA sh v
   refine akO q1 q2 q3 q4 q5 q6 q7 q8 (by rw [<-hnt];exact q9) (q10 v) q11 q12 q13 (by rw [q14];exact q15) q16 ?_ (by rw [hlen];exact aud)
   rw [hlen,<-hnt]
   refine uO (rZ hT y v1 hok2 h1) (λex s1 hp=> ?_)
   obtain⟨ts2,h3,h4,h5⟩:=hp
   have h3:(bif aga ex then exec ⟨C.P,ntg,C.tm,C.T,C.V⟩ ts2.n cg .z ⟨[(0,.one (.s (.pb k 0)))],ts2.h,ts2.n⟩ (λe3 ts3=>bif aga e3 then kr .ret ⟨ts2.σ,ts3.h,ts3.n⟩else none)else none)=some res:=h3
   cases he:aga ex with
   |false=>rw [he]at h3;cases h3
   | true=>
    rw [he]at h3
    simp only [cond_true]at h3
    refine⟨abI he,ts2.er,h5,?_⟩
    have asi:ts2.er.h.length=ts2.n:=by simp [TS.er,JI]
    have aue:(⟨[(0,.one (.s (.pb k 0)))],ts2.h,ts2.n⟩:TS).ok:=h4
    rw [asi,q14]
    refine uO (rZ (C:=⟨C.P,ntg,C.tm,C.T,C.V⟩) hT cg (by cases cg<;>trivial) aue h3) (λe3 s3 hp=> ?_)
    obtain⟨ts3,h6,h7,h8⟩:=hp
    cases he3:aga e3 with
    |false=>simp only [he3]at h6;cases h6
    |true=>
     simp only [he3,cond_true]at h6
     exact⟨abI he3,ts3.er,h8,hkr .ret ⟨ts2.σ,ts3.h,ts3.n⟩ _ h6 h7 (Le.refl _ _)⟩
 |_=>
  intro an ts hv hok e
  cases an<;>exact hv.elim
section
variable {β:Type} {C:Cx} {p ntg:Nat} {cg:Code} {kr:Exit->TS->Option β}
theorem wT [Fuel] {x y:Code} {a:An β} {b:AnD β} (h1:valid C p x a (G8 (λts'=>MC C p kr y b ts') kr)) (h2:validD C p ntg cg kr y b):validD C p ntg cg kr (.seq x y) (.two a b):=
 (by cases x with|seq r x=>(cases r with|region _ _ _=>(cases x<;>exact⟨h1,h2⟩)|_=>exact⟨h1,h2⟩)|_=>exact⟨h1,h2⟩)
theorem wI [Fuel] {id:Nat} {ops:Array Oper} {any:Bool} {c:Operand} {x y z:Code} {a1 a2:An β} {b1 b2:AnD β} (h1:valid C p x a1 (G8 (λts'=>MC C p kr z b1 ts') kr)) (h2:validD C p ntg cg kr z b1)
  (h3:valid C p y a2 (G8 (λts'=>MC C p kr z b2 ts') kr)) (h4:validD C p ntg cg kr z b2):validD C p ntg cg kr (.seq (.seq (.region id ops any) (.cond c x y)) z) (.dist a1 a2 b1 b2):=⟨⟨h1,h2⟩,h3,h4⟩
theorem wF [Fuel] {x y:Code} {sh:Shape} {J:sh.V->Option β} {t k:Nat} {b:An β} (h1:ash C ntg cg x sh t k) (h2:valid C sh.objs.length y b (abJ C ntg cg k kr)) (h3:p<=sh.objs.length:=by exact Nat.le_of_ble_eq_true rfl)
  (h4:∀v,J v=exec C sh.objs.length y b ⟨del (enc sh v).σ t,(enc sh v).h,(enc sh v).n⟩ (abJ C ntg cg k kr):=by intro v;kernel_rfl):validD C p ntg cg kr (.seq x y) (.df sh J t k b):=
 (by cases x with|seq r x=>(cases r with|region _ _ _=>(cases x<;>exact⟨h1,h3,h2,h4⟩)|_=>exact⟨h1,h3,h2,h4⟩)|_=>exact⟨h1,h3,h2,h4⟩)
end
theorem fnD [Fuel] {P:Program} {S:aS} (nt:Nat) (tm:List (Nat×Ty)) (T:List aS) (V:List (Nat×Nat×Nat)) (ntg:Nat) (cg:Code) {fn:Func} (hf:P.funcs[S.f]? =some fn) (u:S.rs.V->S.β) (an:AnD S.β) (hT:∀S∈T,bL P S) {c:Code}
  (hv:validD ⟨P,nt,tm,T,V⟩ S.ps.objs.length ntg cg (ado P S.ps.objs.length S.rs fn.results.toList u) c an)
  (hb:fn.body=some c:=by rfl) (hgo:∀(vs:Array Value) (w:World),(callFunc S.f vs).run P w= .ok (.enter S.f vs) w:=by intro vs w;rfl)
  (hn:(Nat.beq nt fn.ntmps&&Nat.ble S.ps.slots.length fn.ntmps&&wQ 0 S.ps.slots&&wQ 0 S.rs.slots)=true:=by kernel_rfl) (hu:∀v,eSs S.rs.slots (S.g (u v)).1=eSs S.rs.slots v.1/\eOs S.rs.objs (S.g (u v)).2=eOs S.rs.objs v.2:=by intro v;exact⟨by kernel_rfl,by kernel_rfl⟩)
  (hm:∀v,S.F v=MC ⟨P,nt,tm,T,V⟩ S.ps.objs.length (ado P S.ps.objs.length S.rs fn.results.toList u) c an (enc S.ps v):=by intro v;kernel_rfl):bL P S:=by
 simp only [Bool.and_eq_true]at hn
 obtain⟨⟨⟨n1,n2⟩,n3⟩,n4⟩:=hn
 have n1:=Nat.eq_of_beq_eq_true n1
 refine⟨hgo,λv r hF=> ?_⟩
 have hlen:((eOs S.ps.objs v.2).map TO.er).length=S.ps.objs.length:=by simp [LU]
 refine aex hf hb (by rw [List.length_map,Zf];exact n2) ?_
 rw [acH v.1 n3,<-akf]
 rw [hm v]at hF
 refine amE (C:=⟨P,nt,tm,T,V⟩) (kr:=ado P S.ps.objs.length S.rs fn.results.toList u) hT n1 (λe ts st h1 h2 h3=> ?_) c (by rw [hlen];exact hv) (abA S.ps v) (by rw [hlen];exact hF)
 rw [hlen]at h3⊢
 exact ahk (C:=⟨P,nt,tm,T,V⟩) n4 hu h1 h2 h3
end Go.AM
