/-
 DERIVED: THE SHELF's CONTRACTS AT THIS DUMP, IN PLAIN WORDS (tools/lay-plain.mjs out of 'ZzLays16.lean', which tools/lay-shelf.mjs wrote): THE SAME DECLARATIONS UNDER THE SAME NAMES: 'import', 'namespace', 'open', 'def', 'theorem' AND NOTHING ELSE: no command of the shelf's: FOR A HAND-IN. Each laying: the table of numbers ('.._ren') and one theorem, a field a fact of the dump's own or the kernel's comparison; each contract: ONE APPLICATION.
-/
import Derived.Shelf.SlIter.Nil
import Derived.Shelf.SortM.Plain
import Derived.Shelf.SortM.SortNone
import Derived.Shelf.SlMaps.Clone
import Derived.Shelf.SlSortCmp.NoneTotal
import Derived.Test.YtodbmegkcniehaaGreatProg
import Derived.Test.YtodbmegkcniehaaGreatP69223dd3b
set_option linter.unusedVariables false
set_option linter.unusedSimpArgs false
namespace Go.Proofs
open Go.Shelf
def Tryz.afV:Go.Shelf.Ren:=⟨λ|7=>253|10=>313|n=>n,λ|23=>201|26=>9|3=>199|28=>326|0=>0|27=>325|33=>195|4=>4|n=>n,λ|n=>n⟩
theorem Tryz.atM:Go.Proofs.SlLaysZ.n7 Tryz.prog Tryz.afV:={
 mixed:=by kernel_rfl
 f7:=⟨Tryz.f253.name,by decide,Tryz.avG.trans (congrArg some (by kernel_rfl))⟩
 f10:=⟨Tryz.f313.name,by decide,Tryz.arL.trans (congrArg some (by kernel_rfl))⟩
 t0:=Tryz.Oz
 a0:=Tryz.ajn
 z0:=Tryz.adP
 v0:=Tryz.Sz
 t4:=Tryz.JZ
 a4:=Tryz.ajo
 z4:=Tryz.adQ
 v4:=Tryz.SA
 t23:=Tryz.adR
 a23:=Tryz.apm
 z23:=Tryz.anP
 v23:=Tryz.afW
 t26:=Tryz.underlying9
 a26:=Tryz.afX
 z26:=Tryz.aay
 v26:=Tryz.MV
 t27:=Tryz.apn
 a27:=Tryz.auE
 z27:=Tryz.atN
 v27:=Tryz.aqf
 t28:=Tryz.adT
 a28:=Tryz.apo
 z28:=Tryz.anQ
 v28:=Tryz.afY
 t33:=Tryz.apq
 a33:=Tryz.auF
 z33:=Tryz.atO
 v33:=Tryz.aqg}
def Tryz.aaz:Go.Shelf.Ren:=⟨λ|6=>252|8=>311|9=>312|11=>350|13=>198|12=>351|23=>272|24=>273|14=>369|15=>370|16=>371|17=>372|18=>373|19=>374|20=>375|21=>376|22=>377|25=>383|26=>321|27=>322|28=>384|29=>385|30=>386|31=>388|n=>n,λ|26=>9|28=>326|24=>275|0=>0|3=>3|37=>38|48=>176|50=>178|4=>4|40=>332|39=>331|45=>130|5=>5|9=>9|51=>369|55=>157|57=>397|58=>398|33=>195|n=>n,λ|n=>n⟩
theorem Tryz.arM:Go.Proofs.SlLaysZ.n6 Tryz.prog Tryz.aaz:={
 mixed:=by kernel_rfl
 f6:=⟨Tryz.f252.name,by decide,Tryz.avH.trans (congrArg some (by kernel_rfl))⟩
 f8:=⟨Tryz.f311.name,by decide,Tryz.avI.trans (congrArg some (by kernel_rfl))⟩
 f11:=⟨Tryz.aC0.name,by decide,Tryz.avJ.trans (congrArg some (by kernel_rfl))⟩
 t0:=Tryz.Oz
 a0:=Tryz.ajn
 z0:=Tryz.adP
 v0:=Tryz.Sz
 t24:=Tryz.VJ
 a24:=Tryz.ajp
 z24:=Tryz.afZ
 v24:=Tryz.XZ
 t26:=Tryz.underlying9
 a26:=Tryz.afX
 z26:=Tryz.aay
 v26:=Tryz.MV
 t28:=Tryz.adT
 a28:=Tryz.apo
 z28:=Tryz.anQ
 v28:=Tryz.afY
 i26:=by kernel_rfl}
def Tryz.anR:Go.Shelf.Ren:=⟨λ|6=>312|8=>198|9=>351|19=>272|20=>273|21=>369|22=>370|23=>371|24=>372|25=>373|26=>374|27=>375|28=>376|29=>377|36=>383|31=>321|32=>322|37=>384|38=>385|39=>386|41=>388|n=>n,λ|27=>275|29=>9|3=>3|32=>38|26=>275|0=>0|44=>176|46=>178|4=>4|36=>332|35=>331|41=>130|5=>5|9=>9|53=>369|57=>157|63=>397|64=>398|n=>n,λ|n=>n⟩
theorem Tryz.atP:Go.Proofs.SlLaysM.n6 Tryz.prog Tryz.anR:={
 mixed:=by kernel_rfl
 f6:=⟨Tryz.f312.name,by decide,Tryz.arN.trans (congrArg some (by kernel_rfl))⟩
 f8:=Tryz.anS.trans (congrArg some (by kernel_rfl))
 f9:=⟨Tryz.aC1.name,by decide,Tryz.avK.trans (congrArg some (by kernel_rfl))⟩
 f19:=Tryz.anT.trans (congrArg some (by kernel_rfl))
 f20:=Tryz.anU.trans (congrArg some (by kernel_rfl))
 f21:=⟨Tryz.aC2.name,by decide,Tryz.avL.trans (congrArg some (by kernel_rfl))⟩
 f22:=⟨Tryz.aC3.name,by decide,Tryz.avM.trans (congrArg some (by kernel_rfl))⟩
 f23:=⟨Tryz.aC4.name,by decide,Tryz.avN.trans (congrArg some (by kernel_rfl))⟩
 f24:=⟨Tryz.aC5.name,by decide,Tryz.avO.trans (congrArg some (by kernel_rfl))⟩
 f25:=⟨Tryz.aC6.name,by decide,Tryz.avP.trans (congrArg some (by kernel_rfl))⟩
 f26:=⟨Tryz.aC7.name,by decide,Tryz.avQ.trans (congrArg some (by kernel_rfl))⟩
 f27:=⟨Tryz.aC8.name,by decide,Tryz.avR.trans (congrArg some (by kernel_rfl))⟩
 f28:=⟨Tryz.aC9.name,by decide,Tryz.avS.trans (congrArg some (by kernel_rfl))⟩
 f29:=⟨Tryz.aDa.name,by decide,Tryz.avT.trans (congrArg some (by kernel_rfl))⟩
 f31:=Tryz.anV.trans (congrArg some (by kernel_rfl))
 f32:=Tryz.anW.trans (congrArg some (by kernel_rfl))
 f36:=⟨Tryz.aDb.name,by decide,Tryz.avU.trans (congrArg some (by kernel_rfl))⟩
 f37:=⟨Tryz.aDc.name,by decide,Tryz.avV.trans (congrArg some (by kernel_rfl))⟩
 f38:=⟨Tryz.aDd.name,by decide,Tryz.avW.trans (congrArg some (by kernel_rfl))⟩
 f39:=⟨Tryz.aDe.name,by decide,Tryz.avX.trans (congrArg some (by kernel_rfl))⟩
 f41:=⟨Tryz.aDf.name,by decide,Tryz.avY.trans (congrArg some (by kernel_rfl))⟩
 t0:=Tryz.Oz
 a0:=Tryz.ajn
 z0:=Tryz.adP
 v0:=Tryz.Sz
 t3:=Tryz.lJ
 a3:=Tryz.anX
 z3:=Tryz.ahT
 v3:=Tryz.acN
 t4:=Tryz.JZ
 a4:=Tryz.ajo
 z4:=Tryz.adQ
 v4:=Tryz.SA
 t5:=Tryz.underlying5
 a5:=Tryz.aqh
 z5:=Tryz.anY
 v5:=Tryz.acO
 t9:=Tryz.underlying9
 a9:=Tryz.afX
 z9:=Tryz.aay
 v9:=Tryz.MV
 t26:=Tryz.VJ
 a26:=Tryz.ajp
 z26:=Tryz.afZ
 v26:=Tryz.XZ
 t27:=Tryz.VJ
 a27:=Tryz.ajp
 z27:=Tryz.afZ
 v27:=Tryz.XZ
 t29:=Tryz.underlying9
 a29:=Tryz.afX
 z29:=Tryz.aay
 v29:=Tryz.MV
 t32:=Tryz.X0
 a32:=Tryz.anZ
 z32:=Tryz.ajq
 v32:=Tryz.aaA
 t35:=Tryz.VK
 a35:=Tryz.ajr
 z35:=Tryz.af2
 v35:=Tryz.X3
 t36:=Tryz.VL
 a36:=Tryz.ajs
 z36:=Tryz.af3
 v36:=Tryz.X4
 t41:=Tryz.VN
 a41:=Tryz.ajt
 z41:=Tryz.af4
 v41:=Tryz.X5
 t44:=Tryz.VP
 a44:=Tryz.aju
 z44:=Tryz.af5
 v44:=Tryz.X6
 t46:=Tryz.VQ
 a46:=Tryz.ajv
 z46:=Tryz.af6
 v46:=Tryz.X7
 t53:=Tryz.VR
 a53:=Tryz.ajw
 z53:=Tryz.af7
 v53:=Tryz.X8
 t57:=Tryz.VU
 a57:=Tryz.ajx
 z57:=Tryz.af8
 v57:=Tryz.X9
 t63:=Tryz.VW
 a63:=Tryz.ajy
 z63:=Tryz.af9
 v63:=Tryz.Ya
 t64:=Tryz.VX
 a64:=Tryz.ajz
 z64:=Tryz.aga
 v64:=Tryz.Yb}
def Tryz.ahU:Go.Shelf.Ren:=⟨λ|5=>314|7=>352|n=>n,λ|23=>201|25=>9|3=>199|4=>4|20=>20|n=>n,λ|n=>n⟩
theorem Tryz.arO:Go.Proofs.SlLaysW.n5 Tryz.prog Tryz.ahU:={
 mixed:=by kernel_rfl
 f5:=⟨Tryz.f314.name,by decide,Tryz.avZ.trans (congrArg some (by kernel_rfl))⟩
 f7:=Tryz.av0.trans (congrArg some (by kernel_rfl))
 t4:=Tryz.JZ
 a4:=Tryz.ajo
 z4:=Tryz.adQ
 v4:=Tryz.SA
 t20:=Tryz.aqi
 a20:=Tryz.av1
 z20:=Tryz.auG
 v20:=Tryz.arP
 t23:=Tryz.adR
 a23:=Tryz.apm
 z23:=Tryz.anP
 v23:=Tryz.afW}
def Tryz.ahV:Go.Shelf.Ren:=⟨λ|6=>110|15=>198|14=>197|28=>272|29=>273|20=>264|21=>265|22=>266|23=>267|24=>268|25=>269|26=>270|27=>271|46=>320|47=>321|48=>322|49=>323|50=>324|57=>354|n=>n,λ|22=>72|24=>80|25=>219|3=>3|39=>38|0=>0|53=>176|55=>178|4=>4|46=>332|45=>331|50=>130|5=>5|9=>9|66=>369|70=>157|76=>397|77=>398|n=>n,λ|n=>n⟩
theorem Tryz.arQ:Go.Proofs.SlLaysF0.n6 Tryz.prog Tryz.ahV:={
 mixed:=by kernel_rfl
 f6:=⟨Tryz.f110.name,by decide,Tryz.av2.trans (congrArg some (by kernel_rfl))⟩
 f14:=⟨Tryz.f197.name,by decide,Tryz.av3.trans (congrArg some (by kernel_rfl))⟩
 f15:=Tryz.anS.trans (congrArg some (by kernel_rfl))
 f20:=⟨Tryz.f264.name,by decide,Tryz.av4.trans (congrArg some (by kernel_rfl))⟩
 f21:=⟨Tryz.f265.name,by decide,Tryz.av5.trans (congrArg some (by kernel_rfl))⟩
 f22:=⟨Tryz.f266.name,by decide,Tryz.av6.trans (congrArg some (by kernel_rfl))⟩
 f23:=⟨Tryz.f267.name,by decide,Tryz.av7.trans (congrArg some (by kernel_rfl))⟩
 f24:=⟨Tryz.f268.name,by decide,Tryz.av8.trans (congrArg some (by kernel_rfl))⟩
 f25:=⟨Tryz.f269.name,by decide,Tryz.av9.trans (congrArg some (by kernel_rfl))⟩
 f26:=⟨Tryz.f270.name,by decide,Tryz.awc.trans (congrArg some (by kernel_rfl))⟩
 f27:=⟨Tryz.f271.name,by decide,Tryz.awd.trans (congrArg some (by kernel_rfl))⟩
 f28:=Tryz.anT.trans (congrArg some (by kernel_rfl))
 f29:=Tryz.anU.trans (congrArg some (by kernel_rfl))
 f46:=⟨Tryz.f320.name,by decide,Tryz.awe.trans (congrArg some (by kernel_rfl))⟩
 f47:=Tryz.anV.trans (congrArg some (by kernel_rfl))
 f48:=Tryz.anW.trans (congrArg some (by kernel_rfl))
 f49:=⟨Tryz.f323.name,by decide,Tryz.awf.trans (congrArg some (by kernel_rfl))⟩
 f50:=⟨Tryz.f324.name,by decide,Tryz.awg.trans (congrArg some (by kernel_rfl))⟩
 f57:=⟨Tryz.aDg.name,by decide,Tryz.awh.trans (congrArg some (by kernel_rfl))⟩
 t0:=Tryz.Oz
 a0:=Tryz.ajn
 z0:=Tryz.adP
 v0:=Tryz.Sz
 t3:=Tryz.lJ
 a3:=Tryz.anX
 z3:=Tryz.ahT
 v3:=Tryz.acN
 t4:=Tryz.JZ
 a4:=Tryz.ajo
 z4:=Tryz.adQ
 v4:=Tryz.SA
 t5:=Tryz.underlying5
 a5:=Tryz.aqh
 z5:=Tryz.anY
 v5:=Tryz.acO
 t9:=Tryz.underlying9
 a9:=Tryz.afX
 z9:=Tryz.aay
 v9:=Tryz.MV
 t22:=Tryz.aqj
 a22:=Tryz.awi
 z22:=Tryz.auH
 v22:=Tryz.arR
 t25:=Tryz.apr
 a25:=Tryz.auI
 z25:=Tryz.atQ
 v25:=Tryz.aqk
 t39:=Tryz.X0
 a39:=Tryz.anZ
 z39:=Tryz.ajq
 v39:=Tryz.aaA
 t45:=Tryz.VK
 a45:=Tryz.ajr
 z45:=Tryz.af2
 v45:=Tryz.X3
 t46:=Tryz.VL
 a46:=Tryz.ajs
 z46:=Tryz.af3
 v46:=Tryz.X4
 t50:=Tryz.VN
 a50:=Tryz.ajt
 z50:=Tryz.af4
 v50:=Tryz.X5
 t53:=Tryz.VP
 a53:=Tryz.aju
 z53:=Tryz.af5
 v53:=Tryz.X6
 t55:=Tryz.VQ
 a55:=Tryz.ajv
 z55:=Tryz.af6
 v55:=Tryz.X7
 t66:=Tryz.VR
 a66:=Tryz.ajw
 z66:=Tryz.af7
 v66:=Tryz.X8
 t70:=Tryz.VU
 a70:=Tryz.ajx
 z70:=Tryz.af8
 v70:=Tryz.X9
 t76:=Tryz.VW
 a76:=Tryz.ajy
 z76:=Tryz.af9
 v76:=Tryz.Ya
 t77:=Tryz.VX
 a77:=Tryz.ajz
 z77:=Tryz.aga
 v77:=Tryz.Yb}
def Tryz.ahW:Go.Shelf.Ren:=⟨λ|6=>119|15=>198|14=>201|28=>272|29=>273|20=>274|21=>275|22=>276|23=>277|24=>278|25=>279|26=>280|27=>281|46=>325|47=>321|48=>322|49=>326|50=>327|57=>355|n=>n,λ|22=>22|24=>3|25=>88|3=>3|39=>38|0=>0|53=>176|55=>178|4=>4|46=>332|45=>331|50=>130|5=>5|9=>9|66=>369|70=>157|76=>397|77=>398|n=>n,λ|n=>n⟩
theorem Tryz.arS:Go.Proofs.SlLaysF.n6 Tryz.prog Tryz.ahW:={
 mixed:=by kernel_rfl
 f6:=⟨Tryz.f119.name,by decide,Tryz.awj.trans (congrArg some (by kernel_rfl))⟩
 f14:=⟨Tryz.f201.name,by decide,Tryz.awk.trans (congrArg some (by kernel_rfl))⟩
 f15:=Tryz.anS.trans (congrArg some (by kernel_rfl))
 f20:=⟨Tryz.f274.name,by decide,Tryz.awl.trans (congrArg some (by kernel_rfl))⟩
 f21:=⟨Tryz.f275.name,by decide,Tryz.awm.trans (congrArg some (by kernel_rfl))⟩
 f22:=⟨Tryz.f276.name,by decide,Tryz.awn.trans (congrArg some (by kernel_rfl))⟩
 f23:=⟨Tryz.f277.name,by decide,Tryz.awo.trans (congrArg some (by kernel_rfl))⟩
 f24:=⟨Tryz.f278.name,by decide,Tryz.awp.trans (congrArg some (by kernel_rfl))⟩
 f25:=⟨Tryz.f279.name,by decide,Tryz.awq.trans (congrArg some (by kernel_rfl))⟩
 f26:=⟨Tryz.f280.name,by decide,Tryz.awr.trans (congrArg some (by kernel_rfl))⟩
 f27:=⟨Tryz.f281.name,by decide,Tryz.aws.trans (congrArg some (by kernel_rfl))⟩
 f28:=Tryz.anT.trans (congrArg some (by kernel_rfl))
 f29:=Tryz.anU.trans (congrArg some (by kernel_rfl))
 f46:=⟨Tryz.f325.name,by decide,Tryz.awt.trans (congrArg some (by kernel_rfl))⟩
 f47:=Tryz.anV.trans (congrArg some (by kernel_rfl))
 f48:=Tryz.anW.trans (congrArg some (by kernel_rfl))
 f49:=⟨Tryz.f326.name,by decide,Tryz.awu.trans (congrArg some (by kernel_rfl))⟩
 f50:=⟨Tryz.f327.name,by decide,Tryz.awv.trans (congrArg some (by kernel_rfl))⟩
 f57:=⟨Tryz.aDh.name,by decide,Tryz.aww.trans (congrArg some (by kernel_rfl))⟩
 t0:=Tryz.Oz
 a0:=Tryz.ajn
 z0:=Tryz.adP
 v0:=Tryz.Sz
 t3:=Tryz.lJ
 a3:=Tryz.anX
 z3:=Tryz.ahT
 v3:=Tryz.acN
 t4:=Tryz.JZ
 a4:=Tryz.ajo
 z4:=Tryz.adQ
 v4:=Tryz.SA
 t5:=Tryz.underlying5
 a5:=Tryz.aqh
 z5:=Tryz.anY
 v5:=Tryz.acO
 t9:=Tryz.underlying9
 a9:=Tryz.afX
 z9:=Tryz.aay
 v9:=Tryz.MV
 t22:=Tryz.underlying22
 a22:=Tryz.awx
 z22:=Tryz.auJ
 v22:=Tryz.arT
 a24:=Tryz.anX
 z24:=Tryz.ahT
 t25:=Tryz.aql
 a25:=Tryz.awy
 z25:=Tryz.auK
 v25:=Tryz.arU
 t39:=Tryz.X0
 a39:=Tryz.anZ
 z39:=Tryz.ajq
 v39:=Tryz.aaA
 t45:=Tryz.VK
 a45:=Tryz.ajr
 z45:=Tryz.af2
 v45:=Tryz.X3
 t46:=Tryz.VL
 a46:=Tryz.ajs
 z46:=Tryz.af3
 v46:=Tryz.X4
 t50:=Tryz.VN
 a50:=Tryz.ajt
 z50:=Tryz.af4
 v50:=Tryz.X5
 t53:=Tryz.VP
 a53:=Tryz.aju
 z53:=Tryz.af5
 v53:=Tryz.X6
 t55:=Tryz.VQ
 a55:=Tryz.ajv
 z55:=Tryz.af6
 v55:=Tryz.X7
 t66:=Tryz.VR
 a66:=Tryz.ajw
 z66:=Tryz.af7
 v66:=Tryz.X8
 t70:=Tryz.VU
 a70:=Tryz.ajx
 z70:=Tryz.af8
 v70:=Tryz.X9
 t76:=Tryz.VW
 a76:=Tryz.ajy
 z76:=Tryz.af9
 v76:=Tryz.Ya
 t77:=Tryz.VX
 a77:=Tryz.ajz
 z77:=Tryz.aga
 v77:=Tryz.Yb}
end Go.Proofs
namespace Go.Proofs
open Go.RowKit Go.Maps Go.Sort Go.Shelf
theorem Tryz.atS (m:Nat):AnyZ.SortsIn Tryz.prog Tryz.aaz Fence.wide m:=
  ⟨aDi off cap ss W hH hblk hsz=>callsIn_wide.2 (AnyM.slices_Sort_string Tryz.atP blk off cap ss W hH hblk hsz),
   λp cap W=>callsIn_wide.2 (AnyM.slices_Sort_string_none Tryz.atP p cap W)⟩
set_option maxHeartbeats 2000000 in
theorem Tryz.keys_empty (b0 b clock:Nat) (w:World) (hc:w.cell? ⟨b0,0,none⟩=some (.map (some b))) (hm:w.heap[b]? =some (.map #[] clock)):
    Calls Tryz.prog 188 #[.pointer (some ⟨b0,0,none⟩)] w λe w'=>e= .returned (.slice none 0 0)/\Below w.heap.size w w':=by
  refine(callsIn_wide (n:=6)).1 ?_
  have hown:w.ownsMap (H:=Nat) Tryz.prog 9 (λ_=>none) b 0 (.map []):=⟨#[],clock,hm,⟨by simp,Go.MapKept.stamped_empty clock,by simp⟩,Nat.le_refl _,rfl⟩
  have hbl:=hown.lt
  have hseq:SeqGives Fence.wide 2 Tryz.prog 313 #[.pointer (some ⟨w.heap.size,0,none⟩)] encStr (λss=>ss.Perm (strKeys (H:=Nat) (.map []))) (Maps.size (H:=Nat) (.map [])) (w.alloc (.cells #[.map (some b)] 201)):=
    AnyZ.keys_gives (ρ:=Tryz.afV) {Tryz.atM with} Fence.wide _ trivial rfl (by omega) w.heap.size b 0 (.map []) _ (by simp) (by simp) (by
      obtain⟨es,clock,hb,Ft,hs,hD⟩:=hown
      exact⟨es,clock,(Below.heap_alloc _ _ b hbl).trans hb,Ft,hs,hD⟩)
  have cK:∀mb W,CallsIn Fence.wide 5 Tryz.prog 253 #[.map mb] W λe w'=>e= .returned (.func (.func 313) #[] #[.pointer (some ⟨W.heap.size,0,none⟩)])/\w'=W.alloc (.cells #[.map mb] 201):=λmb W=>AnyZ.keys_in Tryz.atM Fence.wide 5 trivial rfl mb W
  have cS:=AnyZ.sorted_in Tryz.arM Fence.wide 5 trivial trivial trivial trivial rfl (by omega) (Tryz.atS _) (enters_of Tryz.arN (by kernel_rfl) rfl) 313 #[.pointer (some ⟨w.heap.size,0,none⟩)] trivial (enters_of Tryz.arL (by kernel_rfl) rfl) _ _ (by simp [Maps.size]) (by simp [Maps.size]) _ hseq
  change CallsIn _ _ Tryz.prog 252 _ _ _ at cS
  have hfK:Fence.wide.fn 253:=trivial
  have hfS:Fence.wide.fn 252:=trivial
  refine callsIn_of_wp Tryz.awz rfl trivial ?_ rfl
  simp only [Tryz.auL,List.size_toArray,List.length_cons,List.length_nil,Nat.reduceAdd,Nat.reduceSub,Array.replicate_succ,Array.replicate_zero,List.push_toArray,List.append_toArray,List.nil_append,List.cons_append]
  gi_wp2_with (first
    |(gi_at_call 253;refine(cK _ _).mono ?_;rintro e w' ⟨rfl,rfl⟩)
    |(gi_at_call 252;refine cS.mono ?_;rintro e w' ⟨v,ss,rfl,hS,hrow,hnil,hb⟩))
  go_ret
  have hss:ss= []:=by
    have:=hS.length_eq
    exact List.length_eq_zero_iff.1 (by simpa [strKeys]using this)
  obtain rfl:v= .slice none 0 0:=hnil.2 hss
  exact⟨rfl,((Below.refl _ w).alloc (Nat.le_refl _) _).trans (hb.mono (by simp))⟩
end Go.Proofs
namespace Go.Proofs
open Go Go.AM Go.CP Go.RowKit
set_option maxRecDepth 100000
def tmL:List (Nat×Ty):= [(22,(.i .i64)),(23,(.n .aK)),(24,(.n .dQ)),(29,(.n .dn)),(30,(.n .bZ)),(31,(.n .aW)),(32,(.n .aY)),(44,(.n .aA)),(46,(.n .ay)),(47,(.n .aH)),(72,(.n .bE)),(121,(.n .aU)),(150,(.n .aI)),(189,(.n .aT)),(204,(.n .bP)),(205,(.n .bH)),(222,(.n .aC)),(233,(.n .bM)),(275,.s),(286,(.l (.n .aI))),(315,(.n .aG)),(378,(.i .u8))]
def agb [Fuel]:aS:={f:=13,ps:=⟨[],[]⟩,rs:=⟨aiW,[]⟩,β:=ak,F:=λv=>amY,g:=(λr=>((r,()),())),d:=λ_=>default}
theorem akY [Fuel]:bL Tryz.prog agb:=fnI 14 tmL [] [] Tryz.func13 (λv=>v.1.1) .z ok0 vZ
def yZ [Fuel]:aS:={f:=200,ps:=⟨aur,[]⟩,rs:=⟨zh,[]⟩,β:=Bool,F:=λv=>dH v.1.1 v.1.2.1 v.1.2.2.1,g:=(λr=>((r,()),())),d:=λ_=>default}
theorem AA [Fuel]:bL Tryz.prog yZ:=fnI 15 tmL [] [] Tryz.awC (λv=>v.1.1) .z ok0 vZ
def TI [Fuel]:aS:={f:=115,ps:=⟨aiW,[]⟩,rs:=⟨zh,[]⟩,β:=Bool,F:=λv=>KT v.1.1,g:=(λr=>((r,()),())),d:=λ_=>default}
theorem aaB [Fuel]:bL Tryz.prog TI:=fnI 42 tmL [yZ] [] Tryz.awD (λv=>v.1.1) .z (okC AA ok0) vZ
def VY [Fuel]:aS:={f:=116,ps:=⟨aiW,[]⟩,rs:=⟨zh,[]⟩,β:=Bool,F:=λv=>NH v.1.1,g:=(λr=>((r,()),())),d:=λ_=>default}
theorem abt [Fuel]:bL Tryz.prog VY:=fnI 68 tmL [yZ] [] Tryz.awE (λv=>v.1.1) (.two .z (.two (.two .z (.one (.lp ⟨[(1,.c (.pb 0 0)),(13,.c (.ty (.l (.n .dn)))),(14,zS),(15,zS)],[.bs .ak]⟩ (λn v=>Ah v.2.1 v.1.2.1 v.1.2.2.1 n v.1.2.2.2.1) ajA=> .z))) (.two .z (.two (.two .z (.one (.lp ⟨[(1,.c (.pb 0 0)),(5,zS),(32,.c (.ty (.l (.n .bZ)))),(33,zS),(34,zS)],[.bs .ak]⟩ (λn v=>Ag v.2.1 v.1.2.1 v.1.2.2.1 v.1.2.2.2.1 n v.1.2.2.2.2.1) ajB=> .z))) (.two (.two .z (.one (.lp ⟨[(1,.c (.pb 0 0)),(5,zS),(45,.c (.ty (.l (.i .i64)))),(46,zS),(47,zS)],[.bs .ak]⟩ (λn v=>Af v.2.1 v.1.2.1 v.1.2.2.1 v.1.2.2.2.1 n v.1.2.2.2.2.1) ajC=> .z))) (.two (.two .z (.one (.lp ⟨[(5,zS),(57,.c (.ty (.l (.i .i64)))),(58,zS),(59,zS)],[]⟩ (λn v=>Ae v.1.1 v.1.2.1 v.1.2.2.1 n v.1.2.2.2.1) ajD=> .z))) .z)))))) (okC AA ok0) (vS vZ (vS (vS vZ (vB (vL λ_=>vZ))) (vS vZ (vS (vS vZ (vB (vL λ_=>vZ))) (vS (vS vZ (vB (vL λ_=>vZ))) (vS (vS vZ (vB (vL λ_=>vZ))) vZ))))))
def VZ [Fuel]:aS:={f:=117,ps:=⟨aiW,[]⟩,rs:=⟨zh,[]⟩,β:=Bool,F:=λv=>NI v.1.1,g:=(λr=>((r,()),())),d:=λ_=>default}
theorem abu [Fuel]:bL Tryz.prog VZ:=fnI 65 tmL [yZ] [] Tryz.awF (λv=>v.1.1) (.two .z (.two (.two .z (.one (.lp ⟨[(1,.c (.pb 0 0)),(8,.c (.ty (.l (.n .bZ)))),(9,zS),(10,zS)],[.bs .ak]⟩ (λn v=>Aj v.2.1 v.1.2.1 v.1.2.2.1 n v.1.2.2.2.1) ajE=> .z))) (.two (.two .z (.one (.lp ⟨[(1,.c (.pb 0 0)),(20,.c (.ty (.l (.n .aY)))),(21,zS),(22,zS)],[.bs .ak]⟩ (λn v=>Ai v.2.1 v.1.2.1 v.1.2.2.1 n v.1.2.2.2.1) ajF=> .z))) .z))) (okC AA ok0) (vS vZ (vS (vS vZ (vB (vL λ_=>vZ))) (vS (vS vZ (vB (vL λ_=>vZ))) vZ)))
def Yc [Fuel]:aS:={f:=51,ps:=⟨aiW,[]⟩,rs:=⟨[(0,zS)],[]⟩,β:=Int,F:=λv=>R9 v.1.1,g:=(λr=>((r,()),())),d:=λ_=>default}
theorem adU [Fuel]:bL Tryz.prog Yc:=fnI 21 tmL [TI,VY,VZ] [] Tryz.aA1 (λv=>v.1.1) .z (okC aaB (okC abt (okC abu ok0))) vZ
def J2 [Fuel]:aS:={f:=118,ps:=⟨aur,[]⟩,rs:=⟨zh,[]⟩,β:=Bool,F:=λv=>lg v.1.1 v.1.2.1 v.1.2.2.1,g:=(λr=>((r,()),())),d:=λ_=>default}
theorem Pk [Fuel]:bL Tryz.prog J2:=fnI 15 tmL [] [] Tryz.awG (λv=>v.1.1) .z ok0 vZ
def K8 [Fuel]:aS:={f:=52,ps:=⟨[(0,.st .aW),(1,zS)],[]⟩,rs:=⟨zh,[]⟩,β:=Bool,F:=λv=>Bf v.1.1 v.1.2.1,g:=(λr=>((r,()),())),d:=λ_=>default}
theorem Uw [Fuel]:bL Tryz.prog K8:=fnI 39 tmL [J2] [] Tryz.aA2 (λv=>v.1.1) .z (okC Pk ok0) vZ
def wD [Fuel]:aS:={f:=24,ps:=⟨aiW,[]⟩,rs:=⟨[(0,zS)],[]⟩,β:=Int,F:=λv=>ug v.1.1,g:=(λr=>((r,()),())),d:=λ_=>default}
theorem yB [Fuel]:bL Tryz.prog wD:=fnI 24 tmL [Yc,K8] [] Tryz.func24 (λv=>v.1.1) (.two .z (.two .z (.two (.two .z (.one (.lp ⟨[(1,.c (.pb 0 0)),(12,.c (.ty (.l (.n .aW)))),(13,zS),(14,zS)],[.bs .ak]⟩ (λn v=>sQ v.2.1 v.1.2.1 v.1.2.2.1 n v.1.2.2.2.1) ahX=> .z))) .z))) (okC adU (okC Uw ok0)) (vS vZ (vS vZ (vS (vS vZ (vB (vL λ_=>vZ))) vZ)))
def Ir [Fuel]:aS:={f:=288,ps:=⟨[],[]⟩,rs:=⟨afp,[o41,.ar (.i .u8)]⟩,β:=aZ,F:=λv=>aiX,g:=(λr=>(((),()),g0 r)),d:=λ_=>default}
theorem Q8 [Fuel]:bL Tryz.prog Ir:=fnI 3 tmL [] [] Tryz.awH (λv=>((m0 v.2))) .z ok0 vZ
def rT [Fuel]:aS:={f:=234,ps:=⟨[],[]⟩,rs:=ata,β:=aJ,F:=λv=>Z4,g:=(λr=>(((),()),g1 r)),d:=λ_=>default}
theorem CU [Fuel]:bL Tryz.prog rT:=fnI 4 tmL [Ir] [] Tryz.awI (λv=>(m1 v.2)) .z (okC Q8 ok0) vZ
def nR [Fuel]:aS:={f:=168,ps:=⟨amR,[]⟩,rs:=as8,β:=(aj×Int),F:=λv=>Z5 v.1.1 v.1.2.1,g:=(λr=>(((),(r.2,())),g2 r.1)),d:=λ_=>default}
theorem xD [Fuel]:bL Tryz.prog nR:=fnI 31 tmL [rT] [] Tryz.awJ (λv=>((m3 v.2),v.1.2.1)) .z (okC CU ok0) vZ
def iH [Fuel]:aS:={f:=87,ps:=⟨[(0,zS)],[]⟩,rs:=ase,β:=(aL×Int),F:=λv=>acC v.1.1,g:=(λr=>(((),(r.2,())),g3 r)),d:=λ_=>default}
theorem nH [Fuel]:bL Tryz.prog iH:=fnI 39 tmL [nR] [] Tryz.aA3 (λv=>((m4 v.2),v.1.2.1)) (.two .z (.two .z (.two (.two .z (.one (.un (.two (.two .z (.ct .z)) .z) (.un (.two (.two .z (.cf .z)) .z) .z)))) .z))) (okC xD ok0) (vS vZ (vS vZ (vS (vS vZ (vB (vU (vV (vS (vS vZ (vT vZ)) vZ) (vV (vS (vS vZ (vF vZ)) vZ) vX))))) vZ)))
def sF [Fuel]:aS:={f:=169,ps:=⟨[(0,.c (.ty (.l (.n .dn))))],[]⟩,rs:=⟨[(0,.c (.ty (.l (.n .dn))))],[]⟩,β:=(List dn),F:=λv=>uh v.1.1,g:=(λr=>((r,()),())),d:=λ_=>default}
theorem D8 [Fuel]:bL Tryz.prog sF:=Lx (t:=(.n .dn)) (e:=91) 8 tmL Tryz.awK (λv=>v.1.1) 0 3 4 29 (λv=>v.1.1) [] rfl (by kernel_rfl) (by kernel_rfl) (by intro v;kernel_rfl) (by intro v;kernel_rfl) (by kernel_rfl) (by intro vs w;rfl) (by kernel_rfl) (by intro v;exact⟨by kernel_rfl,by kernel_rfl⟩) (by intro v;kernel_rfl) (by intro v;kernel_rfl) (λv r hx hF=>Ad hx hF)
def sG [Fuel]:aS:={f:=170,ps:=⟨[(0,.c (.ty (.l (.n .bZ))))],[]⟩,rs:=⟨[(0,.c (.ty (.l (.n .bZ))))],[]⟩,β:=(List bZ),F:=λv=>uj v.1.1,g:=(λr=>((r,()),())),d:=λ_=>default}
theorem D9 [Fuel]:bL Tryz.prog sG:=Lx (t:=(.n .bZ)) (e:=93) 8 tmL Tryz.awL (λv=>v.1.1) 0 3 4 30 (λv=>v.1.1) [] rfl (by kernel_rfl) (by kernel_rfl) (by intro v;kernel_rfl) (by intro v;kernel_rfl) (by kernel_rfl) (by intro vs w;rfl) (by kernel_rfl) (by intro v;exact⟨by kernel_rfl,by kernel_rfl⟩) (by intro v;kernel_rfl) (by intro v;kernel_rfl) (λv r hx hF=>Ad hx hF)
def pU [Fuel]:aS:={f:=171,ps:=⟨[(0,.c (.ty (.l (.n .aW))))],[]⟩,rs:=⟨[(0,.c (.ty (.l (.n .aW))))],[]⟩,β:=(List aW),F:=λv=>qH v.1.1,g:=(λr=>((r,()),())),d:=λ_=>default}
theorem zT [Fuel]:bL Tryz.prog pU:=Lx (t:=(.n .aW)) (e:=37) 8 tmL Tryz.awM (λv=>v.1.1) 0 3 4 31 (λv=>v.1.1) [] rfl (by kernel_rfl) (by kernel_rfl) (by intro v;kernel_rfl) (by intro v;kernel_rfl) (by kernel_rfl) (by intro vs w;rfl) (by kernel_rfl) (by intro v;exact⟨by kernel_rfl,by kernel_rfl⟩) (by intro v;kernel_rfl) (by intro v;kernel_rfl) (λv r hx hF=>Ad hx hF)
def oo [Fuel]:aS:={f:=172,ps:=⟨[(0,.c (.ty (.l (.n .aY))))],[]⟩,rs:=⟨[(0,.c (.ty (.l (.n .aY))))],[]⟩,β:=(List aY),F:=λv=>pK v.1.1,g:=(λr=>((r,()),())),d:=λ_=>default}
theorem yC [Fuel]:bL Tryz.prog oo:=Lx (t:=(.n .aY)) (e:=95) 8 tmL Tryz.awN (λv=>v.1.1) 0 3 4 32 (λv=>v.1.1) [] rfl (by kernel_rfl) (by kernel_rfl) (by intro v;kernel_rfl) (by intro v;kernel_rfl) (by kernel_rfl) (by intro vs w;rfl) (by kernel_rfl) (by intro v;exact⟨by kernel_rfl,by kernel_rfl⟩) (by intro v;kernel_rfl) (by intro v;kernel_rfl) (λv r hx hF=>Ad hx hF)
def EI [Fuel]:aS:={f:=173,ps:=⟨ahx,[]⟩,rs:=⟨ahx,[]⟩,β:=(List Int),F:=λv=>zB v.1.1,g:=(λr=>((r,()),())),d:=λ_=>default}
theorem OA [Fuel]:bL Tryz.prog EI:=Lx (t:=(.i .i64)) (e:=3) 8 tmL Tryz.awO (λv=>v.1.1) 0 3 4 22 (λv=>v.1.1) [] rfl (by kernel_rfl) (by kernel_rfl) (by intro v;kernel_rfl) (by intro v;kernel_rfl) (by kernel_rfl) (by intro vs w;rfl) (by kernel_rfl) (by intro v;exact⟨by kernel_rfl,by kernel_rfl⟩) (by intro v;kernel_rfl) (by intro v;kernel_rfl) (λv r hx hF=>Ad hx hF)
def TJ [Fuel]:aS:={f:=88,ps:=⟨aiW,[]⟩,rs:=⟨aiW,[]⟩,β:=ak,F:=λv=>XR v.1.1,g:=(λr=>((r,()),())),d:=λ_=>default}
theorem aaC [Fuel]:bL Tryz.prog TJ:=fnI 28 tmL [sF,sG,pU,oo,EI] [] Tryz.aA4 (λv=>v.1.1) .z (okC D8 (okC D9 (okC zT (okC yC (okC OA ok0))))) vZ
def wQ [Fuel]:aS:={f:=31,ps:=⟨aiW,[]⟩,rs:=auv,β:=aB,F:=λv=>QB v.1.1,g:=(λr=>((({r with ah:=([]:List ay),Cells:=([]:List aH)},((),((),()))),()),(r.ah,(r.Cells,())))),d:=λ_=>default}
theorem Ea [Fuel]:bL Tryz.prog wQ:=fnI 41 tmL [] [] Tryz.func31 (λv=>({v.1.1.1 with ah:=v.2.1,Cells:=v.2.2.1})) (.two .z (.two .z (.two (.two .z (.one (.lp ⟨[(2,.c (.pb 0 0)),(3,.c (.pb 1 0)),(17,zS),(18,zS)],[o26,.bw .aB [(2,.own 2),(3,.own 3)],.ar (.n .ay),.ar (.n .aH)]⟩ (λn v=>uo v.1.2.2.1 n {v.2.2.1.1 with ah:=v.2.2.2.1,Cells:=v.2.2.2.2.1} v.1.2.2.2.1) alo=> .z))) (.two (.two .z (.one (.lp ⟨[(2,.c (.pb 0 0)),(3,.c (.pb 1 0)),(30,zS),(31,zS)],[o26,.bw .aB [(2,.own 2),(3,.own 3)],.ar (.n .ay),.ar (.n .aH)]⟩ (λn v=>um v.1.2.2.1 n {v.2.2.1.1 with ah:=v.2.2.2.1,Cells:=v.2.2.2.2.1} v.1.2.2.2.1) alp=> .z))) .z)))) ok0 (vS vZ (vS vZ (vS (vS vZ (vB (vL λ_=>vZ))) (vS (vS vZ (vB (vL λ_=>vZ))) vZ))))
def gG [Fuel]:aS:={f:=35,ps:=⟨aiW,[]⟩,rs:=aAm,β:=(aV×Int),F:=λv=>aft v.1.1,g:=(λr=>(((),(r.2,())),g4 r)),d:=λ_=>default}
theorem kR [Fuel]:bL Tryz.prog gG:=fnI 35 tmL [wD,iH,TJ,wQ] [] Tryz.func35 (λv=>((m7 v.2),v.1.2.1)) .z (okC yB (okC nH (okC aaC (okC Ea ok0)))) vZ
def aaD [Fuel]:aS:={f:=174,ps:=⟨[],[]⟩,rs:=avm,β:=dM,F:=λv=>afu,g:=(λr=>(((),()),(((),()),(r.values,())))),d:=λ_=>default}
theorem agc [Fuel]:bL Tryz.prog aaD:=fnI 4 tmL [] [] Tryz.awP (λv=>(m8 v.2.2.1)) .z ok0 vZ
def aaE [Fuel]:aS:={f:=175,ps:=⟨[],[]⟩,rs:=avn,β:=aO,F:=λv=>afv,g:=(λr=>(((),()),(r,()))),d:=λ_=>default}
theorem agd [Fuel]:bL Tryz.prog aaE:=fnI 3 tmL [] [] Tryz.awQ (λv=>v.2.1) .z ok0 vZ
def V3 [Fuel]:aS:={f:=176,ps:=⟨[],[]⟩,rs:=⟨afp,[.bs .aM]⟩,β:=aM,F:=λv=>Z6,g:=(λr=>(((),()),(r,()))),d:=λ_=>default}
theorem abv [Fuel]:bL Tryz.prog V3:=fnI 3 tmL [] [] Tryz.awR (λv=>v.2.1) .z ok0 vZ
def aaF [Fuel]:aS:={f:=89,ps:=⟨[],[]⟩,rs:=⟨[(0,.ag [.pb 0 0,.pb 2 0,.pb 3 0])],[.bx [.mc 1],.ms,.bs .aO,.bs .aM]⟩,β:=oJ,F:=λv=>afw,g:=(λr=>((((),((),((),()))),()),(((),()),(r.Store.values,(r.Queue,(r.Table,())))))),d:=λ_=>default}
theorem agf [Fuel]:bL Tryz.prog aaF:=fnI 5 tmL [aaD,aaE,V3] [] Tryz.aA5 (λv=>(m9 v.2.2)) .z (okC agc (okC agd (okC abv ok0))) vZ
def Iu [Fuel]:aS:={f:=90,ps:=⟨[(0,zS)],[]⟩,rs:=⟨afp,[o46,.ar (.n .aT)]⟩,β:=bT,F:=λv=>aiY v.1.1,g:=(λr=>(((),()),g5 r)),d:=λ_=>default}
theorem Q9 [Fuel]:bL Tryz.prog Iu:=fnI 6 tmL [] [] Tryz.aA6 (λv=>((m10 v.2))) .z ok0 vZ
def uD [Fuel]:aS:={f:=36,ps:=⟨amR,[]⟩,rs:=aut,β:=dN,F:=λv=>adz v.1.1 v.1.2.1,g:=(λr=>(((),()),g6 r)),d:=λ_=>default}
theorem FK [Fuel]:bL Tryz.prog uD:=fnI 12 tmL [aaF,Iu] [] Tryz.func36 (λv=>(m11 v.2)) .z (okC agf (okC Q9 ok0)) vZ
def Ig [Fuel]:aS:={f:=37,ps:=aut,rs:=⟨[(0,.c (.pb 6 0))],[o13,.ar (.n .aU),.bx [.mc 3],.ms,.bs .aO,.bs .aM,o47,.ar (.n .aT)]⟩,β:=(Unit×dN),F:=λv=>LA (m11 v.2),g:=(λr=>(((),()),g7 r.2)),d:=λ_=>default,ro:=some {R:=Unit,Fr:=λv=>oF (m11 v.2),dr:=default,pr:=λx v=>(x,(m11 v.2)),hF:=λ_=>WZ _},hr:=λq h v x=>by cases h;rfl}
theorem MW [Fuel]:bL Tryz.prog Ig:=fnI 7 tmL [] [] Tryz.func37 (λv=>((),(m11 v.2))) .z ok0 vZ
def fM [Fuel]:aS:={f:=91,ps:=⟨[(0,.c (.ty (.l (.n .ay))))],[]⟩,rs:=⟨alh,[.ar (.n .ay)]⟩,β:=(List ay),F:=λv=>cO v.1.1,g:=(λr=>(((),()),(r,()))),d:=λ_=>default}
theorem jc [Fuel]:bL Tryz.prog fM:=Lx (t:=(.n .ay)) (e:=55) 8 tmL Tryz.aA7 (λv=>v.2.1) 0 3 4 46 (λv=>v.1.1) [] rfl (by kernel_rfl) (by kernel_rfl) (by intro v;kernel_rfl) (by intro v;kernel_rfl) (by kernel_rfl) (by intro vs w;rfl) (by kernel_rfl) (by intro v;exact⟨by kernel_rfl,by kernel_rfl⟩) (by intro v;kernel_rfl) (by intro v;kernel_rfl) (λv r hx hF=>Ad hx hF)
def gK [Fuel]:aS:={f:=92,ps:=⟨[(0,.c (.ty (.l (.n .aH))))],[]⟩,rs:=⟨alh,[.ar (.n .aH)]⟩,β:=(List aH),F:=λv=>dG v.1.1,g:=(λr=>(((),()),(r,()))),d:=λ_=>default}
theorem jC [Fuel]:bL Tryz.prog gK:=Lx (t:=(.n .aH)) (e:=159) 8 tmL Tryz.aA8 (λv=>v.2.1) 0 3 4 47 (λv=>v.1.1) [] rfl (by kernel_rfl) (by kernel_rfl) (by intro v;kernel_rfl) (by intro v;kernel_rfl) (by kernel_rfl) (by intro vs w;rfl) (by kernel_rfl) (by intro v;exact⟨by kernel_rfl,by kernel_rfl⟩) (by intro v;kernel_rfl) (by intro v;kernel_rfl) (λv r hx hF=>Ad hx hF)
def J3 [Fuel]:aS:={f:=38,ps:=auu,rs:=⟨aus,[o0,o17,o52,o7,o32,o45,.ar (.i .u8),.ar (.n .aG),.ar (.n .aC)]⟩,β:=(aB×aV),F:=λv=>Fe (m7 v.2),g:=(λr=>((r.1,()),g8 r)),d:=λ_=>default,ro:=some {R:=aB,Fr:=λv=>uI (m7 v.2),dr:=default,pr:=λx v=>(λ(p1:aV)=>(x,{p1 with net:={p1.net with au:= [(p1.net.au.getD 0 default)]}})) (m7 v.2),hF:=λ_=>SL _},hr:=λq h v x=>by cases h;rfl}
theorem Tc [Fuel]:bL Tryz.prog J3:=fnI 17 tmL [fM,gK] [] Tryz.func38 (λv=>(v.1.1,(m7 v.2))) .z (okC jc (okC jC ok0)) vZ
def bn [Fuel]:aS:={f:=12,ps:=⟨aiW,[]⟩,rs:=⟨afp,[o2,o1,o18,o53,o8,o33,o48,.ar (.i .u8),.ar (.n .aG),.ar (.n .aC),o54,o50,o10,.ar (.n .aU),o55,.ms,.bs .aO,.bs .aM,o38,.ar (.n .aT),o11,.ar (.n .aU),o56,.ms,.bs .aO,.bs .aM,o39,.ar (.n .aT),.ar (.n .bE)]⟩,β:=xJ,F:=λv=>afx v.1.1,g:=(λr=>(((),()),g9 r)),d:=λ_=>default}
theorem cu [Fuel]:bL Tryz.prog bn:=fnI 83 tmL [gG,uD,Ig,J3] [] Tryz.func12 (λv=>{c:=(m5 v.2.1),p:=(m7 v.2.2),copies:= [[(m11 v.2.2.2.2.2.2.2.2.2.2.2.2.2),(m11 v.2.2.2.2.2.2.2.2.2.2.2.2.2.2.2.2.2.2.2.2.2)]],granted:=v.2.2.2.2.2.2.2.2.2.2.2.2.2.2.2.2.2.2.2.2.2.2.2.2.2.2.2.2.2.1,served:=v.2.1.2.2.2.2.2.2.2.2.2.2.2.2.2.1,tick:=v.2.1.2.2.2.2.2.2.2.2.2.2.2.2.2.2.1:xJ}) (.two .z (.two .z (.two .z (.two .z (.two (.two .z (.one (.un (.two (.two .z (.ct .z)) (.two (.one (.two .z (.two (.two .z (.one (.un (.two (.two .z (.ct .z)) .z) (.un (.two (.two .z (.ct .z)) .z) (.un (.two (.two .z (.cf .z)) .z) .z))))) .z))) .z)) (.un (.two (.two .z (.cf .z)) .z) .z)))) .z))))) (okC kR (okC FK (okC MW (okC Tc ok0)))) (vS vZ (vS vZ (vS vZ (vS vZ (vS (vS vZ (vB (vU (vV (vS (vS vZ (vT vZ)) (vS (vB (vS vZ (vS (vS vZ (vB (vU (vV (vS (vS vZ (vT vZ)) vZ) (vV (vS (vS vZ (vT vZ)) vZ) (vV (vS (vS vZ (vF vZ)) vZ) vX)))))) vZ))) vZ)) (vV (vS (vS vZ (vF vZ)) vZ) vX))))) vZ)))))
def Eb [Fuel]:aS:={f:=82,ps:=⟨[(0,.c (.ty (.i .u32)))],[]⟩,rs:=⟨[(0,zS)],[]⟩,β:=Int,F:=λv=>QC v.1.1,g:=(λr=>((r,()),())),d:=λ_=>default}
theorem MZ [Fuel]:bL Tryz.prog Eb:=fnI 21 tmL [] [] Tryz.aA9 (λv=>v.1.1) .z ok0 vZ
def Ec [Fuel]:aS:={f:=83,ps:=⟨asc,[]⟩,rs:=⟨[(0,zS)],[]⟩,β:=Int,F:=λv=>GJ v.1.1,g:=(λr=>((r,()),())),d:=λ_=>default}
theorem M4 [Fuel]:bL Tryz.prog Ec:=fnI 35 tmL [] [] Tryz.aBa (λv=>v.1.1) .z ok0 vZ
def yD [Fuel]:aS:={f:=33,ps:=⟨asc,[]⟩,rs:=⟨[(0,zS)],[]⟩,β:=Int,F:=λv=>uJ v.1.1,g:=(λr=>((r,()),())),d:=λ_=>default}
theorem EJ [Fuel]:bL Tryz.prog yD:=fnI 8 tmL [Eb,Ec] [] Tryz.func33 (λv=>v.1.1) .z (okC MZ (okC M4 ok0)) vZ
def J4 [Fuel]:aS:={f:=93,ps:=auu,rs:=aAn,β:=(Bool×aV),F:=λv=>Fg (m7 v.2),g:=(λr=>((r.1,()),g10 r)),d:=λ_=>default,ro:=some {R:=Bool,Fr:=λv=>uK (m7 v.2),dr:=default,pr:=λx v=>(λ(p1:aV)=>(x,{p1 with net:={p1.net with au:= [(p1.net.au.getD 0 default)]}})) (m7 v.2),hF:=λ_=>SN _},hr:=λq h v x=>by cases h;rfl}
theorem Td [Fuel]:bL Tryz.prog J4:=fnI 17 tmL [yD] [] Tryz.aBb (λv=>(v.1.1,(m7 v.2))) .z (okC EJ ok0) vZ
def V4 [Fuel]:aS:={f:=330,ps:=⟨[(0,zS)],[]⟩,rs:=⟨[(0,.st .dD)],[]⟩,β:=dD,F:=λv=>Bv v.1.1,g:=(λr=>((r,()),())),d:=λ_=>default}
theorem abw [Fuel]:bL Tryz.prog V4:=fnI 6 tmL [] [] Tryz.awS (λv=>v.1.1) .z ok0 vZ
def TK [Fuel]:aS:={f:=286,ps:=⟨[(0,zS),(1,.st .fG)],[]⟩,rs:=⟨[(0,.st .dR),(1,.c (.ty .b))],[]⟩,β:=(dR×Bool),F:=λv=>KU v.1.1 v.1.2.1,g:=(λr=>((r.1,(r.2,())),())),d:=λ_=>default}
theorem aaG [Fuel]:bL Tryz.prog TK:=fnI 120 tmL [V4] [] Tryz.awT (λv=>(v.1.1,v.1.2.1)) (.two .z (.two .z (.two .z (.two .z (.two .z (.two .z (.cut ⟨[(4,.c (.pb 0 0)),(14,.c (.pb 1 0))],[.bs .dR,.bs .dR]⟩ (λv=>fI v.2.2.1) (.two .z (.one (.two .z (.two .z (.two .z (.two .z (.two .z (.two .z (.two .z (.two .z (.cut ⟨[(3,.c (.pb 0 0)),(4,.c (.pb 1 0)),(7,.c (.pb 2 0)),(8,.c (.pb 3 0)),(10,.c (.pb 4 0)),(11,.c (.pb 5 0)),(13,.c (.pb 6 0)),(14,.c (.pb 7 0)),(36,zS),(70,.c (.ty .b))],[.bs .fG,.bs .dR,.bs .dD,.bs .dD,.bs .dD,.bs .dD,.bs .dD,.bs .dR]⟩ (λv=>xO v.1.2.2.2.2.2.2.2.2.1 v.2.1 v.2.2.2.1 v.2.2.2.2.1 v.2.2.2.2.2.1 v.2.2.2.2.2.2.1 v.2.2.2.2.2.2.2.1 v.2.2.2.2.2.2.2.2.1 v.1.2.2.2.2.2.2.2.2.2.1) .z (.two .z (.two .z (.two .z (.two .z (.two .z (.two .z (.two .z (.cut ⟨[(3,.c (.pb 0 0)),(4,.c (.pb 1 0)),(8,.c (.pb 2 0)),(10,.c (.pb 3 0)),(11,.c (.pb 4 0)),(13,.c (.pb 5 0)),(14,.c (.pb 6 0)),(36,zS),(93,.c (.ty .b))],[.bs .fG,.bs .dR,.bs .dD,.bs .dD,.bs .dD,.bs .dD,.bs .dR]⟩ (λv=>xM v.1.2.2.2.2.2.2.2.1 v.2.1 v.2.2.2.1 v.2.2.2.2.1 v.2.2.2.2.2.1 v.2.2.2.2.2.2.1 v.2.2.2.2.2.2.2.1 v.1.2.2.2.2.2.2.2.2.1) .z (.two .z (.two .z (.two .z (.two .z (.two .z (.cut ⟨[(4,.c (.pb 0 0)),(13,.c (.pb 1 0)),(14,.c (.pb 2 0)),(36,zS),(112,.c (.ty .b))],[.bs .dR,.bs .dD,.bs .dR]⟩ (λv=>xL v.1.2.2.2.1 v.2.2.1 v.2.2.2.1 v.1.2.2.2.2.1) .z .z))))))))))))))))))))))))) .z))))))) (okC abw ok0) (vS vZ (vS vZ (vS vZ (vS vZ (vS vZ (vS vZ (vC (vS vZ (vB (vS vZ (vD vZ (vS vZ (vD vZ (vS vZ (vD vZ (vS vZ (vD vZ (vC vZ (vD vZ (vS vZ (vD vZ (vS vZ (vD vZ (vS vZ (vD vZ (vC vZ (vD vZ (vS vZ (vD vZ (vS vZ (vD vZ (vC vZ vZ))))))))))))))))))))))))) vZ)))))))
def Pm [Fuel]:aS:={f:=287,ps:=⟨[(0,.st .dD),(1,zS)],[]⟩,rs:=⟨zh,[]⟩,β:=Bool,F:=λv=>kZ v.1.1 v.1.2.1,g:=(λr=>((r,()),())),d:=λ_=>default}
theorem Xm [Fuel]:bL Tryz.prog Pm:=fnI 15 tmL [] [] Tryz.awU (λv=>v.1.1) .z ok0 vZ
def Ra [Fuel]:aS:={f:=223,ps:=⟨[(0,.st .aA),(1,.st .fG)],[]⟩,rs:=⟨zh,[]⟩,β:=Bool,F:=λv=>Ji v.1.1 v.1.2.1,g:=(λr=>((r,()),())),d:=λ_=>default}
theorem D6 [Fuel]:bL Tryz.prog Ra:=fnI 85 tmL [TK,Pm] [] Tryz.awV (λv=>v.1.1) .z (okC aaG (okC Xm ok0)) vZ
def Jf [Fuel]:aS:={f:=222,ps:=⟨aq0,[]⟩,rs:=⟨zh,[]⟩,β:=Bool,F:=λv=>Js v.1.1,g:=(λr=>((r,()),())),d:=λ_=>default}
theorem LW [Fuel]:bL Tryz.prog Jf:=fnI 6 tmL [Ra] [] Tryz.awW (λv=>v.1.1) .z (okC D6 ok0) vZ
def V5 [Fuel]:aS:={f:=145,ps:=⟨[(0,.st .ak),(1,.st .aA)],[]⟩,rs:=⟨zh,[]⟩,β:=Bool,F:=λv=>NJ v.1.1 v.1.2.1,g:=(λr=>((r,()),())),d:=λ_=>default}
theorem abx [Fuel]:bL Tryz.prog V5:=fnI 23 tmL [Jf,Ra] [] Tryz.awX (λv=>v.1.1) .z (okC LW (okC D6 ok0)) vZ
def wE [Fuel]:aS:={f:=224,ps:=⟨ave,[]⟩,rs:=⟨[(0,zS)],[]⟩,β:=Int,F:=λv=>qY v.1.1 v.1.2.1,g:=(λr=>((r,()),())),d:=λ_=>default}
theorem yE [Fuel]:bL Tryz.prog wE:=fnI 20 tmL [] [] Tryz.awY (λv=>v.1.1) .z ok0 vZ
def OB [Fuel]:aS:={f:=211,ps:=⟨aqZ,[]⟩,rs:=⟨[(0,zS)],[]⟩,β:=Int,F:=λv=>Bw v.1.1 v.1.2.1,g:=(λr=>((r,()),())),d:=λ_=>default}
theorem TL [Fuel]:bL Tryz.prog OB:=fnI 18 tmL [yZ] [] Tryz.awZ (λv=>v.1.1) .z (okC AA ok0) vZ
def J5 [Fuel]:aS:={f:=282,ps:=⟨aqZ,[]⟩,rs:=⟨[(0,zS)],[]⟩,β:=Int,F:=λv=>Fh v.1.1 v.1.2.1,g:=(λr=>((r,()),())),d:=λ_=>default}
theorem Te [Fuel]:bL Tryz.prog J5:=fnI 18 tmL [yZ] [] Tryz.aw0 (λv=>v.1.1) .z (okC AA ok0) vZ
def nS [Fuel]:aS:={f:=214,ps:=⟨aqZ,[]⟩,rs:=⟨[(0,zS)],[]⟩,β:=Int,F:=λv=>j6 v.1.1 v.1.2.1,g:=(λr=>((r,()),())),d:=λ_=>default}
theorem oH [Fuel]:bL Tryz.prog nS:=fnI 10 tmL [OB,J5] [] Tryz.aw1 (λv=>v.1.1) .z (okC TL (okC Te ok0)) vZ
def BR [Fuel]:aS:={f:=228,ps:=⟨amR,[]⟩,rs:=⟨zh,[]⟩,β:=Bool,F:=λv=>Ak v.1.1 v.1.2.1,g:=(λr=>((r,()),())),d:=λ_=>default}
theorem Ct [Fuel]:bL Tryz.prog BR:=fnI 18 tmL [] [] Tryz.aw2 (λv=>v.1.1) .z ok0 vZ
def Gt [Fuel]:aS:={f:=225,ps:=⟨aAh,[]⟩,rs:=⟨zh,[]⟩,β:=Bool,F:=λv=>xP v.1.1 v.1.2.1 v.1.2.2.1,g:=(λr=>((r,()),())),d:=λ_=>default}
theorem J6 [Fuel]:bL Tryz.prog Gt:=fnI 13 tmL [nS,BR] [] Tryz.aw3 (λv=>v.1.1) .z (okC oH (okC Ct ok0)) vZ
def Cu [Fuel]:aS:={f:=207,ps:=⟨aqY,[]⟩,rs:=⟨zh,[]⟩,β:=Bool,F:=λv=>wu v.1.1 v.1.2.1 v.1.2.2.1,g:=(λr=>((r,()),())),d:=λ_=>default}
theorem Ed [Fuel]:bL Tryz.prog Cu:=fnI 34 tmL [nS,J2] [] Tryz.aw4 (λv=>v.1.1) .z (okC oH (okC Pk ok0)) vZ
def Gu [Fuel]:aS:={f:=208,ps:=⟨aqY,[]⟩,rs:=⟨zh,[]⟩,β:=Bool,F:=λv=>Cg v.1.1 v.1.2.1 v.1.2.2.1,g:=(λr=>((r,()),())),d:=λ_=>default}
theorem J7 [Fuel]:bL Tryz.prog Gu:=fnI 26 tmL [nS] [] Tryz.aw5 (λv=>v.1.1) .z (okC oH ok0) vZ
def K9 [Fuel]:aS:={f:=226,ps:=⟨aqY,[]⟩,rs:=⟨zh,[]⟩,β:=Bool,F:=λv=>Fj v.1.1 v.1.2.1 v.1.2.2.1,g:=(λr=>((r,()),())),d:=λ_=>default}
theorem OC [Fuel]:bL Tryz.prog K9:=fnI 16 tmL [Gu] [] Tryz.aw6 (λv=>v.1.1) .z (okC J7 ok0) vZ
def V6 [Fuel]:aS:={f:=146,ps:=⟨w92,[]⟩,rs:=⟨[(0,zS)],[]⟩,β:=Int,F:=λv=>Jt v.1.1 v.1.2.1 v.1.2.2.1,g:=(λr=>((r,()),())),d:=λ_=>default}
theorem aby [Fuel]:bL Tryz.prog V6:=fnI 72 tmL [wE,Gt,Cu,K9] [] Tryz.aw7 (λv=>v.1.1) (.two .z (.two .z (.two (.one (.two .z (.two .z (.cut ⟨[(3,.c (.pb 0 0)),(4,.c (.pb 1 0)),(5,.c (.pb 2 0)),(7,.c (.ty .b)),(19,.c (.ty .b))],[.bs .ak,.bs .aB,.bs .aA]⟩ (λv=>FZ v.2.1 v.2.2.1 v.2.2.2.1 v.1.2.2.2.1 v.1.2.2.2.2.1) .z (.two .z (.cut ⟨[(3,.c (.pb 0 0)),(5,.c (.pb 1 0)),(7,.c (.ty .b)),(33,.c (.ty .b))],[.bs .ak,.bs .aA]⟩ (λv=>FY v.2.1 v.2.2.1 v.1.2.2.1 v.1.2.2.2.1) .z (.two .z (.two .z (.two .z (.cut ⟨[(55,.c (.ty .b))],[]⟩ (λv=>FX v.1.1) .z .z)))))))))) .z))) (okC yE (okC J6 (okC Ed (okC OC ok0)))) (vS vZ (vS vZ (vS (vB (vS vZ (vD vZ (vC vZ (vD vZ (vC vZ (vD vZ (vS vZ (vD vZ (vC vZ vZ)))))))))) vZ)))
def Rb [Fuel]:aS:={f:=147,ps:=⟨w92,[]⟩,rs:=⟨[(0,zS)],[]⟩,β:=Int,F:=λv=>C8 v.1.1 v.1.2.1 v.1.2.2.1,g:=(λr=>((r,()),())),d:=λ_=>default}
theorem YN [Fuel]:bL Tryz.prog Rb:=fnI 69 tmL [wE,Gt,Cu,Gu,K9] [] Tryz.aw8 (λv=>v.1.1) (.two .z (.two .z (.two .z (.two .z (.two (.one (.cut ⟨[(3,.c (.pb 0 0)),(4,.c (.pb 1 0)),(5,.c (.pb 2 0)),(7,.c (.pb 3 0)),(20,.c (.ty .b))],[.bs .ak,.bs .aB,.bs .aA,.bs .ay]⟩ (λv=>vJ v.2.1 v.2.2.1 v.2.2.2.1 v.2.2.2.2.1 v.1.2.2.2.2.1) .z (.two .z (.two .z (.two .z (.two .z (.two .z (.cut ⟨[(48,.c (.ty .b))],[]⟩ (λv=>vH v.1.1) .z .z)))))))) .z))))) (okC yE (okC J6 (okC Ed (okC J7 (okC OC ok0))))) (vS vZ (vS vZ (vS vZ (vS vZ (vS (vB (vC vZ (vD vZ (vS vZ (vD vZ (vS vZ (vD vZ (vC vZ vZ)))))))) vZ)))))
def V7 [Fuel]:aS:={f:=148,ps:=⟨apV,[]⟩,rs:=⟨[(0,zS)],[]⟩,β:=Int,F:=λv=>Ju v.1.1 v.1.2.1,g:=(λr=>((r,()),())),d:=λ_=>default}
theorem abz [Fuel]:bL Tryz.prog V7:=fnI 28 tmL [wE] [] Tryz.aw9 (λv=>v.1.1) .z (okC yE ok0) vZ
def Rf [Fuel]:aS:={f:=149,ps:=⟨w92,[]⟩,rs:=⟨[(0,zS)],[]⟩,β:=Int,F:=λv=>C9 v.1.1 v.1.2.1 v.1.2.2.1,g:=(λr=>((r,()),())),d:=λ_=>default}
theorem YO [Fuel]:bL Tryz.prog Rf:=fnI 71 tmL [wE,Gt,Cu,K9] [] Tryz.axa (λv=>v.1.1) (.two .z (.two .z (.two (.one (.cut ⟨[(3,.c (.pb 0 0)),(4,.c (.pb 1 0)),(5,.c (.pb 2 0)),(7,.c (.pb 3 0)),(14,.c (.ty .b))],[.bs .ak,.bs .aB,.bs .aA,.bs .ay]⟩ (λv=>vQ v.2.1 v.2.2.1 v.2.2.2.1 v.2.2.2.2.1 v.1.2.2.2.2.1) .z (.two .z (.cut ⟨[(3,.c (.pb 0 0)),(4,.c (.pb 1 0)),(5,.c (.pb 2 0)),(7,.c (.pb 3 0)),(23,.c (.ty .b))],[.bs .ak,.bs .aB,.bs .aA,.bs .ay]⟩ (λv=>vN v.2.1 v.2.2.1 v.2.2.2.1 v.2.2.2.2.1 v.1.2.2.2.2.1) .z (.two .z (.two .z (.two .z (.two .z (.two .z (.cut ⟨[(51,.c (.ty .b))],[]⟩ (λv=>vK v.1.1) .z .z)))))))))) .z))) (okC yE (okC J6 (okC Ed (okC OC ok0)))) (vS vZ (vS vZ (vS (vB (vC vZ (vD vZ (vC vZ (vD vZ (vS vZ (vD vZ (vS vZ (vD vZ (vC vZ vZ)))))))))) vZ)))
def Rh [Fuel]:aS:={f:=150,ps:=⟨apV,[]⟩,rs:=⟨[(0,zS)],[]⟩,β:=Int,F:=λv=>Da v.1.1 v.1.2.1,g:=(λr=>((r,()),())),d:=λ_=>default}
theorem YP [Fuel]:bL Tryz.prog Rh:=fnI 20 tmL [] [] Tryz.axb (λv=>v.1.1) .z ok0 vZ
def Yd [Fuel]:aS:={f:=151,ps:=⟨apV,[]⟩,rs:=⟨[(0,zS)],[]⟩,β:=Int,F:=λv=>Mj v.1.1 v.1.2.1,g:=(λr=>((r,()),())),d:=λ_=>default}
theorem adV [Fuel]:bL Tryz.prog Yd:=fnI 38 tmL [wE] [] Tryz.axc (λv=>v.1.1) (.two .z (.two .z (.two .z (.two (.one (.cut ⟨[(3,.c (.pb 0 0)),(5,.c (.pb 1 0)),(25,.c (.ty .b))],[.bs .aA,.bs .ay]⟩ (λv=>IK v.2.1 v.2.2.1 v.1.2.2.1) .z .z)) .z)))) (okC yE ok0) (vS vZ (vS vZ (vS vZ (vS (vB (vC vZ vZ)) vZ))))
def V8 [Fuel]:aS:={f:=152,ps:=⟨w92,[]⟩,rs:=⟨[(0,zS)],[]⟩,β:=Int,F:=λv=>Bz v.1.1 v.1.2.1 v.1.2.2.1,g:=(λr=>((r,()),())),d:=λ_=>default}
theorem abA [Fuel]:bL Tryz.prog V8:=fnI 141 tmL [] [] Tryz.axd (λv=>v.1.1) (.two .z (.two .z (.two .z (.two (.one (.cut ⟨[(3,.c (.pb 0 0)),(5,.c (.pb 1 0)),(7,.c (.pb 2 0)),(8,.c (.pb 3 0)),(9,.c (.ty .b)),(27,.c (.ty .b))],[.bs .ak,.bs .aA,.bs .ay,.bs .aH]⟩ (λv=>Al v.2.1 v.2.2.1 v.2.2.2.1 v.2.2.2.2.1 v.1.2.2.2.2.1 v.1.2.2.2.2.2.1) .z (.two .z (.two .z (.two .z (.cut ⟨[(3,.c (.pb 0 0)),(5,.c (.pb 1 0)),(7,.c (.pb 2 0)),(8,.c (.pb 3 0)),(9,.c (.ty .b)),(57,.c (.ty .b))],[.bs .ak,.bs .aA,.bs .ay,.bs .aH]⟩ (λv=>F5 v.2.1 v.2.2.1 v.2.2.2.1 v.2.2.2.2.1 v.1.2.2.2.2.1 v.1.2.2.2.2.2.1) .z (.two .z (.two .z (.two .z (.cut ⟨[(3,.c (.pb 0 0)),(5,.c (.pb 1 0)),(7,.c (.pb 2 0)),(9,.c (.ty .b)),(86,.c (.ty .b))],[.bs .ak,.bs .aA,.bs .ay]⟩ (λv=>F4 v.2.1 v.2.2.1 v.2.2.2.1 v.1.2.2.2.1 v.1.2.2.2.2.1) .z (.two .z (.cut ⟨[(5,.c (.pb 0 0)),(7,.c (.pb 1 0)),(9,.c (.ty .b)),(97,.c (.ty .b))],[.bs .aA,.bs .ay]⟩ (λv=>wz v.2.1 v.2.2.1 v.1.2.2.1 v.1.2.2.2.1) .z (.two .z (.cut ⟨[(124,.c (.ty .b))],[]⟩ (λv=>F3 v.1.1) .z .z)))))))))))))) .z)))) ok0 (vS vZ (vS vZ (vS vZ (vS (vB (vC vZ (vD vZ (vS vZ (vD vZ (vC vZ (vD vZ (vS vZ (vD vZ (vC vZ (vD vZ (vC vZ (vD vZ (vC vZ vZ)))))))))))))) vZ))))
def aaH [Fuel]:aS:={f:=153,ps:=⟨apV,[]⟩,rs:=⟨[(0,zS)],[]⟩,β:=Int,F:=λv=>QD v.1.1 v.1.2.1,g:=(λr=>((r,()),())),d:=λ_=>default}
theorem agh [Fuel]:bL Tryz.prog aaH:=fnI 22 tmL [] [] Tryz.axe (λv=>v.1.1) .z ok0 vZ
def Ye [Fuel]:aS:={f:=154,ps:=⟨apV,[]⟩,rs:=⟨[(0,zS)],[]⟩,β:=Int,F:=λv=>Mk v.1.1 v.1.2.1,g:=(λr=>((r,()),())),d:=λ_=>default}
theorem adW [Fuel]:bL Tryz.prog Ye:=fnI 15 tmL [] [] Tryz.axf (λv=>v.1.1) .z ok0 vZ
end Go.Proofs
