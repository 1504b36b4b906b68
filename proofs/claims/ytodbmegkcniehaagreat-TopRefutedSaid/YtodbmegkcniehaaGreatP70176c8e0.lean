/-
 DERIVED: THE SHELF's CONTRACTS AT THIS DUMP, IN PLAIN WORDS (tools/lay-plain.mjs out of 'ZzLays16.lean', which tools/lay-shelf.mjs wrote): THE SAME DECLARATIONS UNDER THE SAME NAMES: 'import', 'namespace', 'open', 'def', 'theorem' AND NOTHING ELSE: no command of the shelf's: FOR A HAND-IN. Each laying: the table of numbers ('.._ren') and one theorem, a field a fact of the dump's own or the kernel's comparison; each contract: ONE APPLICATION.
-/
import Derived.Shelf.SlIter.Nil
import Derived.Shelf.SortM.Plain
import Derived.Shelf.SortM.SortNone
import Derived.Shelf.SlMaps.Clone
import Derived.Shelf.SlSortCmp.NoneTotal
import Derived.Test.YtodbmegkcniehaaGreatProg
import Derived.Test.YtodbmegkcniehaaGreatP63e6fde7d
set_option linter.unusedSimpArgs false
set_option linter.unusedVariables false
namespace Go.Proofs
open Go.Shelf
def Tryz.ae0:Go.Shelf.Ren:=⟨λ|7=>253|10=>313|n=>n,λ|23=>201|26=>9|3=>199|28=>326|0=>0|27=>325|33=>195|4=>4|n=>n,λ|n=>n⟩
theorem Tryz.aqL:Go.Proofs.SlLaysZ.n7 Tryz.prog Tryz.ae0:={
 mixed:=by kernel_rfl
 f7:=⟨Tryz.f253.name,by decide,Tryz.func253.trans (congrArg some (by kernel_rfl))⟩
 f10:=⟨Tryz.f313.name,by decide,Tryz.func313.trans (congrArg some (by kernel_rfl))⟩
 t0:=Tryz.underlying0
 a0:=Tryz.isAgg0
 z0:=Tryz.sizeOf0
 v0:=Tryz.zeroValue0
 t4:=Tryz.underlying4
 a4:=Tryz.isAgg4
 z4:=Tryz.sizeOf4
 v4:=Tryz.zeroValue4
 t23:=Tryz.underlying201
 a23:=Tryz.isAgg201
 z23:=Tryz.sizeOf201
 v23:=Tryz.zeroValue201
 t26:=Tryz.underlying9
 a26:=Tryz.isAgg9
 z26:=Tryz.sizeOf9
 v26:=Tryz.zeroValue9
 t27:=Tryz.underlying325
 a27:=Tryz.isAgg325
 z27:=Tryz.sizeOf325
 v27:=Tryz.zeroValue325
 t28:=Tryz.underlying326
 a28:=Tryz.isAgg326
 z28:=Tryz.sizeOf326
 v28:=Tryz.zeroValue326
 t33:=Tryz.underlying195
 a33:=Tryz.isAgg195
 z33:=Tryz.sizeOf195
 v33:=Tryz.zeroValue195}
def Tryz.ZR:Go.Shelf.Ren:=⟨λ|6=>252|8=>311|9=>312|11=>350|13=>198|12=>351|23=>272|24=>273|14=>369|15=>370|16=>371|17=>372|18=>373|19=>374|20=>375|21=>376|22=>377|25=>383|26=>321|27=>322|28=>384|29=>385|30=>386|31=>388|n=>n,λ|26=>9|28=>326|24=>275|0=>0|3=>3|37=>38|48=>176|50=>178|4=>4|40=>332|39=>331|45=>130|5=>5|9=>9|51=>369|55=>157|57=>397|58=>398|33=>195|n=>n,λ|n=>n⟩
theorem Tryz.ao6:Go.Proofs.SlLaysZ.n6 Tryz.prog Tryz.ZR:={
 mixed:=by kernel_rfl
 f6:=⟨Tryz.f252.name,by decide,Tryz.func252.trans (congrArg some (by kernel_rfl))⟩
 f8:=⟨Tryz.f311.name,by decide,Tryz.func311.trans (congrArg some (by kernel_rfl))⟩
 f11:=⟨Tryz.f350.name,by decide,Tryz.func350.trans (congrArg some (by kernel_rfl))⟩
 t0:=Tryz.underlying0
 a0:=Tryz.isAgg0
 z0:=Tryz.sizeOf0
 v0:=Tryz.zeroValue0
 t24:=Tryz.underlying275
 a24:=Tryz.isAgg275
 z24:=Tryz.sizeOf275
 v24:=Tryz.zeroValue275
 t26:=Tryz.underlying9
 a26:=Tryz.isAgg9
 z26:=Tryz.sizeOf9
 v26:=Tryz.zeroValue9
 t28:=Tryz.underlying326
 a28:=Tryz.isAgg326
 z28:=Tryz.sizeOf326
 v28:=Tryz.zeroValue326
 i26:=by kernel_rfl}
def Tryz.alE:Go.Shelf.Ren:=⟨λ|6=>312|8=>198|9=>351|19=>272|20=>273|21=>369|22=>370|23=>371|24=>372|25=>373|26=>374|27=>375|28=>376|29=>377|36=>383|31=>321|32=>322|37=>384|38=>385|39=>386|41=>388|n=>n,λ|27=>275|29=>9|3=>3|32=>38|26=>275|0=>0|44=>176|46=>178|4=>4|36=>332|35=>331|41=>130|5=>5|9=>9|53=>369|57=>157|63=>397|64=>398|n=>n,λ|n=>n⟩
theorem Tryz.aqM:Go.Proofs.SlLaysM.n6 Tryz.prog Tryz.alE:={
 mixed:=by kernel_rfl
 f6:=⟨Tryz.f312.name,by decide,Tryz.func312.trans (congrArg some (by kernel_rfl))⟩
 f8:=Tryz.func198.trans (congrArg some (by kernel_rfl))
 f9:=⟨Tryz.f351.name,by decide,Tryz.func351.trans (congrArg some (by kernel_rfl))⟩
 f19:=Tryz.func272.trans (congrArg some (by kernel_rfl))
 f20:=Tryz.func273.trans (congrArg some (by kernel_rfl))
 f21:=⟨Tryz.f369.name,by decide,Tryz.func369.trans (congrArg some (by kernel_rfl))⟩
 f22:=⟨Tryz.f370.name,by decide,Tryz.func370.trans (congrArg some (by kernel_rfl))⟩
 f23:=⟨Tryz.f371.name,by decide,Tryz.func371.trans (congrArg some (by kernel_rfl))⟩
 f24:=⟨Tryz.f372.name,by decide,Tryz.func372.trans (congrArg some (by kernel_rfl))⟩
 f25:=⟨Tryz.f373.name,by decide,Tryz.func373.trans (congrArg some (by kernel_rfl))⟩
 f26:=⟨Tryz.f374.name,by decide,Tryz.func374.trans (congrArg some (by kernel_rfl))⟩
 f27:=⟨Tryz.f375.name,by decide,Tryz.func375.trans (congrArg some (by kernel_rfl))⟩
 f28:=⟨Tryz.f376.name,by decide,Tryz.func376.trans (congrArg some (by kernel_rfl))⟩
 f29:=⟨Tryz.f377.name,by decide,Tryz.func377.trans (congrArg some (by kernel_rfl))⟩
 f31:=Tryz.func321.trans (congrArg some (by kernel_rfl))
 f32:=Tryz.func322.trans (congrArg some (by kernel_rfl))
 f36:=⟨Tryz.f383.name,by decide,Tryz.func383.trans (congrArg some (by kernel_rfl))⟩
 f37:=⟨Tryz.f384.name,by decide,Tryz.func384.trans (congrArg some (by kernel_rfl))⟩
 f38:=⟨Tryz.f385.name,by decide,Tryz.func385.trans (congrArg some (by kernel_rfl))⟩
 f39:=⟨Tryz.f386.name,by decide,Tryz.func386.trans (congrArg some (by kernel_rfl))⟩
 f41:=⟨Tryz.f388.name,by decide,Tryz.func388.trans (congrArg some (by kernel_rfl))⟩
 t0:=Tryz.underlying0
 a0:=Tryz.isAgg0
 z0:=Tryz.sizeOf0
 v0:=Tryz.zeroValue0
 t3:=Tryz.underlying3
 a3:=Tryz.isAgg3
 z3:=Tryz.sizeOf3
 v3:=Tryz.zeroValue3
 t4:=Tryz.underlying4
 a4:=Tryz.isAgg4
 z4:=Tryz.sizeOf4
 v4:=Tryz.zeroValue4
 t5:=Tryz.underlying5
 a5:=Tryz.isAgg5
 z5:=Tryz.sizeOf5
 v5:=Tryz.zeroValue5
 t9:=Tryz.underlying9
 a9:=Tryz.isAgg9
 z9:=Tryz.sizeOf9
 v9:=Tryz.zeroValue9
 t26:=Tryz.underlying275
 a26:=Tryz.isAgg275
 z26:=Tryz.sizeOf275
 v26:=Tryz.zeroValue275
 t27:=Tryz.underlying275
 a27:=Tryz.isAgg275
 z27:=Tryz.sizeOf275
 v27:=Tryz.zeroValue275
 t29:=Tryz.underlying9
 a29:=Tryz.isAgg9
 z29:=Tryz.sizeOf9
 v29:=Tryz.zeroValue9
 t32:=Tryz.underlying38
 a32:=Tryz.isAgg38
 z32:=Tryz.sizeOf38
 v32:=Tryz.zeroValue38
 t35:=Tryz.underlying331
 a35:=Tryz.isAgg331
 z35:=Tryz.sizeOf331
 v35:=Tryz.zeroValue331
 t36:=Tryz.underlying332
 a36:=Tryz.isAgg332
 z36:=Tryz.sizeOf332
 v36:=Tryz.zeroValue332
 t41:=Tryz.underlying130
 a41:=Tryz.isAgg130
 z41:=Tryz.sizeOf130
 v41:=Tryz.zeroValue130
 t44:=Tryz.underlying176
 a44:=Tryz.isAgg176
 z44:=Tryz.sizeOf176
 v44:=Tryz.zeroValue176
 t46:=Tryz.underlying178
 a46:=Tryz.isAgg178
 z46:=Tryz.sizeOf178
 v46:=Tryz.zeroValue178
 t53:=Tryz.underlying369
 a53:=Tryz.isAgg369
 z53:=Tryz.sizeOf369
 v53:=Tryz.zeroValue369
 t57:=Tryz.underlying157
 a57:=Tryz.isAgg157
 z57:=Tryz.sizeOf157
 v57:=Tryz.zeroValue157
 t63:=Tryz.underlying397
 a63:=Tryz.isAgg397
 z63:=Tryz.sizeOf397
 v63:=Tryz.zeroValue397
 t64:=Tryz.underlying398
 a64:=Tryz.isAgg398
 z64:=Tryz.sizeOf398
 v64:=Tryz.zeroValue398}
def Tryz.agw:Go.Shelf.Ren:=⟨λ|5=>314|7=>352|n=>n,λ|23=>201|25=>9|3=>199|4=>4|20=>20|n=>n,λ|n=>n⟩
theorem Tryz.ao7:Go.Proofs.SlLaysW.n5 Tryz.prog Tryz.agw:={
 mixed:=by kernel_rfl
 f5:=⟨Tryz.f314.name,by decide,Tryz.func314.trans (congrArg some (by kernel_rfl))⟩
 f7:=Tryz.func352.trans (congrArg some (by kernel_rfl))
 t4:=Tryz.underlying4
 a4:=Tryz.isAgg4
 z4:=Tryz.sizeOf4
 v4:=Tryz.zeroValue4
 t20:=Tryz.underlying20
 a20:=Tryz.isAgg20
 z20:=Tryz.sizeOf20
 v20:=Tryz.zeroValue20
 t23:=Tryz.underlying201
 a23:=Tryz.isAgg201
 z23:=Tryz.sizeOf201
 v23:=Tryz.zeroValue201}
def Tryz.agx:Go.Shelf.Ren:=⟨λ|6=>110|15=>198|14=>197|28=>272|29=>273|20=>264|21=>265|22=>266|23=>267|24=>268|25=>269|26=>270|27=>271|46=>320|47=>321|48=>322|49=>323|50=>324|57=>354|n=>n,λ|22=>72|24=>80|25=>219|3=>3|39=>38|0=>0|53=>176|55=>178|4=>4|46=>332|45=>331|50=>130|5=>5|9=>9|66=>369|70=>157|76=>397|77=>398|n=>n,λ|n=>n⟩
theorem Tryz.ao8:Go.Proofs.SlLaysF0.n6 Tryz.prog Tryz.agx:={
 mixed:=by kernel_rfl
 f6:=⟨Tryz.f110.name,by decide,Tryz.func110.trans (congrArg some (by kernel_rfl))⟩
 f14:=⟨Tryz.f197.name,by decide,Tryz.func197.trans (congrArg some (by kernel_rfl))⟩
 f15:=Tryz.func198.trans (congrArg some (by kernel_rfl))
 f20:=⟨Tryz.f264.name,by decide,Tryz.func264.trans (congrArg some (by kernel_rfl))⟩
 f21:=⟨Tryz.f265.name,by decide,Tryz.func265.trans (congrArg some (by kernel_rfl))⟩
 f22:=⟨Tryz.f266.name,by decide,Tryz.func266.trans (congrArg some (by kernel_rfl))⟩
 f23:=⟨Tryz.f267.name,by decide,Tryz.func267.trans (congrArg some (by kernel_rfl))⟩
 f24:=⟨Tryz.f268.name,by decide,Tryz.func268.trans (congrArg some (by kernel_rfl))⟩
 f25:=⟨Tryz.f269.name,by decide,Tryz.func269.trans (congrArg some (by kernel_rfl))⟩
 f26:=⟨Tryz.f270.name,by decide,Tryz.func270.trans (congrArg some (by kernel_rfl))⟩
 f27:=⟨Tryz.f271.name,by decide,Tryz.func271.trans (congrArg some (by kernel_rfl))⟩
 f28:=Tryz.func272.trans (congrArg some (by kernel_rfl))
 f29:=Tryz.func273.trans (congrArg some (by kernel_rfl))
 f46:=⟨Tryz.f320.name,by decide,Tryz.func320.trans (congrArg some (by kernel_rfl))⟩
 f47:=Tryz.func321.trans (congrArg some (by kernel_rfl))
 f48:=Tryz.func322.trans (congrArg some (by kernel_rfl))
 f49:=⟨Tryz.f323.name,by decide,Tryz.func323.trans (congrArg some (by kernel_rfl))⟩
 f50:=⟨Tryz.f324.name,by decide,Tryz.func324.trans (congrArg some (by kernel_rfl))⟩
 f57:=⟨Tryz.f354.name,by decide,Tryz.func354.trans (congrArg some (by kernel_rfl))⟩
 t0:=Tryz.underlying0
 a0:=Tryz.isAgg0
 z0:=Tryz.sizeOf0
 v0:=Tryz.zeroValue0
 t3:=Tryz.underlying3
 a3:=Tryz.isAgg3
 z3:=Tryz.sizeOf3
 v3:=Tryz.zeroValue3
 t4:=Tryz.underlying4
 a4:=Tryz.isAgg4
 z4:=Tryz.sizeOf4
 v4:=Tryz.zeroValue4
 t5:=Tryz.underlying5
 a5:=Tryz.isAgg5
 z5:=Tryz.sizeOf5
 v5:=Tryz.zeroValue5
 t9:=Tryz.underlying9
 a9:=Tryz.isAgg9
 z9:=Tryz.sizeOf9
 v9:=Tryz.zeroValue9
 t22:=Tryz.underlying72
 a22:=Tryz.isAgg72
 z22:=Tryz.sizeOf72
 v22:=Tryz.zeroValue72
 t25:=Tryz.underlying219
 a25:=Tryz.isAgg219
 z25:=Tryz.sizeOf219
 v25:=Tryz.zeroValue219
 t39:=Tryz.underlying38
 a39:=Tryz.isAgg38
 z39:=Tryz.sizeOf38
 v39:=Tryz.zeroValue38
 t45:=Tryz.underlying331
 a45:=Tryz.isAgg331
 z45:=Tryz.sizeOf331
 v45:=Tryz.zeroValue331
 t46:=Tryz.underlying332
 a46:=Tryz.isAgg332
 z46:=Tryz.sizeOf332
 v46:=Tryz.zeroValue332
 t50:=Tryz.underlying130
 a50:=Tryz.isAgg130
 z50:=Tryz.sizeOf130
 v50:=Tryz.zeroValue130
 t53:=Tryz.underlying176
 a53:=Tryz.isAgg176
 z53:=Tryz.sizeOf176
 v53:=Tryz.zeroValue176
 t55:=Tryz.underlying178
 a55:=Tryz.isAgg178
 z55:=Tryz.sizeOf178
 v55:=Tryz.zeroValue178
 t66:=Tryz.underlying369
 a66:=Tryz.isAgg369
 z66:=Tryz.sizeOf369
 v66:=Tryz.zeroValue369
 t70:=Tryz.underlying157
 a70:=Tryz.isAgg157
 z70:=Tryz.sizeOf157
 v70:=Tryz.zeroValue157
 t76:=Tryz.underlying397
 a76:=Tryz.isAgg397
 z76:=Tryz.sizeOf397
 v76:=Tryz.zeroValue397
 t77:=Tryz.underlying398
 a77:=Tryz.isAgg398
 z77:=Tryz.sizeOf398
 v77:=Tryz.zeroValue398}
def Tryz.agy:Go.Shelf.Ren:=⟨λ|6=>119|15=>198|14=>201|28=>272|29=>273|20=>274|21=>275|22=>276|23=>277|24=>278|25=>279|26=>280|27=>281|46=>325|47=>321|48=>322|49=>326|50=>327|57=>355|n=>n,λ|22=>22|24=>3|25=>88|3=>3|39=>38|0=>0|53=>176|55=>178|4=>4|46=>332|45=>331|50=>130|5=>5|9=>9|66=>369|70=>157|76=>397|77=>398|n=>n,λ|n=>n⟩
theorem Tryz.ao9:Go.Proofs.SlLaysF.n6 Tryz.prog Tryz.agy:={
 mixed:=by kernel_rfl
 f6:=⟨Tryz.f119.name,by decide,Tryz.func119.trans (congrArg some (by kernel_rfl))⟩
 f14:=⟨Tryz.f201.name,by decide,Tryz.func201.trans (congrArg some (by kernel_rfl))⟩
 f15:=Tryz.func198.trans (congrArg some (by kernel_rfl))
 f20:=⟨Tryz.f274.name,by decide,Tryz.func274.trans (congrArg some (by kernel_rfl))⟩
 f21:=⟨Tryz.f275.name,by decide,Tryz.func275.trans (congrArg some (by kernel_rfl))⟩
 f22:=⟨Tryz.f276.name,by decide,Tryz.func276.trans (congrArg some (by kernel_rfl))⟩
 f23:=⟨Tryz.f277.name,by decide,Tryz.func277.trans (congrArg some (by kernel_rfl))⟩
 f24:=⟨Tryz.f278.name,by decide,Tryz.func278.trans (congrArg some (by kernel_rfl))⟩
 f25:=⟨Tryz.f279.name,by decide,Tryz.func279.trans (congrArg some (by kernel_rfl))⟩
 f26:=⟨Tryz.f280.name,by decide,Tryz.func280.trans (congrArg some (by kernel_rfl))⟩
 f27:=⟨Tryz.f281.name,by decide,Tryz.func281.trans (congrArg some (by kernel_rfl))⟩
 f28:=Tryz.func272.trans (congrArg some (by kernel_rfl))
 f29:=Tryz.func273.trans (congrArg some (by kernel_rfl))
 f46:=⟨Tryz.f325.name,by decide,Tryz.func325.trans (congrArg some (by kernel_rfl))⟩
 f47:=Tryz.func321.trans (congrArg some (by kernel_rfl))
 f48:=Tryz.func322.trans (congrArg some (by kernel_rfl))
 f49:=⟨Tryz.f326.name,by decide,Tryz.func326.trans (congrArg some (by kernel_rfl))⟩
 f50:=⟨Tryz.f327.name,by decide,Tryz.func327.trans (congrArg some (by kernel_rfl))⟩
 f57:=⟨Tryz.f355.name,by decide,Tryz.func355.trans (congrArg some (by kernel_rfl))⟩
 t0:=Tryz.underlying0
 a0:=Tryz.isAgg0
 z0:=Tryz.sizeOf0
 v0:=Tryz.zeroValue0
 t3:=Tryz.underlying3
 a3:=Tryz.isAgg3
 z3:=Tryz.sizeOf3
 v3:=Tryz.zeroValue3
 t4:=Tryz.underlying4
 a4:=Tryz.isAgg4
 z4:=Tryz.sizeOf4
 v4:=Tryz.zeroValue4
 t5:=Tryz.underlying5
 a5:=Tryz.isAgg5
 z5:=Tryz.sizeOf5
 v5:=Tryz.zeroValue5
 t9:=Tryz.underlying9
 a9:=Tryz.isAgg9
 z9:=Tryz.sizeOf9
 v9:=Tryz.zeroValue9
 t22:=Tryz.underlying22
 a22:=Tryz.isAgg22
 z22:=Tryz.sizeOf22
 v22:=Tryz.zeroValue22
 a24:=Tryz.isAgg3
 z24:=Tryz.sizeOf3
 t25:=Tryz.underlying88
 a25:=Tryz.isAgg88
 z25:=Tryz.sizeOf88
 v25:=Tryz.zeroValue88
 t39:=Tryz.underlying38
 a39:=Tryz.isAgg38
 z39:=Tryz.sizeOf38
 v39:=Tryz.zeroValue38
 t45:=Tryz.underlying331
 a45:=Tryz.isAgg331
 z45:=Tryz.sizeOf331
 v45:=Tryz.zeroValue331
 t46:=Tryz.underlying332
 a46:=Tryz.isAgg332
 z46:=Tryz.sizeOf332
 v46:=Tryz.zeroValue332
 t50:=Tryz.underlying130
 a50:=Tryz.isAgg130
 z50:=Tryz.sizeOf130
 v50:=Tryz.zeroValue130
 t53:=Tryz.underlying176
 a53:=Tryz.isAgg176
 z53:=Tryz.sizeOf176
 v53:=Tryz.zeroValue176
 t55:=Tryz.underlying178
 a55:=Tryz.isAgg178
 z55:=Tryz.sizeOf178
 v55:=Tryz.zeroValue178
 t66:=Tryz.underlying369
 a66:=Tryz.isAgg369
 z66:=Tryz.sizeOf369
 v66:=Tryz.zeroValue369
 t70:=Tryz.underlying157
 a70:=Tryz.isAgg157
 z70:=Tryz.sizeOf157
 v70:=Tryz.zeroValue157
 t76:=Tryz.underlying397
 a76:=Tryz.isAgg397
 z76:=Tryz.sizeOf397
 v76:=Tryz.zeroValue397
 t77:=Tryz.underlying398
 a77:=Tryz.isAgg398
 z77:=Tryz.sizeOf398
 v77:=Tryz.zeroValue398}
end Go.Proofs
namespace Go.Proofs
open Go.RowKit Go.Maps Go.Sort Go.Shelf
theorem Tryz.aqN (m:Nat):AnyZ.SortsIn Tryz.prog Tryz.ZR Fence.wide m:=
  ⟨λblk off cap ss W hH hblk hsz=>callsIn_wide.2 (AnyM.slices_Sort_string Tryz.aqM blk off cap ss W hH hblk hsz),
   λp cap W=>callsIn_wide.2 (AnyM.slices_Sort_string_none Tryz.aqM p cap W)⟩
set_option maxHeartbeats 2000000 in
theorem Tryz.keys_empty (b0 b clock:Nat) (w:World) (hc:w.cell? ⟨b0,0,none⟩=some (.map (some b))) (hm:w.heap[b]? =some (.map #[] clock)):
    Calls Tryz.prog 188 #[.pointer (some ⟨b0,0,none⟩)] w λe w'=>e= .returned (.slice none 0 0)/\Below w.heap.size w w':=by
  refine(callsIn_wide (n:=6)).1 ?_
  have hown:w.ownsMap (H:=Nat) Tryz.prog 9 (λ_=>none) b 0 (.map []):=⟨#[],clock,hm,⟨by simp,Go.MapKept.stamped_empty clock,by simp⟩,Nat.le_refl _,rfl⟩
  have hbl:=hown.lt
  have hseq:SeqGives Fence.wide 2 Tryz.prog 313 #[.pointer (some ⟨w.heap.size,0,none⟩)] encStr (λss=>ss.Perm (strKeys (H:=Nat) (.map []))) (Maps.size (H:=Nat) (.map [])) (w.alloc (.cells #[.map (some b)] 201)):=
    AnyZ.keys_gives (ρ:=Tryz.ae0) {Tryz.aqL with} Fence.wide _ trivial rfl (by omega) w.heap.size b 0 (.map []) _ (by simp) (by simp) (by
      obtain⟨es,clock,hb,Ft,hs,hD⟩:=hown
      exact⟨es,clock,(Below.heap_alloc _ _ b hbl).trans hb,Ft,hs,hD⟩)
  have cK:∀mb W,CallsIn Fence.wide 5 Tryz.prog 253 #[.map mb] W λe w'=>e= .returned (.func (.func 313) #[] #[.pointer (some ⟨W.heap.size,0,none⟩)])/\w'=W.alloc (.cells #[.map mb] 201):=λmb W=>AnyZ.keys_in Tryz.aqL Fence.wide 5 trivial rfl mb W
  have cS:=AnyZ.sorted_in Tryz.ao6 Fence.wide 5 trivial trivial trivial trivial rfl (by omega) (Tryz.aqN _) (enters_of Tryz.func312 (by kernel_rfl) rfl) 313 #[.pointer (some ⟨w.heap.size,0,none⟩)] trivial (enters_of Tryz.func313 (by kernel_rfl) rfl) _ _ (by simp [Maps.size]) (by simp [Maps.size]) _ hseq
  change CallsIn _ _ Tryz.prog 252 _ _ _ at cS
  have hfK:Fence.wide.fn 253:=trivial
  have hfS:Fence.wide.fn 252:=trivial
  refine callsIn_of_wp Tryz.func188 rfl trivial ?_ rfl
  simp only [Tryz.ntmps188,List.size_toArray,List.length_cons,List.length_nil,Nat.reduceAdd,Nat.reduceSub,Array.replicate_succ,Array.replicate_zero,List.push_toArray,List.append_toArray,List.nil_append,List.cons_append]
  gi_wp2_with (first
    |(gi_at_call 253;refine(cK _ _).mono ?_;rintro e w' ⟨rfl,rfl⟩)
    |(gi_at_call 252;refine cS.mono ?_;rintro e w' ⟨v,ss,rfl,hS,hrow,hnil,hb⟩))
  go_ret
  have hss:ss= []:=by
    have:=hS.length_eq
    exact List.length_eq_zero_iff.1 (by simpa [strKeys]using this)
  obtain rfl:v= .slice none 0 0:=hnil.2 hss
  exact⟨rfl,((Below.refl _ w).alloc (Nat.le_refl _) _).trans (hb.mono (by simp))⟩
end Go.Proofs
namespace Go.Proofs
open Go Go.AM Go.CP Go.RowKit
set_option maxRecDepth 100000
def tmL:List (Nat×Ty):= [(22,(.i .i64)),(23,(.n .aK)),(24,(.n .dQ)),(29,(.n .dn)),(30,(.n .cu)),(31,(.n .aW)),(32,(.n .aY)),(44,(.n .aA)),(46,(.n .ay)),(47,(.n .aH)),(72,(.n .bE)),(121,(.n .aU)),(150,(.n .aI)),(189,(.n .aT)),(204,(.n .bP)),(205,(.n .bH)),(222,(.n .aC)),(233,(.n .bM)),(275,.s),(286,(.l (.n .aI))),(315,(.n .aG)),(378,(.i .u8))]
def ae1:aS:={f:=13,ps:=⟨[],[]⟩,rs:=⟨ahl,[]⟩,β:=ak,F:=λv=>akP,g:=(λr=>((r,()),())),d:=λ_=>default}
theorem aiX [Fuel]:bL Tryz.prog ae1:=fnI 14 tmL [] [] Tryz.func13 (λv=>v.1.1) .z ok0 vZ
def zq:aS:={f:=200,ps:=⟨ark,[]⟩,rs:=⟨zy,[]⟩,β:=Bool,F:=λv=>dH v.1.1 v.1.2.1 v.1.2.2.1,g:=(λr=>((r,()),())),d:=λ_=>default}
theorem Ba [Fuel]:bL Tryz.prog zq:=fnI 15 tmL [] [] Tryz.func200 (λv=>v.1.1) .z ok0 vZ
def Tv:aS:={f:=115,ps:=⟨ahl,[]⟩,rs:=⟨zy,[]⟩,β:=Bool,F:=λv=>La v.1.1,g:=(λr=>((r,()),())),d:=λ_=>default}
theorem ZT [Fuel]:bL Tryz.prog Tv:=fnI 42 tmL [zq] [] Tryz.func115 (λv=>v.1.1) .z (okC Ba ok0) vZ
def Vv [Fuel]:aS:={f:=116,ps:=⟨ahl,[]⟩,rs:=⟨zy,[]⟩,β:=Bool,F:=λv=>NJ v.1.1,g:=(λr=>((r,()),())),d:=λ_=>default}
theorem aaK [Fuel]:bL Tryz.prog Vv:=fnI 68 tmL [zq] [] Tryz.func116 (λv=>v.1.1) (.two .z (.two (.two .z (.one (.lp ⟨[(1,.c (.pb 0 0)),(13,.c (.ty (.l (.n .dn)))),(14,zS),(15,zS)],[.bs .ak]⟩ (λn v=>Az v.2.1 v.1.2.1 v.1.2.2.1 n v.1.2.2.2.1) λaiY=> .z))) (.two .z (.two (.two .z (.one (.lp ⟨[(1,.c (.pb 0 0)),(5,zS),(32,.c (.ty (.l (.n .cu)))),(33,zS),(34,zS)],[.bs .ak]⟩ (λn v=>Ay v.2.1 v.1.2.1 v.1.2.2.1 v.1.2.2.2.1 n v.1.2.2.2.2.1) λaiZ=> .z))) (.two (.two .z (.one (.lp ⟨[(1,.c (.pb 0 0)),(5,zS),(45,.c (.ty (.l (.i .i64)))),(46,zS),(47,zS)],[.bs .ak]⟩ (λn v=>Aw v.2.1 v.1.2.1 v.1.2.2.1 v.1.2.2.2.1 n v.1.2.2.2.2.1) λai0=> .z))) (.two (.two .z (.one (.lp ⟨[(5,zS),(57,.c (.ty (.l (.i .i64)))),(58,zS),(59,zS)],[]⟩ (λn v=>Av v.1.1 v.1.2.1 v.1.2.2.1 n v.1.2.2.2.1) λai1=> .z))) .z)))))) (okC Ba ok0) (vS vZ (vS (vS vZ (vB (vL λ_=>vZ))) (vS vZ (vS (vS vZ (vB (vL λ_=>vZ))) (vS (vS vZ (vB (vL λ_=>vZ))) (vS (vS vZ (vB (vL λ_=>vZ))) vZ))))))
def Vw [Fuel]:aS:={f:=117,ps:=⟨ahl,[]⟩,rs:=⟨zy,[]⟩,β:=Bool,F:=λv=>NK v.1.1,g:=(λr=>((r,()),())),d:=λ_=>default}
theorem aaL [Fuel]:bL Tryz.prog Vw:=fnI 65 tmL [zq] [] Tryz.func117 (λv=>v.1.1) (.two .z (.two (.two .z (.one (.lp ⟨[(1,.c (.pb 0 0)),(8,.c (.ty (.l (.n .cu)))),(9,zS),(10,zS)],[.bs .ak]⟩ (λn v=>AB v.2.1 v.1.2.1 v.1.2.2.1 n v.1.2.2.2.1) λai2=> .z))) (.two (.two .z (.one (.lp ⟨[(1,.c (.pb 0 0)),(20,.c (.ty (.l (.n .aY)))),(21,zS),(22,zS)],[.bs .ak]⟩ (λn v=>AA v.2.1 v.1.2.1 v.1.2.2.1 n v.1.2.2.2.1) λai3=> .z))) .z))) (okC Ba ok0) (vS vZ (vS (vS vZ (vB (vL λ_=>vZ))) (vS (vS vZ (vB (vL λ_=>vZ))) vZ)))
def Xy [Fuel]:aS:={f:=51,ps:=⟨ahl,[]⟩,rs:=⟨[(0,zS)],[]⟩,β:=Int,F:=λv=>RV v.1.1,g:=(λr=>((r,()),())),d:=λ_=>default}
theorem acY [Fuel]:bL Tryz.prog Xy:=fnI 21 tmL [Tv,Vv,Vw] [] Tryz.func51 (λv=>v.1.1) .z (okC ZT (okC aaK (okC aaL ok0))) vZ
def Kj:aS:={f:=118,ps:=⟨ark,[]⟩,rs:=⟨zy,[]⟩,β:=Bool,F:=λv=>lD v.1.1 v.1.2.1 v.1.2.2.1,g:=(λr=>((r,()),())),d:=λ_=>default}
theorem O9 [Fuel]:bL Tryz.prog Kj:=fnI 15 tmL [] [] Tryz.func118 (λv=>v.1.1) .z ok0 vZ
def Lr:aS:={f:=52,ps:=⟨[(0,.st .aW),(1,zS)],[]⟩,rs:=⟨zy,[]⟩,β:=Bool,F:=λv=>Bz v.1.1 v.1.2.1,g:=(λr=>((r,()),())),d:=λ_=>default}
theorem Um [Fuel]:bL Tryz.prog Lr:=fnI 39 tmL [Kj] [] Tryz.func52 (λv=>v.1.1) .z (okC O9 ok0) vZ
def wO [Fuel]:aS:={f:=24,ps:=⟨ahl,[]⟩,rs:=⟨[(0,zS)],[]⟩,β:=Int,F:=λv=>uD v.1.1,g:=(λr=>((r,()),())),d:=λ_=>default}
theorem yM [Fuel]:bL Tryz.prog wO:=fnI 24 tmL [Xy,Lr] [] Tryz.func24 (λv=>v.1.1) (.two .z (.two .z (.two (.two .z (.one (.lp ⟨[(1,.c (.pb 0 0)),(12,.c (.ty (.l (.n .aW)))),(13,zS),(14,zS)],[.bs .ak]⟩ (λn v=>sW v.2.1 v.1.2.1 v.1.2.2.1 n v.1.2.2.2.1) λahL=> .z))) .z))) (okC acY (okC Um ok0)) (vS vZ (vS vZ (vS (vS vZ (vB (vL λ_=>vZ))) vZ)))
def IX:aS:={f:=288,ps:=⟨[],[]⟩,rs:=⟨aeu,[o41,.ar (.i .u8)]⟩,β:=aZ,F:=λv=>ahm,g:=(λr=>(((),()),g0 r)),d:=λ_=>default}
theorem QX [Fuel]:bL Tryz.prog IX:=fnI 3 tmL [] [] Tryz.func288 (λv=>((m0 v.2))) .z ok0 vZ
def rY:aS:={f:=234,ps:=⟨[],[]⟩,rs:=aqa,β:=aJ,F:=λv=>Zm,g:=(λr=>(((),()),g1 r)),d:=λ_=>default}
theorem Dj [Fuel]:bL Tryz.prog rY:=fnI 4 tmL [IX] [] Tryz.func234 (λv=>(m1 v.2)) .z (okC QX ok0) vZ
def nT:aS:={f:=168,ps:=⟨akI,[]⟩,rs:=ap8,β:=(aj×Int),F:=λv=>Zn v.1.1 v.1.2.1,g:=(λr=>(((),(r.2,())),g2 r.1)),d:=λ_=>default}
theorem xQ [Fuel]:bL Tryz.prog nT:=fnI 31 tmL [rY] [] Tryz.func168 (λv=>((m3 v.2),v.1.2.1)) .z (okC Dj ok0) vZ
def iH:aS:={f:=87,ps:=⟨[(0,zS)],[]⟩,rs:=apo,β:=(aL×Int),F:=λv=>abK v.1.1,g:=(λr=>(((),(r.2,())),g3 r)),d:=λ_=>default}
theorem nI [Fuel]:bL Tryz.prog iH:=fnI 39 tmL [nT] [] Tryz.func87 (λv=>((m4 v.2),v.1.2.1)) (.two .z (.two .z (.two (.two .z (.one (.un (.two (.two .z (.ct .z)) .z) (.un (.two (.two .z (.cf .z)) .z) .z)))) .z))) (okC xQ ok0) (vS vZ (vS vZ (vS (vS vZ (vB (vU (vV (vS (vS vZ (vT vZ)) vZ) (vV (vS (vS vZ (vF vZ)) vZ) vX))))) vZ)))
def sM:aS:={f:=169,ps:=⟨[(0,.c (.ty (.l (.n .dn))))],[]⟩,rs:=⟨[(0,.c (.ty (.l (.n .dn))))],[]⟩,β:=(List dn),F:=λv=>uE v.1.1,g:=(λr=>((r,()),())),d:=λ_=>default}
theorem Ei [Fuel]:bL Tryz.prog sM:=LW (t:=(.n .dn)) (e:=91) 8 tmL Tryz.func169 (λv=>v.1.1) 0 3 4 29 (λv=>v.1.1) [] rfl (by kernel_rfl) (by kernel_rfl) (by intro v;kernel_rfl) (by intro v;kernel_rfl) (by kernel_rfl) (by intro vs w;rfl) (by kernel_rfl) (by intro v;exact⟨by kernel_rfl,by kernel_rfl⟩) (by intro v;kernel_rfl) (by intro v;kernel_rfl) (λv r hx hF=>Au hx hF)
def sN:aS:={f:=170,ps:=⟨[(0,.c (.ty (.l (.n .cu))))],[]⟩,rs:=⟨[(0,.c (.ty (.l (.n .cu))))],[]⟩,β:=(List cu),F:=λv=>uF v.1.1,g:=(λr=>((r,()),())),d:=λ_=>default}
theorem Ej [Fuel]:bL Tryz.prog sN:=LW (t:=(.n .cu)) (e:=93) 8 tmL Tryz.func170 (λv=>v.1.1) 0 3 4 30 (λv=>v.1.1) [] rfl (by kernel_rfl) (by kernel_rfl) (by intro v;kernel_rfl) (by intro v;kernel_rfl) (by kernel_rfl) (by intro vs w;rfl) (by kernel_rfl) (by intro v;exact⟨by kernel_rfl,by kernel_rfl⟩) (by intro v;kernel_rfl) (by intro v;kernel_rfl) (λv r hx hF=>Au hx hF)
def pY:aS:={f:=171,ps:=⟨[(0,.c (.ty (.l (.n .aW))))],[]⟩,rs:=⟨[(0,.c (.ty (.l (.n .aW))))],[]⟩,β:=(List aW),F:=λv=>qN v.1.1,g:=(λr=>((r,()),())),d:=λ_=>default}
theorem Ag [Fuel]:bL Tryz.prog pY:=LW (t:=(.n .aW)) (e:=37) 8 tmL Tryz.func171 (λv=>v.1.1) 0 3 4 31 (λv=>v.1.1) [] rfl (by kernel_rfl) (by kernel_rfl) (by intro v;kernel_rfl) (by intro v;kernel_rfl) (by kernel_rfl) (by intro vs w;rfl) (by kernel_rfl) (by intro v;exact⟨by kernel_rfl,by kernel_rfl⟩) (by intro v;kernel_rfl) (by intro v;kernel_rfl) (λv r hx hF=>Au hx hF)
def ow:aS:={f:=172,ps:=⟨[(0,.c (.ty (.l (.n .aY))))],[]⟩,rs:=⟨[(0,.c (.ty (.l (.n .aY))))],[]⟩,β:=(List aY),F:=λv=>pU v.1.1,g:=(λr=>((r,()),())),d:=λ_=>default}
theorem yN [Fuel]:bL Tryz.prog ow:=LW (t:=(.n .aY)) (e:=95) 8 tmL Tryz.func172 (λv=>v.1.1) 0 3 4 32 (λv=>v.1.1) [] rfl (by kernel_rfl) (by kernel_rfl) (by intro v;kernel_rfl) (by intro v;kernel_rfl) (by kernel_rfl) (by intro vs w;rfl) (by kernel_rfl) (by intro v;exact⟨by kernel_rfl,by kernel_rfl⟩) (by intro v;kernel_rfl) (by intro v;kernel_rfl) (λv r hx hF=>Au hx hF)
def EP:aS:={f:=173,ps:=⟨af7,[]⟩,rs:=⟨af7,[]⟩,β:=(List Int),F:=λv=>zM v.1.1,g:=(λr=>((r,()),())),d:=λ_=>default}
theorem OB [Fuel]:bL Tryz.prog EP:=LW (t:=(.i .i64)) (e:=3) 8 tmL Tryz.func173 (λv=>v.1.1) 0 3 4 22 (λv=>v.1.1) [] rfl (by kernel_rfl) (by kernel_rfl) (by intro v;kernel_rfl) (by intro v;kernel_rfl) (by kernel_rfl) (by intro vs w;rfl) (by kernel_rfl) (by intro v;exact⟨by kernel_rfl,by kernel_rfl⟩) (by intro v;kernel_rfl) (by intro v;kernel_rfl) (λv r hx hF=>Au hx hF)
def Tw:aS:={f:=88,ps:=⟨ahl,[]⟩,rs:=⟨ahl,[]⟩,β:=ak,F:=λv=>Xt v.1.1,g:=(λr=>((r,()),())),d:=λ_=>default}
theorem ZU [Fuel]:bL Tryz.prog Tw:=fnI 28 tmL [sM,sN,pY,ow,EP] [] Tryz.func88 (λv=>v.1.1) .z (okC Ei (okC Ej (okC Ag (okC yN (okC OB ok0))))) vZ
def xk [Fuel]:aS:={f:=31,ps:=⟨ahl,[]⟩,rs:=arp,β:=aB,F:=λv=>Qv v.1.1,g:=(λr=>((({r with ah:=([]:List ay),Cells:=([]:List aH)},((),((),()))),()),(r.ah,(r.Cells,())))),d:=λ_=>default}
theorem El [Fuel]:bL Tryz.prog xk:=fnI 41 tmL [] [] Tryz.func31 (λv=>({v.1.1.1 with ah:=v.2.1,Cells:=v.2.2.1})) (.two .z (.two .z (.two (.two .z (.one (.lp ⟨[(2,.c (.pb 0 0)),(3,.c (.pb 1 0)),(17,zS),(18,zS)],[o26,.bw .aB [(2,.own 2),(3,.own 3)],.ar (.n .ay),.ar (.n .aH)]⟩ (λn v=>uH v.1.2.2.1 n {v.2.2.1.1 with ah:=v.2.2.2.1,Cells:=v.2.2.2.2.1} v.1.2.2.2.1) λalF=> .z))) (.two (.two .z (.one (.lp ⟨[(2,.c (.pb 0 0)),(3,.c (.pb 1 0)),(30,zS),(31,zS)],[o26,.bw .aB [(2,.own 2),(3,.own 3)],.ar (.n .ay),.ar (.n .aH)]⟩ (λn v=>uG v.1.2.2.1 n {v.2.2.1.1 with ah:=v.2.2.2.1,Cells:=v.2.2.2.2.1} v.1.2.2.2.1) λalG=> .z))) .z)))) ok0 (vS vZ (vS vZ (vS (vS vZ (vB (vL λ_=>vZ))) (vS (vS vZ (vB (vL λ_=>vZ))) vZ))))
def gH [Fuel]:aS:={f:=35,ps:=⟨ahl,[]⟩,rs:=asY,β:=(aV×Int),F:=λv=>aey v.1.1,g:=(λr=>(((),(r.2,())),g4 r)),d:=λ_=>default}
theorem kU [Fuel]:bL Tryz.prog gH:=fnI 35 tmL [wO,iH,Tw,xk] [] Tryz.func35 (λv=>((m7 v.2),v.1.2.1)) .z (okC yM (okC nI (okC ZU (okC El ok0)))) vZ
def ZV:aS:={f:=174,ps:=⟨[],[]⟩,rs:=ar9,β:=dM,F:=λv=>aez,g:=(λr=>(((),()),(((),()),(r.values,())))),d:=λ_=>default}
theorem ae2 [Fuel]:bL Tryz.prog ZV:=fnI 4 tmL [] [] Tryz.func174 (λv=>(m8 v.2.2.1)) .z ok0 vZ
def ZW:aS:={f:=175,ps:=⟨[],[]⟩,rs:=asa,β:=aO,F:=λv=>aeA,g:=(λr=>(((),()),(r,()))),d:=λ_=>default}
theorem ae3 [Fuel]:bL Tryz.prog ZW:=fnI 3 tmL [] [] Tryz.func175 (λv=>v.2.1) .z ok0 vZ
def Vx:aS:={f:=176,ps:=⟨[],[]⟩,rs:=⟨aeu,[.bs .aM]⟩,β:=aM,F:=λv=>Zo,g:=(λr=>(((),()),(r,()))),d:=λ_=>default}
theorem aaM [Fuel]:bL Tryz.prog Vx:=fnI 3 tmL [] [] Tryz.func176 (λv=>v.2.1) .z ok0 vZ
def ZX:aS:={f:=89,ps:=⟨[],[]⟩,rs:=⟨[(0,.ag [.pb 0 0,.pb 2 0,.pb 3 0])],[.bx [.mc 1],.ms,.bs .aO,.bs .aM]⟩,β:=oL,F:=λv=>aeB,g:=(λr=>((((),((),((),()))),()),(((),()),(r.Store.values,(r.Queue,(r.Table,())))))),d:=λ_=>default}
theorem ae4 [Fuel]:bL Tryz.prog ZX:=fnI 5 tmL [ZV,ZW,Vx] [] Tryz.func89 (λv=>(m9 v.2.2)) .z (okC ae2 (okC ae3 (okC aaM ok0))) vZ
def IY:aS:={f:=90,ps:=⟨[(0,zS)],[]⟩,rs:=⟨aeu,[o46,.ar (.n .aT)]⟩,β:=bU,F:=λv=>ahn v.1.1,g:=(λr=>(((),()),g5 r)),d:=λ_=>default}
theorem QY [Fuel]:bL Tryz.prog IY:=fnI 6 tmL [] [] Tryz.func90 (λv=>((m10 v.2))) .z ok0 vZ
def uK:aS:={f:=36,ps:=⟨akI,[]⟩,rs:=arn,β:=dN,F:=λv=>acI v.1.1 v.1.2.1,g:=(λr=>(((),()),g6 r)),d:=λ_=>default}
theorem F3 [Fuel]:bL Tryz.prog uK:=fnI 12 tmL [ZX,IY] [] Tryz.func36 (λv=>(m11 v.2)) .z (okC ae4 (okC QY ok0)) vZ
def IL [Fuel]:aS:={f:=37,ps:=arn,rs:=⟨[(0,.c (.pb 6 0))],[o13,.ar (.n .aU),.bx [.mc 3],.ms,.bs .aO,.bs .aM,o47,.ar (.n .aT)]⟩,β:=(Unit×dN),F:=λv=>LX (m11 v.2),g:=(λr=>(((),()),g7 r.2)),d:=λ_=>default,ro:=some {R:=Unit,Fr:=λv=>oH (m11 v.2),dr:=default,pr:=λx v=>(x,(m11 v.2)),hF:=λ_=>Wz _},hr:=λq h v x=>by cases h;rfl}
theorem M6 [Fuel]:bL Tryz.prog IL:=fnI 7 tmL [] [] Tryz.func37 (λv=>((),(m11 v.2))) .z ok0 vZ
def fO:aS:={f:=91,ps:=⟨[(0,.c (.ty (.l (.n .ay))))],[]⟩,rs:=⟨ajg,[.ar (.n .ay)]⟩,β:=(List ay),F:=λv=>cZ v.1.1,g:=(λr=>(((),()),(r,()))),d:=λ_=>default}
theorem jd [Fuel]:bL Tryz.prog fO:=LW (t:=(.n .ay)) (e:=55) 8 tmL Tryz.func91 (λv=>v.2.1) 0 3 4 46 (λv=>v.1.1) [] rfl (by kernel_rfl) (by kernel_rfl) (by intro v;kernel_rfl) (by intro v;kernel_rfl) (by kernel_rfl) (by intro vs w;rfl) (by kernel_rfl) (by intro v;exact⟨by kernel_rfl,by kernel_rfl⟩) (by intro v;kernel_rfl) (by intro v;kernel_rfl) (λv r hx hF=>Au hx hF)
def gL:aS:={f:=92,ps:=⟨[(0,.c (.ty (.l (.n .aH))))],[]⟩,rs:=⟨ajg,[.ar (.n .aH)]⟩,β:=(List aH),F:=λv=>dG v.1.1,g:=(λr=>(((),()),(r,()))),d:=λ_=>default}
theorem jF [Fuel]:bL Tryz.prog gL:=LW (t:=(.n .aH)) (e:=159) 8 tmL Tryz.func92 (λv=>v.2.1) 0 3 4 47 (λv=>v.1.1) [] rfl (by kernel_rfl) (by kernel_rfl) (by intro v;kernel_rfl) (by intro v;kernel_rfl) (by kernel_rfl) (by intro vs w;rfl) (by kernel_rfl) (by intro v;exact⟨by kernel_rfl,by kernel_rfl⟩) (by intro v;kernel_rfl) (by intro v;kernel_rfl) (λv r hx hF=>Au hx hF)
def Kk [Fuel]:aS:={f:=38,ps:=aro,rs:=⟨arl,[o0,o17,o52,o7,o32,o45,.ar (.i .u8),.ar (.n .aG),.ar (.n .aC)]⟩,β:=(aB×aV),F:=λv=>Fv (m7 v.2),g:=(λr=>((r.1,()),g8 r)),d:=λ_=>default,ro:=some {R:=aB,Fr:=λv=>uP (m7 v.2),dr:=default,pr:=λx v=>(λ(p1:aV)=>(x,{p1 with net:={p1.net with au:= [(p1.net.au.getD 0 default)]}})) (m7 v.2),hF:=λ_=>Sy _},hr:=λq h v x=>by cases h;rfl}
theorem SH [Fuel]:bL Tryz.prog Kk:=fnI 17 tmL [fO,gL] [] Tryz.func38 (λv=>(v.1.1,(m7 v.2))) .z (okC jd (okC jF ok0)) vZ
def bn [Fuel]:aS:={f:=12,ps:=⟨ahl,[]⟩,rs:=⟨aeu,[o2,o1,o18,o53,o8,o33,o48,.ar (.i .u8),.ar (.n .aG),.ar (.n .aC),o54,o50,o10,.ar (.n .aU),o55,.ms,.bs .aO,.bs .aM,o38,.ar (.n .aT),o11,.ar (.n .aU),o56,.ms,.bs .aO,.bs .aM,o39,.ar (.n .aT),.ar (.n .bE)]⟩,β:=xW,F:=λv=>aeC v.1.1,g:=(λr=>(((),()),g9 r)),d:=λ_=>default}
theorem cB [Fuel]:bL Tryz.prog bn:=fnI 83 tmL [gH,uK,IL,Kk] [] Tryz.func12 (λv=>{c:=(m5 v.2.1),p:=(m7 v.2.2),copies:= [[(m11 v.2.2.2.2.2.2.2.2.2.2.2.2.2),(m11 v.2.2.2.2.2.2.2.2.2.2.2.2.2.2.2.2.2.2.2.2.2)]],granted:=v.2.2.2.2.2.2.2.2.2.2.2.2.2.2.2.2.2.2.2.2.2.2.2.2.2.2.2.2.2.1,served:=v.2.1.2.2.2.2.2.2.2.2.2.2.2.2.2.1,tick:=v.2.1.2.2.2.2.2.2.2.2.2.2.2.2.2.2.1:xW}) (.two .z (.two .z (.two .z (.two .z (.two (.two .z (.one (.un (.two (.two .z (.ct .z)) (.two (.one (.two .z (.two (.two .z (.one (.un (.two (.two .z (.ct .z)) .z) (.un (.two (.two .z (.ct .z)) .z) (.un (.two (.two .z (.cf .z)) .z) .z))))) .z))) .z)) (.un (.two (.two .z (.cf .z)) .z) .z)))) .z))))) (okC kU (okC F3 (okC M6 (okC SH ok0)))) (vS vZ (vS vZ (vS vZ (vS vZ (vS (vS vZ (vB (vU (vV (vS (vS vZ (vT vZ)) (vS (vB (vS vZ (vS (vS vZ (vB (vU (vV (vS (vS vZ (vT vZ)) vZ) (vV (vS (vS vZ (vT vZ)) vZ) (vV (vS (vS vZ (vF vZ)) vZ) vX)))))) vZ))) vZ)) (vV (vS (vS vZ (vF vZ)) vZ) vX))))) vZ)))))
def Em:aS:={f:=82,ps:=⟨[(0,.c (.ty (.i .u32)))],[]⟩,rs:=⟨[(0,zS)],[]⟩,β:=Int,F:=λv=>Qw v.1.1,g:=(λr=>((r,()),())),d:=λ_=>default}
theorem M7 [Fuel]:bL Tryz.prog Em:=fnI 21 tmL [] [] Tryz.func82 (λv=>v.1.1) .z ok0 vZ
def En:aS:={f:=83,ps:=⟨apn,[]⟩,rs:=⟨[(0,zS)],[]⟩,β:=Int,F:=λv=>G9 v.1.1,g:=(λr=>((r,()),())),d:=λ_=>default}
theorem M8 [Fuel]:bL Tryz.prog En:=fnI 35 tmL [] [] Tryz.func83 (λv=>v.1.1) .z ok0 vZ
def yO:aS:={f:=33,ps:=⟨apn,[]⟩,rs:=⟨[(0,zS)],[]⟩,β:=Int,F:=λv=>uQ v.1.1,g:=(λr=>((r,()),())),d:=λ_=>default}
theorem ES [Fuel]:bL Tryz.prog yO:=fnI 8 tmL [Em,En] [] Tryz.func33 (λv=>v.1.1) .z (okC M7 (okC M8 ok0)) vZ
def Kl [Fuel]:aS:={f:=93,ps:=aro,rs:=asZ,β:=(Bool×aV),F:=λv=>Fw (m7 v.2),g:=(λr=>((r.1,()),g10 r)),d:=λ_=>default,ro:=some {R:=Bool,Fr:=λv=>uR (m7 v.2),dr:=default,pr:=λx v=>(λ(p1:aV)=>(x,{p1 with net:={p1.net with au:= [(p1.net.au.getD 0 default)]}})) (m7 v.2),hF:=λ_=>Sz _},hr:=λq h v x=>by cases h;rfl}
theorem SI [Fuel]:bL Tryz.prog Kl:=fnI 17 tmL [yO] [] Tryz.func93 (λv=>(v.1.1,(m7 v.2))) .z (okC ES ok0) vZ
def Vy:aS:={f:=330,ps:=⟨[(0,zS)],[]⟩,rs:=⟨[(0,.st .dD)],[]⟩,β:=dD,F:=λv=>BN v.1.1,g:=(λr=>((r,()),())),d:=λ_=>default}
theorem aaN [Fuel]:bL Tryz.prog Vy:=fnI 6 tmL [] [] Tryz.func330 (λv=>v.1.1) .z ok0 vZ
def Tx:aS:={f:=286,ps:=⟨[(0,zS),(1,.st .fG)],[]⟩,rs:=⟨[(0,.st .dR),(1,.c (.ty .b))],[]⟩,β:=(dR×Bool),F:=λv=>Lb v.1.1 v.1.2.1,g:=(λr=>((r.1,(r.2,())),())),d:=λ_=>default}
theorem ZY [Fuel]:bL Tryz.prog Tx:=fnI 120 tmL [Vy] [] Tryz.func286 (λv=>(v.1.1,v.1.2.1)) (.two .z (.two .z (.two .z (.two .z (.two .z (.two .z (.cut ⟨[(4,.c (.pb 0 0)),(14,.c (.pb 1 0))],[.bs .dR,.bs .dR]⟩ (λv=>fJ v.2.2.1) (.two .z (.one (.two .z (.two .z (.two .z (.two .z (.two .z (.two .z (.two .z (.two .z (.cut ⟨[(3,.c (.pb 0 0)),(4,.c (.pb 1 0)),(7,.c (.pb 2 0)),(8,.c (.pb 3 0)),(10,.c (.pb 4 0)),(11,.c (.pb 5 0)),(13,.c (.pb 6 0)),(14,.c (.pb 7 0)),(36,zS),(70,.c (.ty .b))],[.bs .fG,.bs .dR,.bs .dD,.bs .dD,.bs .dD,.bs .dD,.bs .dD,.bs .dR]⟩ (λv=>yc v.1.2.2.2.2.2.2.2.2.1 v.2.1 v.2.2.2.1 v.2.2.2.2.1 v.2.2.2.2.2.1 v.2.2.2.2.2.2.1 v.2.2.2.2.2.2.2.1 v.2.2.2.2.2.2.2.2.1 v.1.2.2.2.2.2.2.2.2.2.1) .z (.two .z (.two .z (.two .z (.two .z (.two .z (.two .z (.two .z (.cut ⟨[(3,.c (.pb 0 0)),(4,.c (.pb 1 0)),(8,.c (.pb 2 0)),(10,.c (.pb 3 0)),(11,.c (.pb 4 0)),(13,.c (.pb 5 0)),(14,.c (.pb 6 0)),(36,zS),(93,.c (.ty .b))],[.bs .fG,.bs .dR,.bs .dD,.bs .dD,.bs .dD,.bs .dD,.bs .dR]⟩ (λv=>xZ v.1.2.2.2.2.2.2.2.1 v.2.1 v.2.2.2.1 v.2.2.2.2.1 v.2.2.2.2.2.1 v.2.2.2.2.2.2.1 v.2.2.2.2.2.2.2.1 v.1.2.2.2.2.2.2.2.2.1) .z (.two .z (.two .z (.two .z (.two .z (.two .z (.cut ⟨[(4,.c (.pb 0 0)),(13,.c (.pb 1 0)),(14,.c (.pb 2 0)),(36,zS),(112,.c (.ty .b))],[.bs .dR,.bs .dD,.bs .dR]⟩ (λv=>xY v.1.2.2.2.1 v.2.2.1 v.2.2.2.1 v.1.2.2.2.2.1) .z .z))))))))))))))))))))))))) .z))))))) (okC aaN ok0) (vS vZ (vS vZ (vS vZ (vS vZ (vS vZ (vS vZ (vC (vS vZ (vB (vS vZ (vD vZ (vS vZ (vD vZ (vS vZ (vD vZ (vS vZ (vD vZ (vC vZ (vD vZ (vS vZ (vD vZ (vS vZ (vD vZ (vS vZ (vD vZ (vC vZ (vD vZ (vS vZ (vD vZ (vS vZ (vD vZ (vC vZ vZ))))))))))))))))))))))))) vZ)))))))
def Pb:aS:={f:=287,ps:=⟨[(0,.st .dD),(1,zS)],[]⟩,rs:=⟨zy,[]⟩,β:=Bool,F:=λv=>lC v.1.1 v.1.2.1,g:=(λr=>((r,()),())),d:=λ_=>default}
theorem WQ [Fuel]:bL Tryz.prog Pb:=fnI 15 tmL [] [] Tryz.func287 (λv=>v.1.1) .z ok0 vZ
def QZ:aS:={f:=223,ps:=⟨[(0,.st .aA),(1,.st .fG)],[]⟩,rs:=⟨zy,[]⟩,β:=Bool,F:=λv=>JB v.1.1 v.1.2.1,g:=(λr=>((r,()),())),d:=λ_=>default}
theorem Ef [Fuel]:bL Tryz.prog QZ:=fnI 85 tmL [Tx,Pb] [] Tryz.func223 (λv=>v.1.1) .z (okC ZY (okC WQ ok0)) vZ
def Jy:aS:={f:=222,ps:=⟨aos,[]⟩,rs:=⟨zy,[]⟩,β:=Bool,F:=λv=>JK v.1.1,g:=(λr=>((r,()),())),d:=λ_=>default}
theorem Mh [Fuel]:bL Tryz.prog Jy:=fnI 6 tmL [QZ] [] Tryz.func222 (λv=>v.1.1) .z (okC Ef ok0) vZ
def Vz:aS:={f:=145,ps:=⟨[(0,.st .ak),(1,.st .aA)],[]⟩,rs:=⟨zy,[]⟩,β:=Bool,F:=λv=>NM v.1.1 v.1.2.1,g:=(λr=>((r,()),())),d:=λ_=>default}
theorem aaO [Fuel]:bL Tryz.prog Vz:=fnI 23 tmL [Jy,QZ] [] Tryz.func145 (λv=>v.1.1) .z (okC Mh (okC Ef ok0)) vZ
def wP:aS:={f:=224,ps:=⟨ar1,[]⟩,rs:=⟨[(0,zS)],[]⟩,β:=Int,F:=λv=>rE v.1.1 v.1.2.1,g:=(λr=>((r,()),())),d:=λ_=>default}
theorem yP [Fuel]:bL Tryz.prog wP:=fnI 20 tmL [] [] Tryz.func224 (λv=>v.1.1) .z ok0 vZ
def OC:aS:={f:=211,ps:=⟨aor,[]⟩,rs:=⟨[(0,zS)],[]⟩,β:=Int,F:=λv=>BO v.1.1 v.1.2.1,g:=(λr=>((r,()),())),d:=λ_=>default}
theorem Tz [Fuel]:bL Tryz.prog OC:=fnI 18 tmL [zq] [] Tryz.func211 (λv=>v.1.1) .z (okC Ba ok0) vZ
def Km:aS:={f:=282,ps:=⟨aor,[]⟩,rs:=⟨[(0,zS)],[]⟩,β:=Int,F:=λv=>Fx v.1.1 v.1.2.1,g:=(λr=>((r,()),())),d:=λ_=>default}
theorem SL [Fuel]:bL Tryz.prog Km:=fnI 18 tmL [zq] [] Tryz.func282 (λv=>v.1.1) .z (okC Ba ok0) vZ
def nU:aS:={f:=214,ps:=⟨aor,[]⟩,rs:=⟨[(0,zS)],[]⟩,β:=Int,F:=λv=>kE v.1.1 v.1.2.1,g:=(λr=>((r,()),())),d:=λ_=>default}
theorem oJ [Fuel]:bL Tryz.prog nU:=fnI 10 tmL [OC,Km] [] Tryz.func214 (λv=>v.1.1) .z (okC Tz (okC SL ok0)) vZ
def Cq:aS:={f:=228,ps:=⟨akI,[]⟩,rs:=⟨zy,[]⟩,β:=Bool,F:=λv=>AJ v.1.1 v.1.2.1,g:=(λr=>((r,()),())),d:=λ_=>default}
theorem CR [Fuel]:bL Tryz.prog Cq:=fnI 18 tmL [] [] Tryz.func228 (λv=>v.1.1) .z ok0 vZ
def GQ:aS:={f:=225,ps:=⟨asS,[]⟩,rs:=⟨zy,[]⟩,β:=Bool,F:=λv=>yg v.1.1 v.1.2.1 v.1.2.2.1,g:=(λr=>((r,()),())),d:=λ_=>default}
theorem Kn [Fuel]:bL Tryz.prog GQ:=fnI 13 tmL [nU,Cq] [] Tryz.func225 (λv=>v.1.1) .z (okC oJ (okC CR ok0)) vZ
def CU:aS:={f:=207,ps:=⟨aoq,[]⟩,rs:=⟨zy,[]⟩,β:=Bool,F:=λv=>wK v.1.1 v.1.2.1 v.1.2.2.1,g:=(λr=>((r,()),())),d:=λ_=>default}
theorem Eo [Fuel]:bL Tryz.prog CU:=fnI 34 tmL [nU,Kj] [] Tryz.func207 (λv=>v.1.1) .z (okC oJ (okC O9 ok0)) vZ
def GR:aS:={f:=208,ps:=⟨aoq,[]⟩,rs:=⟨zy,[]⟩,β:=Bool,F:=λv=>CF v.1.1 v.1.2.1 v.1.2.2.1,g:=(λr=>((r,()),())),d:=λ_=>default}
theorem Ko [Fuel]:bL Tryz.prog GR:=fnI 26 tmL [nU] [] Tryz.func208 (λv=>v.1.1) .z (okC oJ ok0) vZ
def Ls:aS:={f:=226,ps:=⟨aoq,[]⟩,rs:=⟨zy,[]⟩,β:=Bool,F:=λv=>Fy v.1.1 v.1.2.1 v.1.2.2.1,g:=(λr=>((r,()),())),d:=λ_=>default}
theorem OD [Fuel]:bL Tryz.prog Ls:=fnI 16 tmL [GR] [] Tryz.func226 (λv=>v.1.1) .z (okC Ko ok0) vZ
def VA:aS:={f:=146,ps:=⟨w92,[]⟩,rs:=⟨[(0,zS)],[]⟩,β:=Int,F:=λv=>JL v.1.1 v.1.2.1 v.1.2.2.1,g:=(λr=>((r,()),())),d:=λ_=>default}
theorem aaP [Fuel]:bL Tryz.prog VA:=fnI 72 tmL [wP,GQ,CU,Ls] [] Tryz.func146 (λv=>v.1.1) (.two .z (.two .z (.two (.one (.two .z (.two .z (.cut ⟨[(3,.c (.pb 0 0)),(4,.c (.pb 1 0)),(5,.c (.pb 2 0)),(7,.c (.ty .b)),(19,.c (.ty .b))],[.bs .ak,.bs .aB,.bs .aA]⟩ (λv=>Gh v.2.1 v.2.2.1 v.2.2.2.1 v.1.2.2.2.1 v.1.2.2.2.2.1) .z (.two .z (.cut ⟨[(3,.c (.pb 0 0)),(5,.c (.pb 1 0)),(7,.c (.ty .b)),(33,.c (.ty .b))],[.bs .ak,.bs .aA]⟩ (λv=>Gg v.2.1 v.2.2.1 v.1.2.2.1 v.1.2.2.2.1) .z (.two .z (.two .z (.two .z (.cut ⟨[(55,.c (.ty .b))],[]⟩ (λv=>Gf v.1.1) .z .z)))))))))) .z))) (okC yP (okC Kn (okC Eo (okC OD ok0)))) (vS vZ (vS vZ (vS (vB (vS vZ (vD vZ (vC vZ (vD vZ (vC vZ (vD vZ (vS vZ (vD vZ (vC vZ vZ)))))))))) vZ)))
def Q0:aS:={f:=147,ps:=⟨w92,[]⟩,rs:=⟨[(0,zS)],[]⟩,β:=Int,F:=λv=>Dn v.1.1 v.1.2.1 v.1.2.2.1,g:=(λr=>((r,()),())),d:=λ_=>default}
theorem Yb [Fuel]:bL Tryz.prog Q0:=fnI 69 tmL [wP,GQ,CU,GR,Ls] [] Tryz.func147 (λv=>v.1.1) (.two .z (.two .z (.two .z (.two .z (.two (.one (.cut ⟨[(3,.c (.pb 0 0)),(4,.c (.pb 1 0)),(5,.c (.pb 2 0)),(7,.c (.pb 3 0)),(20,.c (.ty .b))],[.bs .ak,.bs .aB,.bs .aA,.bs .ay]⟩ (λv=>wo v.2.1 v.2.2.1 v.2.2.2.1 v.2.2.2.2.1 v.1.2.2.2.2.1) .z (.two .z (.two .z (.two .z (.two .z (.two .z (.cut ⟨[(48,.c (.ty .b))],[]⟩ (λv=>wm v.1.1) .z .z)))))))) .z))))) (okC yP (okC Kn (okC Eo (okC Ko (okC OD ok0))))) (vS vZ (vS vZ (vS vZ (vS vZ (vS (vB (vC vZ (vD vZ (vS vZ (vD vZ (vS vZ (vD vZ (vC vZ vZ)))))))) vZ)))))
def VB:aS:={f:=148,ps:=⟨anz,[]⟩,rs:=⟨[(0,zS)],[]⟩,β:=Int,F:=λv=>JM v.1.1 v.1.2.1,g:=(λr=>((r,()),())),d:=λ_=>default}
theorem aaQ [Fuel]:bL Tryz.prog VB:=fnI 28 tmL [wP] [] Tryz.func148 (λv=>v.1.1) .z (okC yP ok0) vZ
def Q5:aS:={f:=149,ps:=⟨w92,[]⟩,rs:=⟨[(0,zS)],[]⟩,β:=Int,F:=λv=>Dp v.1.1 v.1.2.1 v.1.2.2.1,g:=(λr=>((r,()),())),d:=λ_=>default}
theorem Yc [Fuel]:bL Tryz.prog Q5:=fnI 71 tmL [wP,GQ,CU,Ls] [] Tryz.func149 (λv=>v.1.1) (.two .z (.two .z (.two (.one (.cut ⟨[(3,.c (.pb 0 0)),(4,.c (.pb 1 0)),(5,.c (.pb 2 0)),(7,.c (.pb 3 0)),(14,.c (.ty .b))],[.bs .ak,.bs .aB,.bs .aA,.bs .ay]⟩ (λv=>wB v.2.1 v.2.2.1 v.2.2.2.1 v.2.2.2.2.1 v.1.2.2.2.2.1) .z (.two .z (.cut ⟨[(3,.c (.pb 0 0)),(4,.c (.pb 1 0)),(5,.c (.pb 2 0)),(7,.c (.pb 3 0)),(23,.c (.ty .b))],[.bs .ak,.bs .aB,.bs .aA,.bs .ay]⟩ (λv=>wz v.2.1 v.2.2.1 v.2.2.2.1 v.2.2.2.2.1 v.1.2.2.2.2.1) .z (.two .z (.two .z (.two .z (.two .z (.two .z (.cut ⟨[(51,.c (.ty .b))],[]⟩ (λv=>wu v.1.1) .z .z)))))))))) .z))) (okC yP (okC Kn (okC Eo (okC OD ok0)))) (vS vZ (vS vZ (vS (vB (vC vZ (vD vZ (vC vZ (vD vZ (vS vZ (vD vZ (vS vZ (vD vZ (vC vZ vZ)))))))))) vZ)))
def Q6:aS:={f:=150,ps:=⟨anz,[]⟩,rs:=⟨[(0,zS)],[]⟩,β:=Int,F:=λv=>Dq v.1.1 v.1.2.1,g:=(λr=>((r,()),())),d:=λ_=>default}
theorem Yd [Fuel]:bL Tryz.prog Q6:=fnI 20 tmL [] [] Tryz.func150 (λv=>v.1.1) .z ok0 vZ
def Xz:aS:={f:=151,ps:=⟨anz,[]⟩,rs:=⟨[(0,zS)],[]⟩,β:=Int,F:=λv=>ME v.1.1 v.1.2.1,g:=(λr=>((r,()),())),d:=λ_=>default}
theorem acZ [Fuel]:bL Tryz.prog Xz:=fnI 38 tmL [wP] [] Tryz.func151 (λv=>v.1.1) (.two .z (.two .z (.two .z (.two (.one (.cut ⟨[(3,.c (.pb 0 0)),(5,.c (.pb 1 0)),(25,.c (.ty .b))],[.bs .aA,.bs .ay]⟩ (λv=>Jc v.2.1 v.2.2.1 v.1.2.2.1) .z .z)) .z)))) (okC yP ok0) (vS vZ (vS vZ (vS vZ (vS (vB (vC vZ vZ)) vZ))))
def VD:aS:={f:=152,ps:=⟨w92,[]⟩,rs:=⟨[(0,zS)],[]⟩,β:=Int,F:=λv=>BP v.1.1 v.1.2.1 v.1.2.2.1,g:=(λr=>((r,()),())),d:=λ_=>default}
theorem aaR [Fuel]:bL Tryz.prog VD:=fnI 141 tmL [] [] Tryz.func152 (λv=>v.1.1) (.two .z (.two .z (.two .z (.two (.one (.cut ⟨[(3,.c (.pb 0 0)),(5,.c (.pb 1 0)),(7,.c (.pb 2 0)),(8,.c (.pb 3 0)),(9,.c (.ty .b)),(27,.c (.ty .b))],[.bs .ak,.bs .aA,.bs .ay,.bs .aH]⟩ (λv=>AL v.2.1 v.2.2.1 v.2.2.2.1 v.2.2.2.2.1 v.1.2.2.2.2.1 v.1.2.2.2.2.2.1) .z (.two .z (.two .z (.two .z (.cut ⟨[(3,.c (.pb 0 0)),(5,.c (.pb 1 0)),(7,.c (.pb 2 0)),(8,.c (.pb 3 0)),(9,.c (.ty .b)),(57,.c (.ty .b))],[.bs .ak,.bs .aA,.bs .ay,.bs .aH]⟩ (λv=>Gl v.2.1 v.2.2.1 v.2.2.2.1 v.2.2.2.2.1 v.1.2.2.2.2.1 v.1.2.2.2.2.2.1) .z (.two .z (.two .z (.two .z (.cut ⟨[(3,.c (.pb 0 0)),(5,.c (.pb 1 0)),(7,.c (.pb 2 0)),(9,.c (.ty .b)),(86,.c (.ty .b))],[.bs .ak,.bs .aA,.bs .ay]⟩ (λv=>Gj v.2.1 v.2.2.1 v.2.2.2.1 v.1.2.2.2.1 v.1.2.2.2.2.1) .z (.two .z (.cut ⟨[(5,.c (.pb 0 0)),(7,.c (.pb 1 0)),(9,.c (.ty .b)),(97,.c (.ty .b))],[.bs .aA,.bs .ay]⟩ (λv=>wL v.2.1 v.2.2.1 v.1.2.2.1 v.1.2.2.2.1) .z (.two .z (.cut ⟨[(124,.c (.ty .b))],[]⟩ (λv=>Gi v.1.1) .z .z)))))))))))))) .z)))) ok0 (vS vZ (vS vZ (vS vZ (vS (vB (vC vZ (vD vZ (vS vZ (vD vZ (vC vZ (vD vZ (vS vZ (vD vZ (vC vZ (vD vZ (vC vZ (vD vZ (vC vZ vZ)))))))))))))) vZ))))
def Z0:aS:={f:=153,ps:=⟨anz,[]⟩,rs:=⟨[(0,zS)],[]⟩,β:=Int,F:=λv=>Qx v.1.1 v.1.2.1,g:=(λr=>((r,()),())),d:=λ_=>default}
theorem ae5 [Fuel]:bL Tryz.prog Z0:=fnI 22 tmL [] [] Tryz.func153 (λv=>v.1.1) .z ok0 vZ
def XA:aS:={f:=154,ps:=⟨anz,[]⟩,rs:=⟨[(0,zS)],[]⟩,β:=Int,F:=λv=>MF v.1.1 v.1.2.1,g:=(λr=>((r,()),())),d:=λ_=>default}
theorem ac0 [Fuel]:bL Tryz.prog XA:=fnI 15 tmL [] [] Tryz.func154 (λv=>v.1.1) .z ok0 vZ
end Go.Proofs
