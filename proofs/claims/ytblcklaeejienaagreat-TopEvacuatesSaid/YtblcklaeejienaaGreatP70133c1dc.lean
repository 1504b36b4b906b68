/-
 DERIVED: THE SHELF's CONTRACTS AT THIS DUMP, IN PLAIN WORDS (tools/lay-plain.mjs out of 'ZzLays23.lean', which tools/lay-shelf.mjs wrote): THE SAME DECLARATIONS UNDER THE SAME NAMES: 'import', 'namespace', 'open', 'def', 'theorem' AND NOTHING ELSE: no command of the shelf's: FOR A HAND-IN. Each laying: the table of numbers ('.._ren') and one theorem, a field a fact of the dump's own or the kernel's comparison; each contract: ONE APPLICATION.
-/
import Derived.Shelf.SlIter.Nil
import Derived.Shelf.SortM.Plain
import Derived.Shelf.SortM.SortNone
import Derived.Shelf.SlMaps.Clone
import Derived.Shelf.SlSortCmp.NoneTotal
import Derived.Shelf.Slices.CompactI
import Derived.Test.YtblcklaeejienaaGreatProg
import Derived.Test.YtblcklaeejienaaGreatP654a0e28a
set_option linter.defProp false
set_option linter.unusedSectionVars false
set_option linter.unusedSimpArgs false
set_option linter.unusedVariables false
namespace Go.Proofs
open Go.Shelf
def Tryz.apA:Go.Shelf.Ren:=⟨λ|7=>266|10=>327|n=>n,λ|23=>224|26=>9|3=>222|28=>334|0=>0|27=>333|33=>218|4=>4|n=>n,λ|n=>n⟩
theorem Tryz.as9:Go.Proofs.SlLaysZ.n7 Tryz.prog Tryz.apA:={
 mixed:=au
 f7:=⟨Tryz.f266.name,ak,aF Tryz.func266⟩
 f10:=⟨Tryz.f327.name,ak,aF Tryz.func327⟩
 t0:=Tryz.underlying0
 a0:=Tryz.isAgg0
 z0:=Tryz.sizeOf0
 v0:=Tryz.zeroValue0
 t4:=Tryz.underlying4
 a4:=Tryz.isAgg4
 z4:=Tryz.sizeOf4
 v4:=Tryz.zeroValue4
 t23:=Tryz.underlying224
 a23:=Tryz.isAgg224
 z23:=Tryz.sizeOf224
 v23:=Tryz.zeroValue224
 t26:=Tryz.underlying9
 a26:=Tryz.isAgg9
 z26:=Tryz.sizeOf9
 v26:=Tryz.zeroValue9
 t27:=Tryz.underlying333
 a27:=Tryz.isAgg333
 z27:=Tryz.sizeOf333
 v27:=Tryz.zeroValue333
 t28:=Tryz.underlying334
 a28:=Tryz.isAgg334
 z28:=Tryz.sizeOf334
 v28:=Tryz.zeroValue334
 t33:=Tryz.underlying218
 a33:=Tryz.isAgg218
 z33:=Tryz.sizeOf218
 v33:=Tryz.zeroValue218}
def Tryz.aoA:Go.Shelf.Ren:=⟨λ|6=>265|8=>325|9=>326|11=>365|13=>216|12=>366|23=>285|24=>286|14=>386|15=>387|16=>388|17=>389|18=>390|19=>391|20=>392|21=>393|22=>394|25=>400|26=>335|27=>336|28=>401|29=>402|30=>403|31=>405|n=>n,λ|26=>9|28=>334|24=>289|0=>0|3=>3|37=>36|48=>308|50=>310|4=>4|40=>340|39=>339|45=>157|5=>5|9=>9|51=>377|55=>381|57=>405|58=>406|33=>218|n=>n,λ|n=>n⟩
theorem Tryz.aLq:Go.Proofs.SlLaysZ.n6 Tryz.prog Tryz.aoA:={
 mixed:=au
 f6:=⟨Tryz.f265.name,ak,aF Tryz.func265⟩
 f8:=⟨Tryz.f325.name,ak,aF Tryz.func325⟩
 f11:=⟨Tryz.f365.name,ak,aF Tryz.func365⟩
 t0:=Tryz.underlying0
 a0:=Tryz.isAgg0
 z0:=Tryz.sizeOf0
 v0:=Tryz.zeroValue0
 t24:=Tryz.underlying289
 a24:=Tryz.isAgg289
 z24:=Tryz.sizeOf289
 v24:=Tryz.zeroValue289
 t26:=Tryz.underlying9
 a26:=Tryz.isAgg9
 z26:=Tryz.sizeOf9
 v26:=Tryz.zeroValue9
 t28:=Tryz.underlying334
 a28:=Tryz.isAgg334
 z28:=Tryz.sizeOf334
 v28:=Tryz.zeroValue334
 i26:=by kernel_rfl}
def Tryz.aJv:Go.Shelf.Ren:=⟨λ|6=>326|8=>216|9=>366|19=>285|20=>286|21=>386|22=>387|23=>388|24=>389|25=>390|26=>391|27=>392|28=>393|29=>394|36=>400|31=>335|32=>336|37=>401|38=>402|39=>403|41=>405|n=>n,λ|27=>289|29=>9|3=>3|32=>36|26=>289|0=>0|44=>308|46=>310|4=>4|36=>340|35=>339|41=>157|5=>5|9=>9|53=>377|57=>381|63=>405|64=>406|n=>n,λ|n=>n⟩
theorem Tryz.atn:Go.Proofs.SlLaysM.n6 Tryz.prog Tryz.aJv:={
 mixed:=au
 f6:=⟨Tryz.f326.name,ak,aF Tryz.func326⟩
 f8:=aF Tryz.func216
 f9:=⟨Tryz.f366.name,ak,aF Tryz.func366⟩
 f19:=aF Tryz.func285
 f20:=aF Tryz.func286
 f21:=⟨Tryz.f386.name,ak,aF Tryz.func386⟩
 f22:=⟨Tryz.f387.name,ak,aF Tryz.func387⟩
 f23:=⟨Tryz.f388.name,ak,aF Tryz.func388⟩
 f24:=⟨Tryz.f389.name,ak,aF Tryz.func389⟩
 f25:=⟨Tryz.f390.name,ak,aF Tryz.func390⟩
 f26:=⟨Tryz.f391.name,ak,aF Tryz.func391⟩
 f27:=⟨Tryz.f392.name,ak,aF Tryz.func392⟩
 f28:=⟨Tryz.f393.name,ak,aF Tryz.func393⟩
 f29:=⟨Tryz.f394.name,ak,aF Tryz.func394⟩
 f31:=aF Tryz.func335
 f32:=aF Tryz.func336
 f36:=⟨Tryz.f400.name,ak,aF Tryz.func400⟩
 f37:=⟨Tryz.f401.name,ak,aF Tryz.func401⟩
 f38:=⟨Tryz.f402.name,ak,aF Tryz.func402⟩
 f39:=⟨Tryz.f403.name,ak,aF Tryz.func403⟩
 f41:=⟨Tryz.f405.name,ak,aF Tryz.func405⟩
 t0:=Tryz.underlying0
 a0:=Tryz.isAgg0
 z0:=Tryz.sizeOf0
 v0:=Tryz.zeroValue0
 t3:=Tryz.underlying3
 a3:=Tryz.isAgg3
 z3:=Tryz.sizeOf3
 v3:=Tryz.zeroValue3
 t4:=Tryz.underlying4
 a4:=Tryz.isAgg4
 z4:=Tryz.sizeOf4
 v4:=Tryz.zeroValue4
 t5:=Tryz.underlying5
 a5:=Tryz.isAgg5
 z5:=Tryz.sizeOf5
 v5:=Tryz.zeroValue5
 t9:=Tryz.underlying9
 a9:=Tryz.isAgg9
 z9:=Tryz.sizeOf9
 v9:=Tryz.zeroValue9
 t26:=Tryz.underlying289
 a26:=Tryz.isAgg289
 z26:=Tryz.sizeOf289
 v26:=Tryz.zeroValue289
 t27:=Tryz.underlying289
 a27:=Tryz.isAgg289
 z27:=Tryz.sizeOf289
 v27:=Tryz.zeroValue289
 t29:=Tryz.underlying9
 a29:=Tryz.isAgg9
 z29:=Tryz.sizeOf9
 v29:=Tryz.zeroValue9
 t32:=Tryz.underlying36
 a32:=Tryz.isAgg36
 z32:=Tryz.sizeOf36
 v32:=Tryz.zeroValue36
 t35:=Tryz.underlying339
 a35:=Tryz.isAgg339
 z35:=Tryz.sizeOf339
 v35:=Tryz.zeroValue339
 t36:=Tryz.underlying340
 a36:=Tryz.isAgg340
 z36:=Tryz.sizeOf340
 v36:=Tryz.zeroValue340
 t41:=Tryz.underlying157
 a41:=Tryz.isAgg157
 z41:=Tryz.sizeOf157
 v41:=Tryz.zeroValue157
 t44:=Tryz.underlying308
 a44:=Tryz.isAgg308
 z44:=Tryz.sizeOf308
 v44:=Tryz.zeroValue308
 t46:=Tryz.underlying310
 a46:=Tryz.isAgg310
 z46:=Tryz.sizeOf310
 v46:=Tryz.zeroValue310
 t53:=Tryz.underlying377
 a53:=Tryz.isAgg377
 z53:=Tryz.sizeOf377
 v53:=Tryz.zeroValue377
 t57:=Tryz.underlying381
 a57:=Tryz.isAgg381
 z57:=Tryz.sizeOf381
 v57:=Tryz.zeroValue381
 t63:=Tryz.underlying405
 a63:=Tryz.isAgg405
 z63:=Tryz.sizeOf405
 v63:=Tryz.zeroValue405
 t64:=Tryz.underlying406
 a64:=Tryz.isAgg406
 z64:=Tryz.sizeOf406
 v64:=Tryz.zeroValue406}
def Tryz.aHe:Go.Shelf.Ren:=⟨λ|5=>328|7=>367|n=>n,λ|23=>224|25=>9|3=>222|4=>4|20=>20|n=>n,λ|n=>n⟩
theorem Tryz.aKS:Go.Proofs.SlLaysW.n5 Tryz.prog Tryz.aHe:={
 mixed:=au
 f5:=⟨Tryz.f328.name,ak,aF Tryz.func328⟩
 f7:=aF Tryz.func367
 t4:=Tryz.underlying4
 a4:=Tryz.isAgg4
 z4:=Tryz.sizeOf4
 v4:=Tryz.zeroValue4
 t20:=Tryz.underlying20
 a20:=Tryz.isAgg20
 z20:=Tryz.sizeOf20
 v20:=Tryz.zeroValue20
 t23:=Tryz.underlying224
 a23:=Tryz.isAgg224
 z23:=Tryz.sizeOf224
 v23:=Tryz.zeroValue224}
def Tryz.aHb:Go.Shelf.Ren:=⟨λ|6=>132|15=>216|14=>215|28=>285|29=>286|20=>277|21=>278|22=>279|23=>280|24=>281|25=>282|26=>283|27=>284|46=>334|47=>335|48=>336|49=>337|50=>338|57=>369|n=>n,λ|22=>80|24=>88|25=>242|3=>3|39=>36|0=>0|53=>308|55=>310|4=>4|46=>340|45=>339|50=>157|5=>5|9=>9|66=>377|70=>381|76=>405|77=>406|n=>n,λ|n=>n⟩
theorem Tryz.aKQ:Go.Proofs.SlLaysF0.n6 Tryz.prog Tryz.aHb:={
 mixed:=au
 f6:=⟨Tryz.f132.name,ak,aF Tryz.func132⟩
 f14:=⟨Tryz.f215.name,ak,aF Tryz.func215⟩
 f15:=aF Tryz.func216
 f20:=⟨Tryz.f277.name,ak,aF Tryz.func277⟩
 f21:=⟨Tryz.f278.name,ak,aF Tryz.func278⟩
 f22:=⟨Tryz.f279.name,ak,aF Tryz.func279⟩
 f23:=⟨Tryz.f280.name,ak,aF Tryz.func280⟩
 f24:=⟨Tryz.f281.name,ak,aF Tryz.func281⟩
 f25:=⟨Tryz.f282.name,ak,aF Tryz.func282⟩
 f26:=⟨Tryz.f283.name,ak,aF Tryz.func283⟩
 f27:=⟨Tryz.f284.name,ak,aF Tryz.func284⟩
 f28:=aF Tryz.func285
 f29:=aF Tryz.func286
 f46:=⟨Tryz.f334.name,ak,aF Tryz.func334⟩
 f47:=aF Tryz.func335
 f48:=aF Tryz.func336
 f49:=⟨Tryz.f337.name,ak,aF Tryz.func337⟩
 f50:=⟨Tryz.f338.name,ak,aF Tryz.func338⟩
 f57:=⟨Tryz.f369.name,ak,aF Tryz.func369⟩
 t0:=Tryz.underlying0
 a0:=Tryz.isAgg0
 z0:=Tryz.sizeOf0
 v0:=Tryz.zeroValue0
 t3:=Tryz.underlying3
 a3:=Tryz.isAgg3
 z3:=Tryz.sizeOf3
 v3:=Tryz.zeroValue3
 t4:=Tryz.underlying4
 a4:=Tryz.isAgg4
 z4:=Tryz.sizeOf4
 v4:=Tryz.zeroValue4
 t5:=Tryz.underlying5
 a5:=Tryz.isAgg5
 z5:=Tryz.sizeOf5
 v5:=Tryz.zeroValue5
 t9:=Tryz.underlying9
 a9:=Tryz.isAgg9
 z9:=Tryz.sizeOf9
 v9:=Tryz.zeroValue9
 t22:=Tryz.underlying80
 a22:=Tryz.isAgg80
 z22:=Tryz.sizeOf80
 v22:=Tryz.zeroValue80
 t25:=Tryz.underlying242
 a25:=Tryz.isAgg242
 z25:=Tryz.sizeOf242
 v25:=Tryz.zeroValue242
 t39:=Tryz.underlying36
 a39:=Tryz.isAgg36
 z39:=Tryz.sizeOf36
 v39:=Tryz.zeroValue36
 t45:=Tryz.underlying339
 a45:=Tryz.isAgg339
 z45:=Tryz.sizeOf339
 v45:=Tryz.zeroValue339
 t46:=Tryz.underlying340
 a46:=Tryz.isAgg340
 z46:=Tryz.sizeOf340
 v46:=Tryz.zeroValue340
 t50:=Tryz.underlying157
 a50:=Tryz.isAgg157
 z50:=Tryz.sizeOf157
 v50:=Tryz.zeroValue157
 t53:=Tryz.underlying308
 a53:=Tryz.isAgg308
 z53:=Tryz.sizeOf308
 v53:=Tryz.zeroValue308
 t55:=Tryz.underlying310
 a55:=Tryz.isAgg310
 z55:=Tryz.sizeOf310
 v55:=Tryz.zeroValue310
 t66:=Tryz.underlying377
 a66:=Tryz.isAgg377
 z66:=Tryz.sizeOf377
 v66:=Tryz.zeroValue377
 t70:=Tryz.underlying381
 a70:=Tryz.isAgg381
 z70:=Tryz.sizeOf381
 v70:=Tryz.zeroValue381
 t76:=Tryz.underlying405
 a76:=Tryz.isAgg405
 z76:=Tryz.sizeOf405
 v76:=Tryz.zeroValue405
 t77:=Tryz.underlying406
 a77:=Tryz.isAgg406
 z77:=Tryz.sizeOf406
 v77:=Tryz.zeroValue406}
def Tryz.aHc:Go.Shelf.Ren:=⟨λ|6=>172|15=>216|14=>249|28=>285|29=>286|20=>313|21=>314|22=>315|23=>316|24=>317|25=>318|26=>319|27=>320|46=>360|47=>335|48=>336|49=>361|50=>362|57=>385|n=>n,λ|22=>22|24=>3|25=>34|3=>3|39=>36|0=>0|53=>308|55=>310|4=>4|46=>340|45=>339|50=>157|5=>5|9=>9|66=>377|70=>381|76=>405|77=>406|n=>n,λ|n=>n⟩
theorem Tryz.ark:Go.Proofs.SlLaysF.n6 Tryz.prog Tryz.aHc:={
 mixed:=au
 f6:=⟨Tryz.f172.name,ak,aF Tryz.func172⟩
 f14:=⟨Tryz.f249.name,ak,aF Tryz.func249⟩
 f15:=aF Tryz.func216
 f20:=⟨Tryz.f313.name,ak,aF Tryz.func313⟩
 f21:=⟨Tryz.f314.name,ak,aF Tryz.func314⟩
 f22:=⟨Tryz.f315.name,ak,aF Tryz.func315⟩
 f23:=⟨Tryz.f316.name,ak,aF Tryz.func316⟩
 f24:=⟨Tryz.f317.name,ak,aF Tryz.func317⟩
 f25:=⟨Tryz.f318.name,ak,aF Tryz.func318⟩
 f26:=⟨Tryz.f319.name,ak,aF Tryz.func319⟩
 f27:=⟨Tryz.f320.name,ak,aF Tryz.func320⟩
 f28:=aF Tryz.func285
 f29:=aF Tryz.func286
 f46:=⟨Tryz.f360.name,ak,aF Tryz.func360⟩
 f47:=aF Tryz.func335
 f48:=aF Tryz.func336
 f49:=⟨Tryz.f361.name,ak,aF Tryz.func361⟩
 f50:=⟨Tryz.f362.name,ak,aF Tryz.func362⟩
 f57:=⟨Tryz.f385.name,ak,aF Tryz.func385⟩
 t0:=Tryz.underlying0
 a0:=Tryz.isAgg0
 z0:=Tryz.sizeOf0
 v0:=Tryz.zeroValue0
 t3:=Tryz.underlying3
 a3:=Tryz.isAgg3
 z3:=Tryz.sizeOf3
 v3:=Tryz.zeroValue3
 t4:=Tryz.underlying4
 a4:=Tryz.isAgg4
 z4:=Tryz.sizeOf4
 v4:=Tryz.zeroValue4
 t5:=Tryz.underlying5
 a5:=Tryz.isAgg5
 z5:=Tryz.sizeOf5
 v5:=Tryz.zeroValue5
 t9:=Tryz.underlying9
 a9:=Tryz.isAgg9
 z9:=Tryz.sizeOf9
 v9:=Tryz.zeroValue9
 t22:=Tryz.underlying22
 a22:=Tryz.isAgg22
 z22:=Tryz.sizeOf22
 v22:=Tryz.zeroValue22
 a24:=Tryz.isAgg3
 z24:=Tryz.sizeOf3
 t25:=Tryz.underlying34
 a25:=Tryz.isAgg34
 z25:=Tryz.sizeOf34
 v25:=Tryz.zeroValue34
 t39:=Tryz.underlying36
 a39:=Tryz.isAgg36
 z39:=Tryz.sizeOf36
 v39:=Tryz.zeroValue36
 t45:=Tryz.underlying339
 a45:=Tryz.isAgg339
 z45:=Tryz.sizeOf339
 v45:=Tryz.zeroValue339
 t46:=Tryz.underlying340
 a46:=Tryz.isAgg340
 z46:=Tryz.sizeOf340
 v46:=Tryz.zeroValue340
 t50:=Tryz.underlying157
 a50:=Tryz.isAgg157
 z50:=Tryz.sizeOf157
 v50:=Tryz.zeroValue157
 t53:=Tryz.underlying308
 a53:=Tryz.isAgg308
 z53:=Tryz.sizeOf308
 v53:=Tryz.zeroValue308
 t55:=Tryz.underlying310
 a55:=Tryz.isAgg310
 z55:=Tryz.sizeOf310
 v55:=Tryz.zeroValue310
 t66:=Tryz.underlying377
 a66:=Tryz.isAgg377
 z66:=Tryz.sizeOf377
 v66:=Tryz.zeroValue377
 t70:=Tryz.underlying381
 a70:=Tryz.isAgg381
 z70:=Tryz.sizeOf381
 v70:=Tryz.zeroValue381
 t76:=Tryz.underlying405
 a76:=Tryz.isAgg405
 z76:=Tryz.sizeOf405
 v76:=Tryz.zeroValue405
 t77:=Tryz.underlying406
 a77:=Tryz.isAgg406
 z77:=Tryz.sizeOf406
 v77:=Tryz.zeroValue406}
def Tryz.aHd:Go.Shelf.Ren:=⟨λ|20=>251|n=>n,λ|22=>22|3=>3|4=>4|0=>0|n=>n,λ|n=>n⟩
theorem Tryz.aKR:Go.Proofs.Lays2.n20 Tryz.prog Tryz.aHd:={
 mixed:=au
 f20:=aF Tryz.func251
 t0:=Tryz.underlying0
 a0:=Tryz.isAgg0
 z0:=Tryz.sizeOf0
 v0:=Tryz.zeroValue0
 t3:=Tryz.underlying3
 a3:=Tryz.isAgg3
 z3:=Tryz.sizeOf3
 v3:=Tryz.zeroValue3
 t4:=Tryz.underlying4
 a4:=Tryz.isAgg4
 z4:=Tryz.sizeOf4
 v4:=Tryz.zeroValue4
 t22:=Tryz.underlying22
 a22:=Tryz.isAgg22
 z22:=Tryz.sizeOf22
 v22:=Tryz.zeroValue22
 i3:=by kernel_rfl}
end Go.Proofs
namespace Go.Proofs
open Go.RowKit Go.Maps Go.Sort Go.Shelf
theorem Tryz.aMm(m:Nat):AnyZ.SortsIn Tryz.prog Tryz.aoA Fence.wide m:=
  ⟨λblk off cap ss W hH hblk hsz=>callsIn_wide.2 (AnyM.slices_Sort_string Tryz.atn blk off cap ss W hH hblk hsz),
   λp cap W=>callsIn_wide.2 (AnyM.slices_Sort_string_none Tryz.atn p cap W)⟩
set_option maxHeartbeats 2000000 in
theorem Tryz.keys_empty(b0 b clock:Nat)(w:World)(hc:w.cell? ⟨b0,0,none⟩=some (.map (some b)))(hm:w.heap[b]? =some (.map #[] clock)):
    Calls Tryz.prog 206 #[.pointer (some ⟨b0,0,none⟩)] w λe w'=>e=.returned (.slice none 0 0)/\Below w.heap.size w w':=by
  refine(callsIn_wide (n:=6)).1 ?_;have hown:w.ownsMap (H:=Nat) Tryz.prog 9 (λ_=>none) b 0 (.map []):=⟨#[],clock,hm,⟨aj,Go.MapKept.stamped_empty clock,aj⟩,gI _,rfl⟩;have hbl:=hown.lt;have hseq:SeqGives Fence.wide 2 Tryz.prog 327 #[.pointer (some ⟨w.heap.size,0,none⟩)] encStr (λss=>ss.Perm (strKeys (H:=Nat) (.map []))) (Maps.size (H:=Nat) (.map [])) (w.alloc (.cells #[.map (some b)] 224)):=
    AnyZ.keys_gives (ρ:=Tryz.apA) {Tryz.as9 with} Fence.wide _ trivial rfl ah w.heap.size b 0 (.map []) _ aj aj (by
      obtain⟨es,clock,hb,Ft,hs,hD⟩:=hown
      exact⟨es,clock,(Below.heap_alloc _ _ b hbl).trans hb,Ft,hs,hD⟩)
  have cK:∀mb W,CallsIn Fence.wide 5 Tryz.prog 266 #[.map mb] W λe w'=>e=.returned (.func (.func 327) #[] #[.pointer (some ⟨W.heap.size,0,none⟩)])/\w'=W.alloc (.cells #[.map mb] 224):=λmb W=>AnyZ.keys_in Tryz.as9 Fence.wide 5 trivial rfl mb W;have cS:=AnyZ.sorted_in Tryz.aLq Fence.wide 5 trivial trivial trivial trivial rfl ah (Tryz.aMm _) (enters_of Tryz.func326 au rfl) 327 #[.pointer (some ⟨w.heap.size,0,none⟩)] trivial (enters_of Tryz.func327 au rfl) _ _ (by simp[Maps.size]) (by simp[Maps.size]) _ hseq;change CallsIn _ _ Tryz.prog 265 _ _ _ at cS;have hfK:Fence.wide.fn 266:=trivial;have hfS:Fence.wide.fn 265:=trivial;refine callsIn_of_wp Tryz.func206 rfl trivial ?_ rfl;simp only[Tryz.ntmps206,zU,zi,xR,Nat.reduceAdd,Nat.reduceSub,Array.replicate_succ,Array.replicate_zero,List.push_toArray,List.append_toArray,Gn,I9]
  gi_wp2_with (first
    |(gi_at_call 266;refine(cK _ _).mono ?_;rintro e w' ⟨rfl,rfl⟩)
    |(gi_at_call 265;refine cS.mono ?_;rintro e w' ⟨v,ss,rfl,hS,hrow,hnil,hb⟩))
  go_ret
  have hss:ss=[]:=by have:=hS.length_eq;exact List.length_eq_zero_iff.1 (by simpa[strKeys]using this)
  obtain rfl:v=.slice none 0 0:=hnil.2 hss;exact⟨rfl,((Below.refl _ w).alloc (gI _) _).trans (hb.mono aj)⟩
end Go.Proofs
namespace Go.Proofs
open Go Go.AM Go.CP Go.RowKit
set_option maxRecDepth 100000
variable [Fuel]
def aW:List (Nat×Ty):=[(22,.i .i64),(25,.n .jC),(26,.n .jy),(27,.n .iq),(28,.n .ji),(38,.n .bI),(39,.n .gG),(43,.n .eU),(52,.n .aP),(80,.n .iM),(148,.n .iH),(178,.n .mF),(187,.n .mE),(204,.n .bJ),(212,.n .iD),(227,.n .iY),(228,.n .jr),(289,.s),(316,.n .cO),(383,.i .u8)]
def aJs:aR:=bB 26 ⟨[],[]⟩ yV (λv=>arJ) dJ
theorem aII:aX aJs:=bM 14 aW [] Tryz.func26 dw
def aF6:aR:=bB 92 ⟨Xe,[]⟩ iU (λv=>mX v.1.1 v.1.2.1 v.1.2.2.1) dJ
theorem Ov:aX aF6:=bM 15 aW [] Tryz.func92 dw
def aFb:aR:=bB 218 yV iU (λv=>ZF v.1.1) dJ
theorem aEJ:aX aFb:=bM 42 aW [kO Ov] Tryz.func218 dw
def aF4:aR:=bB 219 yV iU (λv=>ZX v.1.1) dJ
theorem aFp:aX aF4:=cu 68 aW [kO Ov] Tryz.func219 dw (.two .z (.two (.two .z (.one (.lp ⟨[(1,u2),(13,u3),(14,zS),(15,zS)],[p51]⟩ (λn v=>TW v.2.1 v.1.2.1 v.1.2.2.1 n v.1.2.2.2.1) λaQr=> .z))) (.two .z (.two (.two .z (.one (.lp ⟨[(1,u2),(5,zS),(32,u4),(33,zS),(34,zS)],[p51]⟩ (λn v=>TV v.2.1 v.1.2.1 v.1.2.2.1 v.1.2.2.2.1 n (bH v.1).1) λaQq=> .z))) (.two (.two .z (.one (.lp ⟨[(1,u2),(5,zS),(45,u5),(46,zS),(47,zS)],[p51]⟩ (λn v=>TU v.2.1 v.1.2.1 v.1.2.2.1 v.1.2.2.2.1 n (bH v.1).1) λaQp=> .z))) (.two (.two .z (.one (.lp ⟨[(5,zS),(57,u5),(58,zS),(59,zS)],[]⟩ (λn v=>TT v.1.1 v.1.2.1 v.1.2.2.1 n v.1.2.2.2.1) λaQo=> .z))) .z)))))) (v1 (vS (v1 (vB (vL λ_=>vZ))) (v1 (vS (v1 (vB (vL λ_=>vZ))) (vS (v1 (vB (vL λ_=>vZ))) (vS (v1 (vB (vL λ_=>vZ))) vZ))))))
def aF5:aR:=bB 220 yV iU (λv=>ZY v.1.1) dJ
theorem aFq:aX aF5:=cu 65 aW [kO Ov] Tryz.func220 dw (.two .z (.two (.two .z (.one (.lp ⟨[(1,u2),(8,u4),(9,zS),(10,zS)],[p51]⟩ (λn v=>T9 v.2.1 v.1.2.1 v.1.2.2.1 n v.1.2.2.2.1) λaQt=> .z))) (.two (.two .z (.one (.lp ⟨[(1,u2),(20,u6),(21,zS),(22,zS)],[p51]⟩ (λn v=>TY v.2.1 v.1.2.1 v.1.2.2.1 n v.1.2.2.2.1) λaQs=> .z))) .z))) (v1 (vS (v1 (vB (vL λ_=>vZ))) (vS (v1 (vB (vL λ_=>vZ))) vZ)))
def aGZ:aR:=bB 136 yV jD (λv=>aal v.1.1) dJ
theorem aGd:aX aGZ:=bM 21 aW [kO aEJ,kO aFp,kO aFq] Tryz.func136 dw
def aEC:aR:=bB 221 ⟨Xe,[]⟩ iU (λv=>BP v.1.1 v.1.2.1 v.1.2.2.1) dJ
theorem anG:aX aEC:=bM 15 aW [] Tryz.func221 dw
def aC1:aR:=bB 137 ⟨[(0,.st .iq),(1,zS)],[]⟩ iU (λv=>YN v.1.1 v.1.2.1) dJ
theorem aCG:aX aC1:=bM 39 aW [kO anG] Tryz.func137 dw
def aFa:aR:=bB 83 yV jD (λv=>Us v.1.1) dJ
theorem anP:aX aFa:=cu 24 aW [kO aGd,kO aCG] Tryz.func83 dw (.zz 2 (.two (.two .z (.one (.lp ⟨[(1,u2),(12,u7),(13,zS),(14,zS)],[p51]⟩ (λn v=>Oj v.2.1 v.1.2.1 v.1.2.2.1 n v.1.2.2.2.1) λaQf=> .z))) .z)) (v2 (vS (v1 (vB (vL λ_=>vZ))) vZ))
def aBS:aR:=bB 287 ⟨[],[]⟩ ⟨[(0,u2)],[JB,p52]⟩ (λv=>aqd) (λr=>(((),()),g0 r))
theorem aAN:aX aBS:=bM 3 aW [] Tryz.func287 (λv=>m0 v.2)
def aw2:aR:=bB 222 ⟨[],[]⟩ WJ (λv=>aom) (λr=>(((),()),g1 r))
theorem awW:aX aw2:=bM 4 aW [kO aAN] Tryz.func222 (λv=>m1 v.2)
def awz:aR:=bB 138 ⟨Bw,[]⟩ WK (λv=>UJ v.1.1 v.1.2.1) (λr=>(((),r.2,()),g2 r.1))
theorem amd:aX awz:=bM 31 aW [kO awW] Tryz.func138 (λv=>(m3 v.2,v.1.2.1))
def awh:aR:=bB 84 jD Qw (λv=>ahg v.1.1) (λr=>(((),r.2,()),g3 r.1))
theorem awe:aX awh:=cu 39 aW [kO amd] Tryz.func84 (λv=>(m4 v.2,v.1.2.1)) (.zz 2 (.two (.two .z (.one (.un (.two (.two .z (.ct .z)) .z) (.un (.two (.two .z (.cf .z)) .z) .z)))) .z)) (v2 (vS (v1 (vB (vU (vV (vS (v1 (vT vZ)) vZ) (vV (vS (v1 (vF vZ)) vZ) vX))))) vZ))
def aw6:aR:=bB 139 ⟨[(0,u3)],[]⟩ ⟨[(0,u3)],[]⟩ (λv=>ad6 v.1.1) dJ
theorem aw4:kU Tryz.prog aw6:=Eb (t:=.n .jC) (e:=97) 8 aW Tryz.func139 dw 0 3 4 25 dw [] rfl au au aA aA au aC au (by intro v;exact⟨au,au⟩) aA aA (λv r hx hF=>DV hx hF)
def aw5:aR:=bB 140 ⟨[(0,u4)],[]⟩ ⟨[(0,u4)],[]⟩ (λv=>ad5 v.1.1) dJ
theorem aw3:kU Tryz.prog aw5:=Eb (t:=.n .jy) (e:=99) 8 aW Tryz.func140 dw 0 3 4 26 dw [] rfl au au aA aA au aC au (by intro v;exact⟨au,au⟩) aA aA (λv r hx hF=>DV hx hF)
def awP:aR:=bB 141 ⟨[(0,u7)],[]⟩ ⟨[(0,u7)],[]⟩ (λv=>adX v.1.1) dJ
theorem awK:kU Tryz.prog awP:=Eb (t:=.n .iq) (e:=101) 8 aW Tryz.func141 dw 0 3 4 27 dw [] rfl au au aA aA au aC au (by intro v;exact⟨au,au⟩) aA aA (λv r hx hF=>DV hx hF)
def awI:aR:=bB 142 ⟨[(0,u6)],[]⟩ ⟨[(0,u6)],[]⟩ (λv=>adU v.1.1) dJ
theorem awF:kU Tryz.prog awI:=Eb (t:=.n .ji) (e:=103) 8 aW Tryz.func142 dw 0 3 4 28 dw [] rfl au au aA aA au aC au (by intro v;exact⟨au,au⟩) aA aA (λv r hx hF=>DV hx hF)
def aAF:aR:=bB 143 yt yt (λv=>Yt v.1.1) dJ
theorem azQ:kU Tryz.prog aAF:=Eb (t:=.i .i64) (e:=3) 8 aW Tryz.func143 dw 0 3 4 22 dw [] rfl au au aA aA au aC au (by intro v;exact⟨au,au⟩) aA aA (λv r hx hF=>DV hx hF)
def aEY:aR:=bB 85 yV yV (λv=>Um v.1.1) dJ
theorem anM:aX aEY:=bM 28 aW [kO aw4,kO aw3,kO awK,kO awF,kO azQ] Tryz.func85 dw
def aAI:aR:=bB 70 yV ⟨ac3,[p55,p56]⟩ (λv=>O8 v.1.1) (λr=>((({r with aH:=([]:List bI),aJ:=([]:List gG)},(),(),()),()),r.aH,r.aJ,()))
theorem aeF:aX aAI:=cu 41 aW [] Tryz.func70 (λv=>{v.1.1.1 with aH:=v.2.1,aJ:=v.2.2.1}) (.zz 2 (.two (.two .z (.one (.lp ⟨[(2,u2),(3,u8),(17,zS),(18,zS)],[zF,.bw .aO [(2,.own 2),(3,.own 3)],p55,p56]⟩ (λn v=>IV v.1.2.2.1 n {v.2.2.1.1 with aH:=v.2.2.2.1,aJ:=(bH v).1} v.1.2.2.2.1) λaQF=> .z))) (.two (.two .z (.one (.lp ⟨[(2,u2),(3,u8),(30,zS),(31,zS)],[zF,.bw .aO [(2,.own 2),(3,.own 3)],p55,p56]⟩ (λn v=>IU v.1.2.2.1 n {v.2.2.1.1 with aH:=v.2.2.2.1,aJ:=(bH v).1} v.1.2.2.2.1) λaQE=> .z))) .z))) (v2 (vS (v1 (vB (vL λ_=>vZ))) (vS (v1 (vB (vL λ_=>vZ))) vZ)))
def av8:aR:=bB 36 yV acE (λv=>K9 v.1.1) (λr=>(((),r.2,()),g4 r.1))
theorem al8:aX av8:=bM 35 aW [kO anP,kO awe,kO anM,kO aeF] Tryz.func36 (λv=>(m7 v.2,v.1.2.1))
def aHJ:aR:=bB 198 ⟨[],[]⟩ akv (λv=>ap1) (λr=>(((),()),((),()),r.values,()))
theorem aG1:aX aHJ:=bM 4 aW [] Tryz.func198 (λv=>m8 v.2.2.1)
def aHB:aR:=bB 199 ⟨[],[]⟩ ⟨[(0,u2)],[p57]⟩ (λv=>apS) (λr=>(((),()),r,()))
theorem aGo:aX aHB:=bM 3 aW [] Tryz.func199 (λv=>v.2.1)
def aFT:aR:=bB 200 ⟨[],[]⟩ ⟨[(0,u2)],[p58]⟩ (λv=>aox) (λr=>(((),()),r,()))
theorem aFd:aX aFT:=bM 3 aW [] Tryz.func200 (λv=>v.2.1)
def aHx:aR:=bB 115 ⟨[],[]⟩ atU (λv=>apl) (λr=>((((),(),(),()),()),((),()),r.tJ.values,r.qA,r.wU,()))
theorem aGh:aX aHx:=bM 5 aW [kO aG1,kO aGo,kO aFd] Tryz.func115 (λv=>m9 v.2.2)
def aBT:aR:=bB 116 jD ⟨[(0,u2)],[QS,p59]⟩ (λv=>aqm v.1.1) (λr=>(((),()),g5 r))
theorem aAO:aX aBT:=bM 6 aW [] Tryz.func116 (λv=>m10 v.2)
def axh:aR:=bB 72 ⟨Bw,[]⟩ acD (λv=>ahS v.1.1 v.1.2.1) (λr=>(((),()),g6 r))
theorem aw8:aX axh:=bM 12 aW [kO aGh,kO aAO] Tryz.func72 (λv=>m11 v.2)
def aDL:aR:=jg 73 acD ⟨[(0,u9)],[QH,p60,.bx [.mc 3],.ms,p57,p58,GL,p59]⟩ (λv=>agq (m11 v.2)) (λr=>(((),()),g7 r.2)) (λv=>Kz (m11 v.2)) (λx v=>(x,m11 v.2)) (λ_=>aC7 _)
theorem ant:aX aDL:=bM 7 aW [] Tryz.func73 (λv=>((),m11 v.2))
def awi:aR:=bB 44 ⟨[(0,u10)],[]⟩ ⟨[(0,nZ)],[p55]⟩ (λv=>JY v.1.1) (λr=>(((),()),r,()))
theorem adL:kU Tryz.prog awi:=Eb (t:=.n .bI) (e:=59) 8 aW Tryz.func44 (λv=>v.2.1) 0 3 4 38 dw [] rfl au au aA aA au aC au (by intro v;exact⟨au,au⟩) aA aA (λv r hx hF=>DV hx hF)
def awj:aR:=bB 45 ⟨[(0,u12)],[]⟩ ⟨[(0,nZ)],[p56]⟩ (λv=>JZ v.1.1) (λr=>(((),()),r,()))
theorem adM:kU Tryz.prog awj:=Eb (t:=.n .gG) (e:=113) 8 aW Tryz.func45 (λv=>v.2.1) 0 3 4 39 dw [] rfl au au aA aA au aC au (by intro v;exact⟨au,au⟩) aA aA (λv r hx hF=>DV hx hF)
def aCs:aR:=jg 12 WH ⟨[(0,su)],[kR,CJ,sV,kS,rT,qg,p52,p53,p54]⟩ (λv=>afL (m7 v.2)) (λr=>((r.1,()),g4 r.2)) (λv=>pQ (m7 v.2)) (λx v=>(λ(p1:bO)=>(x,iL p1)) (m7 v.2)) (λ_=>aBG _)
theorem Sw:aX aCs:=bM 17 aW [kO adL,kO adM] Tryz.func12 (λv=>(v.1.1,m7 v.2))
def av0:aR:=bB 25 yV ⟨[(0,u2)],[Xv,Dh,Mi,GQ,Di,GK,GN,p52,p53,p54,Mk,Mj,Mg,p60,Ml,.ms,p57,p58,QM,p59,Mh,p60,Mq,.ms,p57,p58,QN,p59,p61]⟩ (λv=>ap4 v.1.1) (λr=>(((),()),g8 r))
theorem avZ:aX av0:=cu 83 aW [kO al8,kO aw8,kO ant,kO Sw] Tryz.func25 (λv=>m12 v.2) (.zz 4 (.two (.two .z (.one (.un (.two (.two .z (.ct .z)) (.two (.one (.two .z (.two (.two .z (.one (.un (.two (.two .z (.ct .z)) .z) (.un (.two (.two .z (.ct .z)) .z) (.un (.two (.two .z (.cf .z)) .z) .z))))) .z))) .z)) (.un (.two (.two .z (.cf .z)) .z) .z)))) .z)) (v4 (vS (v1 (vB (vU (vV (vS (v1 (vT vZ)) (vS (vB (v1 (vS (v1 (vB (vU (vV (vS (v1 (vT vZ)) vZ) (vV (vS (v1 (vT vZ)) vZ) (vV (vS (v1 (vF vZ)) vZ) vX)))))) vZ))) vZ)) (vV (vS (v1 (vF vZ)) vZ) vX))))) vZ))
def azG:aR:=bB 233 ⟨[(0,.c (.ty (.i .u32)))],[]⟩ jD (λv=>aAQ v.1.1) dJ
theorem ayN:aX azG:=bM 21 aW [] Tryz.func233 dw
def azH:aR:=bB 234 Mc jD (λv=>am6 v.1.1) dJ
theorem ayO:aX azH:=bM 35 aW [] Tryz.func234 dw
def aBa:aR:=bB 165 Mc jD (λv=>SH v.1.1) dJ
theorem am1:aX aBa:=bM 8 aW [kO ayN,kO ayO] Tryz.func165 dw
def aCr:aR:=jg 90 WH atW (λv=>afK (m7 v.2)) (λr=>((r.1,()),g4 r.2)) (λv=>ze (m7 v.2)) (λx v=>(λ(p1:bO)=>(x,iL p1)) (m7 v.2)) (λ_=>aBF _)
theorem aBE:aX aCr:=bM 17 aW [kO am1] Tryz.func90 (λv=>(v.1.1,m7 v.2))
def aFL:aR:=bB 363 jD ⟨[(0,.st .ny)],[]⟩ (λv=>KQ v.1.1) dJ
theorem aEM:aX aFL:=bM 6 aW [] Tryz.func363 dw
def aET:aR:=bB 321 ⟨[(0,zS),(1,.st .qN)],[]⟩ ⟨[(0,.st .oh),(1,u1)],[]⟩ (λv=>Zv v.1.1 v.1.2.1) (λr=>((r.1,r.2,()),()))
theorem aEb:aX aET:=cu 120 aW [kO aEM] Tryz.func321 (λv=>(v.1.1,v.1.2.1)) (.zz 6 (.cut ⟨[(4,u2),(14,u8)],[p62,p62]⟩ (λv=>xK v.2.2.1) (.two .z (.one (.zz 8 (.cut ⟨[(3,u2),(4,u8),(7,jL),(8,u16),(10,uq),(11,Ah),(13,u9),(14,.c (.pb 7 0)),(36,zS),(70,u1)],[.bs .qN,p62,p63,p63,p63,p63,p63,p62]⟩ (λv=>Tv (gB v.1).1 v.2.1 v.2.2.2.1 (bH v).1 (dH v).1 (dR v).1 (dY v).1 (gB v).1 (nH v.1).1) .z (.zz 7 (.cut ⟨[(3,u2),(4,u8),(8,jL),(10,u16),(11,uq),(13,Ah),(14,u9),(36,zS),(93,u1)],[.bs .qN,p62,p63,p63,p63,p63,p62]⟩ (λv=>Tt (dY v.1).1 v.2.1 v.2.2.2.1 (bH v).1 (dH v).1 (dR v).1 (dY v).1 (gB v.1).1) .z (.zz 5 (.cut ⟨[(4,u2),(13,u8),(14,jL),(36,zS),(112,u1)],[p62,p63,p62]⟩ (λv=>Tq v.1.2.2.2.1 v.2.2.1 v.2.2.2.1 (bH v.1).1) .z .z)))))))) .z)) (v6 (vC (v1 (vB (v1 (vD vZ (v1 (vD vZ (v1 (vD vZ (v1 (vD vZ (vC vZ (vD vZ (v1 (vD vZ (v1 (vD vZ (v1 (vD vZ (vC vZ (vD vZ (v1 (vD vZ (v1 (vD vZ (vC vZ vZ))))))))))))))))))))))))) vZ))
def aDO:aR:=bB 322 ⟨[(0,.st .ny),(1,zS)],[]⟩ iU (λv=>DJ v.1.1 v.1.2.1) dJ
theorem aDa:aX aDO:=bM 15 aW [] Tryz.func322 dw
def aGE:aR:=bB 253 ⟨[(0,rF),(1,.st .qN)],[]⟩ iU (λv=>O0 v.1.1 v.1.2.1) dJ
theorem Ow:aX aGE:=bM 85 aW [kO aEb,kO aDa] Tryz.func253 dw
def aFJ:aR:=bB 252 WO iU (λv=>sG v.1.1) dJ
theorem YU:aX aFJ:=bM 6 aW [kO Ow] Tryz.func252 dw
def aFK:aR:=bB 180 ⟨[(0,u0),(1,rF)],[]⟩ iU (λv=>Uv v.1.1 v.1.2.1) dJ
theorem aEL:aX aFK:=bM 23 aW [kO YU,kO Ow] Tryz.func180 dw
def aE6:aR:=bB 254 ⟨ac5,[]⟩ jD (λv=>F3 v.1.1 v.1.2.1) dJ
theorem Tz:aX aE6:=bM 20 aW [] Tryz.func254 dw
def aF2:aR:=bB 109 ⟨G7,[]⟩ jD (λv=>ag0 v.1.1 v.1.2.1) dJ
theorem aFl:aX aF2:=bM 18 aW [kO Ov] Tryz.func109 dw
def aCC:aR:=bB 40 ⟨G7,[]⟩ jD (λv=>NY v.1.1 v.1.2.1) dJ
theorem anc:aX aCC:=bM 18 aW [kO Ov] Tryz.func40 dw
def aEF:aR:=bB 65 ⟨G7,[]⟩ jD (λv=>wD v.1.1 v.1.2.1) dJ
theorem Ap:aX aEF:=bM 10 aW [kO aFl,kO anc] Tryz.func65 dw
def aHI:aR:=bB 259 ⟨Bw,[]⟩ iU (λv=>DX v.1.1 v.1.2.1) dJ
theorem OO:aX aHI:=bM 18 aW [] Tryz.func259 dw
def aE5:aR:=bB 255 ⟨GZ,[]⟩ iU (λv=>KO v.1.1 v.1.2.1 v.1.2.2.1) dJ
theorem agl:aX aE5:=bM 13 aW [kO Ap,kO OO] Tryz.func255 dw
def aGV:aR:=bB 256 ⟨JI,[]⟩ iU (λv=>K4 v.1.1 v.1.2.1 v.1.2.2.1) dJ
theorem agB:aX aGV:=bM 34 aW [kO Ap,kO anG] Tryz.func256 dw
def aE8:aR:=bB 108 ⟨JI,[]⟩ iU (λv=>OQ v.1.1 v.1.2.1 v.1.2.2.1) dJ
theorem agn:aX aE8:=bM 26 aW [kO Ap] Tryz.func108 dw
def aGR:aR:=bB 257 ⟨JI,[]⟩ iU (λv=>KZ v.1.1 v.1.2.1 v.1.2.2.1) dJ
theorem agz:aX aGR:=bM 16 aW [kO agn] Tryz.func257 dw
def aFX:aR:=bB 181 ⟨CY,[]⟩ jD (λv=>UL v.1.1 v.1.2.1 v.1.2.2.1) dJ
theorem aFg:aX aFX:=cu 72 aW [kO Tz,kO agl,kO agB,kO agz] Tryz.func181 dw (.zz 2 (.two (.one (.zz 2 (.cut ⟨[(3,u2),(4,u8),(5,jL),(7,u1),(19,u1)],[p51,p64,p65]⟩ (λv=>Y9 v.2.1 v.2.2.1 v.2.2.2.1 v.1.2.2.2.1 (bH v.1).1) .z (.two .z (.cut ⟨[(3,u2),(5,u8),(7,u1),(33,u1)],[p51,p65]⟩ (λv=>Y8 v.2.1 v.2.2.1 v.1.2.2.1 v.1.2.2.2.1) .z (.zz 3 (.cut ⟨[(55,u1)],[]⟩ (λv=>Y7 v.1.1) .z .z))))))) .z)) (v2 (vS (vB (v1 (vD vZ (vC vZ (vD vZ (vC vZ (vD vZ (v1 (vD vZ (vC vZ vZ)))))))))) vZ))
def aEA:aR:=bB 182 ⟨CY,[]⟩ jD (λv=>Ui v.1.1 v.1.2.1 v.1.2.2.1) dJ
theorem aD7:aX aEA:=cu 69 aW [kO Tz,kO agl,kO agB,kO agn,kO agz] Tryz.func182 dw (.zz 4 (.two (.one (.cut ⟨[(3,u2),(4,u8),(5,jL),(7,u16),(20,u1)],[p51,p64,p65,p66]⟩ (λv=>Tp v.2.1 v.2.2.1 v.2.2.2.1 (bH v).1 (bH v.1).1) .z (.zz 5 (.cut ⟨[(48,u1)],[]⟩ (λv=>Tn v.1.1) .z .z)))) .z)) (v4 (vS (vB (vC vZ (vD vZ (v1 (vD vZ (v1 (vD vZ (vC vZ vZ)))))))) vZ))
def aFZ:aR:=bB 183 ⟨JJ,[]⟩ jD (λv=>UN v.1.1 v.1.2.1) dJ
theorem aFi:aX aFZ:=bM 28 aW [kO Tz] Tryz.func183 dw
def aEy:aR:=bB 184 ⟨CY,[]⟩ jD (λv=>Uh v.1.1 v.1.2.1 v.1.2.2.1) dJ
theorem aD5:aX aEy:=cu 71 aW [kO Tz,kO agl,kO agB,kO agz] Tryz.func184 dw (.zz 2 (.two (.one (.cut ⟨[(3,u2),(4,u8),(5,jL),(7,u16),(14,u1)],[p51,p64,p65,p66]⟩ (λv=>Tk v.2.1 v.2.2.1 v.2.2.2.1 (bH v).1 (bH v.1).1) .z (.two .z (.cut ⟨[(3,u2),(4,u8),(5,jL),(7,u16),(23,u1)],[p51,p64,p65,p66]⟩ (λv=>Tj v.2.1 v.2.2.1 v.2.2.2.1 (bH v).1 (bH v.1).1) .z (.zz 5 (.cut ⟨[(51,u1)],[]⟩ (λv=>Ti v.1.1) .z .z)))))) .z)) (v2 (vS (vB (vC vZ (vD vZ (vC vZ (vD vZ (v1 (vD vZ (v1 (vD vZ (vC vZ vZ)))))))))) vZ))
def aEw:aR:=bB 185 ⟨JJ,[]⟩ jD (λv=>Ug v.1.1 v.1.2.1) dJ
theorem aD3:aX aEw:=bM 20 aW [] Tryz.func185 dw
def aGT:aR:=bB 186 ⟨JJ,[]⟩ jD (λv=>U0 v.1.1 v.1.2.1) dJ
theorem aGa:aX aGT:=cu 38 aW [kO Tz] Tryz.func186 dw (.zz 3 (.two (.one (.cut ⟨[(3,u2),(5,u8),(25,u1)],[p65,p66]⟩ (λv=>Zp v.2.1 v.2.2.1 v.1.2.2.1) .z .z)) .z)) (v3 (vS (vB (vC vZ vZ)) vZ))
def aFW:aR:=bB 187 ⟨CY,[]⟩ jD (λv=>KT v.1.1 v.1.2.1 v.1.2.2.1) dJ
theorem aFf:aX aFW:=cu 141 aW [] Tryz.func187 dw (.zz 3 (.two (.one (.cut ⟨[(3,u2),(5,u8),(7,jL),(8,u16),(9,u1),(27,u1)],[p51,p65,p66,p67]⟩ (λv=>TP v.2.1 v.2.2.1 v.2.2.2.1 (bH v).1 (bH v.1).1 (dH v.1).1) .z (.zz 3 (.cut ⟨[(3,u2),(5,u8),(7,jL),(8,u16),(9,u1),(57,u1)],[p51,p65,p66,p67]⟩ (λv=>Y6 v.2.1 v.2.2.1 v.2.2.2.1 (bH v).1 (bH v.1).1 (dH v.1).1) .z (.zz 3 (.cut ⟨[(3,u2),(5,u8),(7,jL),(9,u1),(86,u1)],[p51,p65,p66]⟩ (λv=>Y5 v.2.1 v.2.2.1 v.2.2.2.1 v.1.2.2.2.1 (bH v.1).1) .z (.two .z (.cut ⟨[(5,u2),(7,u8),(9,u1),(97,u1)],[p65,p66]⟩ (λv=>Ou v.2.1 v.2.2.1 v.1.2.2.1 v.1.2.2.2.1) .z (.two .z (.cut ⟨[(124,u1)],[]⟩ (λv=>Y4 v.1.1) .z .z)))))))))) .z)) (v3 (vS (vB (vC vZ (vD vZ (v1 (vD vZ (vC vZ (vD vZ (v1 (vD vZ (vC vZ (vD vZ (vC vZ (vD vZ (vC vZ vZ)))))))))))))) vZ))
def aHH:aR:=bB 188 ⟨JJ,[]⟩ jD (λv=>U9 v.1.1 v.1.2.1) dJ
theorem aG0:aX aHH:=bM 22 aW [] Tryz.func188 dw
def aGQ:aR:=bB 189 ⟨JJ,[]⟩ jD (λv=>UY v.1.1 v.1.2.1) dJ
theorem aF8:aX aGQ:=bM 15 aW [] Tryz.func189 dw
def aDs:aR:=bB 258 ⟨G7,[]⟩ ⟨[(0,.st .ji)],[]⟩ (λv=>Oi v.1.1 v.1.2.1) dJ
theorem ano:aX aDs:=bM 20 aW [] Tryz.func258 dw
def aDY:aR:=bB 260 ⟨[(0,su)],[]⟩ yt (λv=>Y3 v.1.1) dJ
theorem aDy:aX aDY:=cu 34 aW [kO OO] Tryz.func260 dw (.zz 2 (.two (.two .z (.one (.lp ⟨avb,[p64,p68]⟩ (λn v=>FJ v.2.1 v.1.2.2.1 v.1.2.2.2.1 n v.2.2.1 (bH v.1).1) λae1=>.zz 2 (.cut ⟨avb,[p64,p68]⟩ (λv=>YH (λy1 y2=>ae1 (((),(),v.1.2.2.1,v.1.2.2.2.1,y2,()),v.2.1,y1,())) (bH v.1).1 v.2.2.1) .z .z)))) .z)) (v2 (vS (v1 (vB (vL λ_=>v2 (vC vZ vZ)))) vZ))
def aGU:aR:=bB 190 ⟨CY,[]⟩ jD (λv=>U1 v.1.1 v.1.2.1 v.1.2.2.1) dJ
theorem aGb:aX aGU:=cu 72 aW [kO ano,kO OO,kO aDy] Tryz.func190 dw (.zz 2 (.two (.one (.zz 2 (.cut ⟨[(3,u2),(4,u8),(5,jL),(7,u16),(28,u1)],[p51,p64,p65,p67]⟩ (λv=>Zt v.2.1 v.2.2.1 v.2.2.2.1 (bH v).1 (bH v.1).1) .z (.two .z (.cut ⟨[(3,u2),(4,u8),(5,jL),(39,u1)],[p51,p64,p65]⟩ (λv=>Zr v.2.1 v.2.2.1 v.2.2.2.1 v.1.2.2.2.1) .z .z))))) (.two .z (.two (.two .z (.one (.lp ⟨auX,[p51,p65]⟩ (λn v=>DL v.2.1 v.2.2.1 v.1.2.2.2.1 (bH v.1).1 n v.1.2.2.1 (dH v.1).1) λaf9=>.zz 2 (.cut ⟨auX,[p51,p65]⟩ (λv=>Zq (λy1 y2=>af9 (((),(),y1,v.1.2.2.2.1,(bH v.1).1,y2,()),v.2.1,v.2.2.1,())) (dH v.1).1 v.1.2.2.1) .z .z)))) .z)))) (v2 (vS (vB (v1 (vD vZ (vC vZ (vD vZ (vC vZ vZ)))))) (v1 (vS (v1 (vB (vL λ_=>v2 (vC vZ vZ)))) vZ))))
def aGS:aR:=bB 191 ⟨JJ,[]⟩ jD (λv=>UZ v.1.1 v.1.2.1) dJ
theorem aF9:aX aGS:=cu 59 aW [kO OO] Tryz.func191 dw (.zz 2 (.two (.one (.cut ⟨[(2,u2),(3,u8),(14,u1)],[p64,p65]⟩ (λv=>Zo v.2.1 v.2.2.1 v.1.2.2.1) .z .z)) (.two (.two .z (.one (.lp ⟨[(3,u2),(38,u10),(39,zS),(40,zS)],[p65]⟩ (λn v=>FX v.2.1 v.1.2.1 v.1.2.2.1 n v.1.2.2.2.1) λaQy=> .z))) .z))) (v2 (vS (vB (vC vZ vZ)) (vS (v1 (vB (vL λ_=>vZ))) vZ)))
def aFY:aR:=bB 192 ⟨CY,[]⟩ jD (λv=>UM v.1.1 v.1.2.1 v.1.2.2.1) dJ
theorem aFh:aX aFY:=cu 49 aW [kO OO] Tryz.func192 dw (.zz 2 (.two (.two .z (.one (.lp ⟨[(3,u2),(5,u8),(15,u12),(16,zS),(17,zS)],[p51,p65]⟩ (λn v=>FT v.2.1 v.2.2.1 v.1.2.2.1 v.1.2.2.2.1 n (bH v.1).1) λaQn=> .z))) .z)) (v2 (vS (v1 (vB (vL λ_=>vZ))) vZ))
def aD0:aR:=bB 193 ⟨JJ,[]⟩ jD (λv=>KF v.1.1 v.1.2.1) dJ
theorem aDA:aX aD0:=bM 14 aW [kO OO] Tryz.func193 dw
def aE4:aR:=bB 194 ⟨G6,[]⟩ jD (λv=>Ur v.1.1 v.1.2.1) dJ
theorem aEH:aX aE4:=cu 43 aW [kO ano] Tryz.func194 dw (.zz 2 (.two (.two .z (.one (.lp ⟨[(2,u2),(3,u8),(18,u12),(19,zS),(20,zS)],[p51,p64]⟩ (λn v=>FP v.2.1 v.2.2.1 v.1.2.2.1 v.1.2.2.2.1 n (bH v.1).1) λaQd=> .z))) .z)) (v2 (vS (v1 (vB (vL λ_=>vZ))) vZ))
def aDZ:aR:=bB 195 ⟨[(0,su)],[]⟩ jD (λv=>TN v.1.1) dJ
theorem aDz:aX aDZ:=bM 8 aW [] Tryz.func195 dw
def aEz:aR:=bB 111 ⟨CY,[]⟩ jD (λv=>Av v.1.1 v.1.2.1 v.1.2.2.1) dJ
theorem aD6:aX aEz:=cu 118 aW [kO aEL,kO aFg,kO aD7,kO aFi,kO aD5,kO aD3,kO aGa,kO aFf,kO aG0,kO aF8,kO aGb,kO aF9,kO aFh,kO aDA,kO aEH,kO aDz] Tryz.func111 dw (.two .z (.two (.one (.cut ⟨[(3,u2),(4,u8),(5,jL),(7,u1)],[p51,p64,p65]⟩ (λv=>DI v.2.1 v.2.2.1 v.2.2.2.1 v.1.2.2.2.1) .z .z)) .z)) (v1 (vS (vB (vC vZ vZ)) vZ))
def aE7:aR:=kV 196 ⟨[(0,u21),(1,rF)],[p56]⟩ ⟨[],[p56]⟩ (λv=>OP v.2.1 v.1.1 v.1.2.1) (λr=>((),r,())) (λv=>v.2.1)
theorem aEI:aX aE7:=bM 37 aW [] Tryz.func196 (λv=>v.2.1)
def aEx:aR:=kV 261 ⟨[(0,u21),(1,rF)],[p55]⟩ ⟨[],[p55]⟩ (λv=>agy v.2.1 v.1.1 v.1.2.1) (λr=>((),r,())) (λv=>v.2.1)
theorem aD4:aX aEx:=bM 68 aW [] Tryz.func261 (λv=>v.2.1)
def aD1:aR:=kV 197 ⟨[(0,u21),(1,rF)],[p55]⟩ ⟨[],[p55]⟩ (λv=>Ar v.2.1 v.1.1 v.1.2.1) (λr=>((),r,())) (λv=>v.2.1)
theorem aDB:aX aD1:=bM 100 aW [kO aD4] Tryz.func197 (λv=>v.2.1)
def ayG:aR:=bB 112 ⟨JJ,[]⟩ ⟨ac3,[p55,p56]⟩ (λv=>xL v.1.1 v.1.2.1) (λr=>((({r with aH:=([]:List bI),aJ:=([]:List gG)},(),(),()),()),r.aH,r.aJ,()))
theorem ayb:aX ayG:=cu 82 aW [kO adL,kO adM,kO aEI,kO aDB] Tryz.func112 (λv=>{v.1.1.1 with aH:=v.2.1,aJ:=v.2.2.1}) (.zz 4 (.cut ⟨[(2,u2),(4,u16)],[akU,p55,p56,zF]⟩ (λv=>Aq {v.2.1.1 with aH:=v.2.2.1,aJ:=v.2.2.2.1}) (.two .z (.one (.cut ⟨[(2,u2),(3,u16),(4,uq),(21,zS),(29,u1)],[akU,p55,p56,p65,zF]⟩ (λv=>KC (bH v).1 {v.2.1.1 with aH:=v.2.2.1,aJ:=v.2.2.2.1} v.1.2.2.2.1 (bH v.1).1) .z .z))) .z)) (v4 (vC (v1 (vB (vC vZ vZ))) vZ))
def aFV:aR:=bB 113 WO iU (λv=>ql v.1.1) dJ
theorem aFe:aX aFV:=cu 19 aW [] Tryz.func113 dw (.two .z (.two (.two .z (.one (.cut ⟨[(1,u2),(4,zS),(5,u1)],[p65]⟩ (λv=>rH v.2.1 v.1.2.1 v.1.2.2.1) .z .z))) .z)) (v1 (vS (v1 (vB (vC vZ vZ))) vZ))
def aGI:aR:=bB 66 ⟨G6,[]⟩ jD (λv=>KX v.1.1 v.1.2.1) dJ
theorem agx:aX aGI:=bM 12 aW [] Tryz.func66 dw
def aFM:aR:=bB 106 ⟨[(0,.st .bI)],[]⟩ iU (λv=>Uy v.1.1) dJ
theorem anS:aX aFM:=bM 10 aW [] Tryz.func106 dw
def aIx:aR:=kV 107 ⟨ac4,[p68]⟩ ⟨[],[p68]⟩ (λv=>I7 v.2.1 v.1.2.1 v.1.2.2.1) (λr=>((),r,())) (λv=>v.2.1)
theorem aoo:aX aIx:=bM 21 aW [] Tryz.func107 (λv=>v.2.1)
def aBV:aR:=bB 63 ⟨G6,[]⟩ EK (λv=>IX v.1.1 v.1.2.1) (λr=>(((),()),r,()))
theorem Sm:aX aBV:=cu 60 aW [kO agx,kO anS,kO aoo] Tryz.func63 (λv=>v.2.1) (.zz 2 (.two (.two .z (.one (.lp ⟨au9,[p51,p64,p68]⟩ (λn v=>IE v.2.1 v.2.2.1 v.1.2.2.2.1 n v.2.2.2.1 (bH v.1).1) λNU=>.zz 2 (.cut ⟨au9,[p51,p64,p68]⟩ (λv=>YZ (λy1 y2=>NU (((),(),(),v.1.2.2.2.1,y2,()),v.2.1,v.2.2.1,y1,())) (bH v.1).1 v.2.2.2.1) (.one (.zz 3 (.cut ⟨[(2,u2),(3,u8),(5,u22),(7,u16),(8,uq),(15,zS),(16,zS)],[p51,p64,p68,p69,p66]⟩ (λv=>Y0 (λy1 y2=>NU (((),(),(),(dH v.1).1,y2,()),v.2.1,v.2.2.1,y1,())) (dR v.1).1 (bH v).1 (dH v).1 v.2.2.2.1) .z .z))) .z)))) .z)) (v2 (vS (v1 (vB (vL λ_=>v2 (vC (vB (v3 (vC vZ vZ))) vZ)))) vZ))
def aCT:aR:=bB 114 ⟨G6,[]⟩ EK (λv=>U4 v.1.1 v.1.2.1) (λr=>(((),()),r,()))
theorem aCg:aX aCT:=cu 31 aW [kO Sm] Tryz.func114 (λv=>v.2.1) (.zz 2 (.two (.two .z (.one (.lp ⟨au5,[p51,p68,p68]⟩ (λn v=>KJ v.2.1 v.2.2.2.1 v.1.2.2.2.1 n v.2.2.1 (bH v.1).1) λagi=>.zz 2 (.cut ⟨au5,[p51,p68,p68]⟩ (λv=>Zx (λy1 y2=>agi (((),(),(),v.1.2.2.2.1,y2,()),v.2.1,y1,v.2.2.2.1,())) (bH v.1).1 v.2.2.1) .z .z)))) .z)) (v2 (vS (v1 (vB (vL λ_=>v2 (vC vZ vZ)))) vZ))
def azd:aR:=bB 71 ⟨CY,[]⟩ ⟨ala,[p55,p56]⟩ (λv=>BQ v.1.1 v.1.2.1 v.1.2.2.1) (λr=>((({r.1 with aH:=([]:List bI),aJ:=([]:List gG)},(),(),()),r.2,()),r.1.aH,r.1.aJ,()))
theorem X7:aX azd:=bM 32 aW [kO aD6,kO ayb,kO aFe,kO aCg] Tryz.func71 (λv=>({v.1.1.1 with aH:=v.2.1,aJ:=v.2.2.1},v.1.2.1))
def aAz:aR:=jg 235 Bn Qx (λv=>ae3 (m3 v.2)) (λr=>((r.1,()),g2 r.2)) (λv=>xH (m3 v.2)) (λx v=>(x,m3 v.2)) (λ_=>azt _)
theorem amU:aX aAz:=bM 7 aW [] Tryz.func235 (λv=>(v.1.1,m3 v.2))
def aAn:aR:=jg 293 WJ WL (λv=>aeU (m1 v.2)) (λr=>((r.1,()),g1 r.2)) (λv=>o9 (m1 v.2)) (λx v=>(x,m1 v.2)) (λ_=>azi _)
theorem azh:aX aAn:=bM 7 aW [] Tryz.func293 (λv=>(v.1.1,m1 v.2))
def aAA:aR:=jg 236 Bn Qx (λv=>ae4 (m3 v.2)) (λr=>((r.1,()),g2 r.2)) (λv=>jl (m3 v.2)) (λx v=>(x,m3 v.2)) (λ_=>azu _)
theorem BH:aX aAA:=bM 8 aW [kO azh] Tryz.func236 (λv=>(v.1.1,m3 v.2))
def aAr:aR:=kV 166 aks atY (λv=>ND (m4 v.2)) (λr=>((r.1,()),g3 r.2)) (λv=>(aG,m4 v.2))
theorem azo:aX aAr:=cu 39 aW [kO amU,kO BH] Tryz.func166 (λv=>(v.1.1,m4 v.2)) (.zz 2 (.two (.two .z (.one (.un (.two .z (.two (.ct .z) (.cut ⟨ava,[zD,tZ,j6,lX,jJ,p52,p53,p54]⟩ (λv=>aez v.1.2.1 v.1.2.2.2.1 (bH v.1).1 (m4 v.2)) .z .z))) (.un (.two .z (.two (.cf .z) .z)) .z)))) .z)) (v2 (vS (v1 (vB (vU (vV (v1 (vS (vT vZ) (vC vZ vZ))) (vV (v1 (vS (vF vZ) vZ)) vX))))) vZ))
def aCX:aR:=jg 167 acE atW (λv=>af3 (m7 v.2) v.1.2.1) (λr=>((r.1,()),g4 r.2)) (λv=>pq (m7 v.2) v.1.2.1) (λx v=>(λ(p1:bO) (p2:Int)=>(x,iL p1)) (m7 v.2) v.1.2.1) (λ_=>aCl _ _)
theorem afh:aX aCX:=bM 27 aW [] Tryz.func167 (λv=>(v.1.1,m7 v.2))
def aCx:aR:=jg 246 Qw atZ (λv=>afP (m4 v.2) v.1.2.1) (λr=>((r.1,()),g3 r.2)) (λv=>FE (m4 v.2) v.1.2.1) (λx v=>(λ(p1:bP) (p2:Int)=>(x,iE p1)) (m4 v.2) v.1.2.1) (λ_=>aBO _ _)
theorem aeX:aX aCx:=bM 16 aW [] Tryz.func246 (λv=>(v.1.1,m4 v.2))
def ayy:aR:=jg 237 aud atZ (λv=>aeA (m4 v.2) v.1.2.1) (λr=>((r.1,()),g3 r.2)) (λv=>J8 (m4 v.2) v.1.2.1) (λx v=>(λ(p1:bP) (p2:lS)=>(x,iE p1)) (m4 v.2) v.1.2.1) (λ_=>axW _ _)
theorem axV:aX ayy:=cu 33 aW [kO aeX] Tryz.func237 (λv=>(v.1.1,m4 v.2)) (.two .z (.two (.two .z (.one (.cut ⟨[(0,u2),(3,.c (.pb 8 0)),(6,zS),(7,u1)],[zD,tZ,j6,lX,jJ,p52,p53,p54,p70]⟩ (λv=>J7 (nH v).1 v.1.2.2.1 v.1.2.2.2.1 (m4 v.2)) .z (.two .z (.cut ⟨[(0,u2),(3,.c (.pb 8 0)),(16,u1)],[zD,tZ,j6,lX,jJ,p52,p53,p54,p70]⟩ (λv=>Dq (nH v).1 v.1.2.2.1 (m4 v.2)) .z .z))))) .z)) (v1 (vS (v1 (vB (vC vZ (vD vZ (vC vZ vZ))))) vZ))
def ayw:aR:=kV 372 ⟨G5,[CR,xA,p52,p53]⟩ WL (λv=>R5 (m1 v.2) v.1.2.1 v.1.2.2.1) (λr=>((r.1,()),g1 r.2)) (λv=>(aG,m1 v.2))
theorem amx:aX ayw:=bM 58 aW [] Tryz.func372 (λv=>(v.1.1,m1 v.2))
def aB8:aR:=bB 396 akx ⟨[(0,nZ)],[p52]⟩ (λv=>Z0 v.1.1 v.1.2.1) (λr=>(((),()),r,()))
theorem aBx:aX aB8:=bM 12 aW [] Tryz.func396 (λv=>v.2.1)
def aHL:aR:=bB 404 jD Mc (λv=>aaC v.1.1) dJ
theorem aG3:aX aHL:=bM 12 aW [] Tryz.func404 dw
def aDx:aR:=bB 395 ⟨[(0,nZ),(1,zS)],[p52]⟩ ⟨[(0,u20)],[.dd,p52]⟩ (λv=>ain v.2.1 v.1.2.1) (λr=>(((),()),(),r,()))
theorem aC5:aX aDx:=cu 23 aW [kO aG3] Tryz.func395 (λv=>v.2.2.1) (.zz 2 (.two (.one (.lp ⟨[(0,u20),(5,JV)],[.dd,p52]⟩ (λn v=>OX n v.2.2.1 v.1.2.1) λaQG=> .z)) .z)) (v2 (vS (vB (vL λ_=>vZ)) vZ))
def aDw:aR:=bB 376 akx ⟨[(0,nZ)],[p52]⟩ (λv=>qP v.1.1 v.1.2.1) (λr=>(((),()),r,()))
theorem afF:aX aDw:=bM 9 aW [kO aBx,kO aC5] Tryz.func376 (λv=>v.2.1)
def aA9:aR:=bB 347 yt ⟨[(0,nZ)],[p52]⟩ (λv=>OI v.1.1) (λr=>(((),()),r,()))
theorem aeH:aX aA9:=cu 17 aW [kO afF] Tryz.func347 (λv=>v.2.1) (.zz 2 (.two (.two .z (.one (.lp ⟨[(3,nZ),(6,u5),(7,zS),(8,zS)],[p52]⟩ (λn v=>Og v.1.2.1 v.1.2.2.1 n v.2.1 v.1.2.2.2.1) λaQb=> .z))) .z)) (v2 (vS (v1 (vB (vL λ_=>vZ))) vZ))
def aGB:aR:=bB 399 ⟨[(0,JV),(1,zS)],[]⟩ Mc (λv=>OZ v.1.1 v.1.2.1) dJ
theorem an1:aX aGB:=bM 15 aW [] Tryz.func399 dw
def aES:aR:=bB 398 ⟨[(0,JV),(1,u24)],[]⟩ Mc (λv=>agG v.1.1 v.1.2.1) dJ
theorem aEa:aX aES:=cu 22 aW [kO an1] Tryz.func398 dw (.two .z (.two (.two .z (.one (.lp ⟨[(0,JV),(1,u24),(7,u24),(8,zS),(9,zS)],[]⟩ (λn v=>Oa v.1.2.1 v.1.2.2.1 v.1.2.2.2.1 n v.1.1 (bH v.1).1) λaQa=> .z))) .z)) (v1 (vS (v1 (vB (vL λ_=>vZ))) vZ))
def aGC:aR:=bB 381 ⟨[(0,zS),(1,u24)],[]⟩ Mc (λv=>UU v.1.1 v.1.2.1) dJ
theorem an2:aX aGC:=bM 9 aW [kO an1,kO aEa] Tryz.func381 dw
def aHy:aR:=bB 375 ⟨[(0,u24),(1,zS),(2,u24)],[]⟩ WQ (λv=>aar v.1.1 v.1.2.1 v.1.2.2.1) dJ
theorem aGk:aX aHy:=cu 34 aW [kO afF,kO an2] Tryz.func375 dw (.zz 4 (.two (.two .z (.one (.lp ⟨[(2,u24),(7,nZ),(8,JV),(21,zS)],[p52]⟩ (λn v=>IL v.1.1 n v.2.1 v.1.2.2.1 v.1.2.2.2.1) λaQA=> .z))) .z)) (v4 (vS (v1 (vB (vL λ_=>vZ))) vZ))
def aCQ:aR:=bB 374 ⟨[(0,u2),(1,u24)],[JB,p52]⟩ ⟨[],[xA,.dd,p52]⟩ (λv=>afW (m0 v.2) v.1.2.1) (λr=>((),g9 r))
theorem aCd:aX aCQ:=bM 13 aW [] Tryz.func374 (λv=>m13 v.2)
def azF:aR:=bB 346 aum ⟨[],[CR,QT,.dd,p53,p52]⟩ (λv=>Nr (m1 v.2) v.1.2.1) (λr=>((),g10 r))
theorem aeo:aX azF:=bM 11 aW [kO aGk,kO aCd] Tryz.func346 (λv=>m15 v.2)
def ayv:aR:=bB 342 ⟨G5,[CR,xA,p52,p53]⟩ ⟨[(0,zS)],[CR,QT,.dd,p53,p52]⟩ (λv=>aew (m1 v.2) v.1.2.1 v.1.2.2.1) (λr=>((r.1,()),g10 r.2))
theorem axR:aX ayv:=bM 21 aW [kO amx,kO aeH,kO aeo] Tryz.func342 (λv=>(v.1.1,m15 v.2))
end Go.Proofs
