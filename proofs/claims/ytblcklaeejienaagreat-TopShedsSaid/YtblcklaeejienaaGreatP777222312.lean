/-
 DERIVED: THE SHELF's CONTRACTS AT THIS DUMP, IN PLAIN WORDS (tools/lay-plain.mjs out of 'ZzLays23.lean', which tools/lay-shelf.mjs wrote): THE SAME DECLARATIONS UNDER THE SAME NAMES: 'import', 'namespace', 'open', 'def', 'theorem' AND NOTHING ELSE: no command of the shelf's: FOR A HAND-IN. Each laying: the table of numbers ('.._ren') and one theorem, a field a fact of the dump's own or the kernel's comparison; each contract: ONE APPLICATION.
-/
import Derived.Shelf.SlIter.Nil
import Derived.Shelf.SortM.Plain
import Derived.Shelf.SortM.SortNone
import Derived.Shelf.SlMaps.Clone
import Derived.Shelf.SlSortCmp.NoneTotal
import Derived.Shelf.Slices.CompactI
import Derived.Test.YtblcklaeejienaaGreatProg
import Derived.Test.YtblcklaeejienaaGreatP6c52a1419
set_option linter.defProp false
set_option linter.unusedSectionVars false
set_option linter.unusedSimpArgs false
set_option linter.unusedVariables false
namespace Go.Proofs
open Go.Shelf
def Tryz.ao0:Go.Shelf.Ren:=⟨λ|7=>266|10=>327|n=>n,λ|23=>224|26=>9|3=>222|28=>334|0=>0|27=>333|33=>218|4=>4|n=>n,λ|n=>n⟩
theorem Tryz.asF:Go.Proofs.SlLaysZ.n7 Tryz.prog Tryz.ao0:={
 mixed:=au
 f7:=⟨Tryz.f266.name,ak,aF Tryz.func266⟩
 f10:=⟨Tryz.f327.name,ak,aF Tryz.func327⟩
 t0:=Tryz.underlying0
 a0:=Tryz.isAgg0
 z0:=Tryz.sizeOf0
 v0:=Tryz.zeroValue0
 t4:=Tryz.underlying4
 a4:=Tryz.isAgg4
 z4:=Tryz.sizeOf4
 v4:=Tryz.zeroValue4
 t23:=Tryz.underlying224
 a23:=Tryz.isAgg224
 z23:=Tryz.sizeOf224
 v23:=Tryz.zeroValue224
 t26:=Tryz.underlying9
 a26:=Tryz.isAgg9
 z26:=Tryz.sizeOf9
 v26:=Tryz.zeroValue9
 t27:=Tryz.underlying333
 a27:=Tryz.isAgg333
 z27:=Tryz.sizeOf333
 v27:=Tryz.zeroValue333
 t28:=Tryz.underlying334
 a28:=Tryz.isAgg334
 z28:=Tryz.sizeOf334
 v28:=Tryz.zeroValue334
 t33:=Tryz.underlying218
 a33:=Tryz.isAgg218
 z33:=Tryz.sizeOf218
 v33:=Tryz.zeroValue218}
def Tryz.an5:Go.Shelf.Ren:=⟨λ|6=>265|8=>325|9=>326|11=>365|13=>216|12=>366|23=>285|24=>286|14=>386|15=>387|16=>388|17=>389|18=>390|19=>391|20=>392|21=>393|22=>394|25=>400|26=>335|27=>336|28=>401|29=>402|30=>403|31=>405|n=>n,λ|26=>9|28=>334|24=>289|0=>0|3=>3|37=>36|48=>308|50=>310|4=>4|40=>340|39=>339|45=>157|5=>5|9=>9|51=>377|55=>381|57=>405|58=>406|33=>218|n=>n,λ|n=>n⟩
theorem Tryz.aKG:Go.Proofs.SlLaysZ.n6 Tryz.prog Tryz.an5:={
 mixed:=au
 f6:=⟨Tryz.f265.name,ak,aF Tryz.func265⟩
 f8:=⟨Tryz.f325.name,ak,aF Tryz.func325⟩
 f11:=⟨Tryz.f365.name,ak,aF Tryz.func365⟩
 t0:=Tryz.underlying0
 a0:=Tryz.isAgg0
 z0:=Tryz.sizeOf0
 v0:=Tryz.zeroValue0
 t24:=Tryz.underlying289
 a24:=Tryz.isAgg289
 z24:=Tryz.sizeOf289
 v24:=Tryz.zeroValue289
 t26:=Tryz.underlying9
 a26:=Tryz.isAgg9
 z26:=Tryz.sizeOf9
 v26:=Tryz.zeroValue9
 t28:=Tryz.underlying334
 a28:=Tryz.isAgg334
 z28:=Tryz.sizeOf334
 v28:=Tryz.zeroValue334
 i26:=by kernel_rfl}
def Tryz.aIG:Go.Shelf.Ren:=⟨λ|6=>326|8=>216|9=>366|19=>285|20=>286|21=>386|22=>387|23=>388|24=>389|25=>390|26=>391|27=>392|28=>393|29=>394|36=>400|31=>335|32=>336|37=>401|38=>402|39=>403|41=>405|n=>n,λ|27=>289|29=>9|3=>3|32=>36|26=>289|0=>0|44=>308|46=>310|4=>4|36=>340|35=>339|41=>157|5=>5|9=>9|53=>377|57=>381|63=>405|64=>406|n=>n,λ|n=>n⟩
theorem Tryz.asS:Go.Proofs.SlLaysM.n6 Tryz.prog Tryz.aIG:={
 mixed:=au
 f6:=⟨Tryz.f326.name,ak,aF Tryz.func326⟩
 f8:=aF Tryz.func216
 f9:=⟨Tryz.f366.name,ak,aF Tryz.func366⟩
 f19:=aF Tryz.func285
 f20:=aF Tryz.func286
 f21:=⟨Tryz.f386.name,ak,aF Tryz.func386⟩
 f22:=⟨Tryz.f387.name,ak,aF Tryz.func387⟩
 f23:=⟨Tryz.f388.name,ak,aF Tryz.func388⟩
 f24:=⟨Tryz.f389.name,ak,aF Tryz.func389⟩
 f25:=⟨Tryz.f390.name,ak,aF Tryz.func390⟩
 f26:=⟨Tryz.f391.name,ak,aF Tryz.func391⟩
 f27:=⟨Tryz.f392.name,ak,aF Tryz.func392⟩
 f28:=⟨Tryz.f393.name,ak,aF Tryz.func393⟩
 f29:=⟨Tryz.f394.name,ak,aF Tryz.func394⟩
 f31:=aF Tryz.func335
 f32:=aF Tryz.func336
 f36:=⟨Tryz.f400.name,ak,aF Tryz.func400⟩
 f37:=⟨Tryz.f401.name,ak,aF Tryz.func401⟩
 f38:=⟨Tryz.f402.name,ak,aF Tryz.func402⟩
 f39:=⟨Tryz.f403.name,ak,aF Tryz.func403⟩
 f41:=⟨Tryz.f405.name,ak,aF Tryz.func405⟩
 t0:=Tryz.underlying0
 a0:=Tryz.isAgg0
 z0:=Tryz.sizeOf0
 v0:=Tryz.zeroValue0
 t3:=Tryz.underlying3
 a3:=Tryz.isAgg3
 z3:=Tryz.sizeOf3
 v3:=Tryz.zeroValue3
 t4:=Tryz.underlying4
 a4:=Tryz.isAgg4
 z4:=Tryz.sizeOf4
 v4:=Tryz.zeroValue4
 t5:=Tryz.underlying5
 a5:=Tryz.isAgg5
 z5:=Tryz.sizeOf5
 v5:=Tryz.zeroValue5
 t9:=Tryz.underlying9
 a9:=Tryz.isAgg9
 z9:=Tryz.sizeOf9
 v9:=Tryz.zeroValue9
 t26:=Tryz.underlying289
 a26:=Tryz.isAgg289
 z26:=Tryz.sizeOf289
 v26:=Tryz.zeroValue289
 t27:=Tryz.underlying289
 a27:=Tryz.isAgg289
 z27:=Tryz.sizeOf289
 v27:=Tryz.zeroValue289
 t29:=Tryz.underlying9
 a29:=Tryz.isAgg9
 z29:=Tryz.sizeOf9
 v29:=Tryz.zeroValue9
 t32:=Tryz.underlying36
 a32:=Tryz.isAgg36
 z32:=Tryz.sizeOf36
 v32:=Tryz.zeroValue36
 t35:=Tryz.underlying339
 a35:=Tryz.isAgg339
 z35:=Tryz.sizeOf339
 v35:=Tryz.zeroValue339
 t36:=Tryz.underlying340
 a36:=Tryz.isAgg340
 z36:=Tryz.sizeOf340
 v36:=Tryz.zeroValue340
 t41:=Tryz.underlying157
 a41:=Tryz.isAgg157
 z41:=Tryz.sizeOf157
 v41:=Tryz.zeroValue157
 t44:=Tryz.underlying308
 a44:=Tryz.isAgg308
 z44:=Tryz.sizeOf308
 v44:=Tryz.zeroValue308
 t46:=Tryz.underlying310
 a46:=Tryz.isAgg310
 z46:=Tryz.sizeOf310
 v46:=Tryz.zeroValue310
 t53:=Tryz.underlying377
 a53:=Tryz.isAgg377
 z53:=Tryz.sizeOf377
 v53:=Tryz.zeroValue377
 t57:=Tryz.underlying381
 a57:=Tryz.isAgg381
 z57:=Tryz.sizeOf381
 v57:=Tryz.zeroValue381
 t63:=Tryz.underlying405
 a63:=Tryz.isAgg405
 z63:=Tryz.sizeOf405
 v63:=Tryz.zeroValue405
 t64:=Tryz.underlying406
 a64:=Tryz.isAgg406
 z64:=Tryz.sizeOf406
 v64:=Tryz.zeroValue406}
def Tryz.aGw:Go.Shelf.Ren:=⟨λ|5=>328|7=>367|n=>n,λ|23=>224|25=>9|3=>222|4=>4|20=>20|n=>n,λ|n=>n⟩
theorem Tryz.aJ7:Go.Proofs.SlLaysW.n5 Tryz.prog Tryz.aGw:={
 mixed:=au
 f5:=⟨Tryz.f328.name,ak,aF Tryz.func328⟩
 f7:=aF Tryz.func367
 t4:=Tryz.underlying4
 a4:=Tryz.isAgg4
 z4:=Tryz.sizeOf4
 v4:=Tryz.zeroValue4
 t20:=Tryz.underlying20
 a20:=Tryz.isAgg20
 z20:=Tryz.sizeOf20
 v20:=Tryz.zeroValue20
 t23:=Tryz.underlying224
 a23:=Tryz.isAgg224
 z23:=Tryz.sizeOf224
 v23:=Tryz.zeroValue224}
def Tryz.aGt:Go.Shelf.Ren:=⟨λ|6=>132|15=>216|14=>215|28=>285|29=>286|20=>277|21=>278|22=>279|23=>280|24=>281|25=>282|26=>283|27=>284|46=>334|47=>335|48=>336|49=>337|50=>338|57=>369|n=>n,λ|22=>80|24=>88|25=>242|3=>3|39=>36|0=>0|53=>308|55=>310|4=>4|46=>340|45=>339|50=>157|5=>5|9=>9|66=>377|70=>381|76=>405|77=>406|n=>n,λ|n=>n⟩
theorem Tryz.aJ5:Go.Proofs.SlLaysF0.n6 Tryz.prog Tryz.aGt:={
 mixed:=au
 f6:=⟨Tryz.f132.name,ak,aF Tryz.func132⟩
 f14:=⟨Tryz.f215.name,ak,aF Tryz.func215⟩
 f15:=aF Tryz.func216
 f20:=⟨Tryz.f277.name,ak,aF Tryz.func277⟩
 f21:=⟨Tryz.f278.name,ak,aF Tryz.func278⟩
 f22:=⟨Tryz.f279.name,ak,aF Tryz.func279⟩
 f23:=⟨Tryz.f280.name,ak,aF Tryz.func280⟩
 f24:=⟨Tryz.f281.name,ak,aF Tryz.func281⟩
 f25:=⟨Tryz.f282.name,ak,aF Tryz.func282⟩
 f26:=⟨Tryz.f283.name,ak,aF Tryz.func283⟩
 f27:=⟨Tryz.f284.name,ak,aF Tryz.func284⟩
 f28:=aF Tryz.func285
 f29:=aF Tryz.func286
 f46:=⟨Tryz.f334.name,ak,aF Tryz.func334⟩
 f47:=aF Tryz.func335
 f48:=aF Tryz.func336
 f49:=⟨Tryz.f337.name,ak,aF Tryz.func337⟩
 f50:=⟨Tryz.f338.name,ak,aF Tryz.func338⟩
 f57:=⟨Tryz.f369.name,ak,aF Tryz.func369⟩
 t0:=Tryz.underlying0
 a0:=Tryz.isAgg0
 z0:=Tryz.sizeOf0
 v0:=Tryz.zeroValue0
 t3:=Tryz.underlying3
 a3:=Tryz.isAgg3
 z3:=Tryz.sizeOf3
 v3:=Tryz.zeroValue3
 t4:=Tryz.underlying4
 a4:=Tryz.isAgg4
 z4:=Tryz.sizeOf4
 v4:=Tryz.zeroValue4
 t5:=Tryz.underlying5
 a5:=Tryz.isAgg5
 z5:=Tryz.sizeOf5
 v5:=Tryz.zeroValue5
 t9:=Tryz.underlying9
 a9:=Tryz.isAgg9
 z9:=Tryz.sizeOf9
 v9:=Tryz.zeroValue9
 t22:=Tryz.underlying80
 a22:=Tryz.isAgg80
 z22:=Tryz.sizeOf80
 v22:=Tryz.zeroValue80
 t25:=Tryz.underlying242
 a25:=Tryz.isAgg242
 z25:=Tryz.sizeOf242
 v25:=Tryz.zeroValue242
 t39:=Tryz.underlying36
 a39:=Tryz.isAgg36
 z39:=Tryz.sizeOf36
 v39:=Tryz.zeroValue36
 t45:=Tryz.underlying339
 a45:=Tryz.isAgg339
 z45:=Tryz.sizeOf339
 v45:=Tryz.zeroValue339
 t46:=Tryz.underlying340
 a46:=Tryz.isAgg340
 z46:=Tryz.sizeOf340
 v46:=Tryz.zeroValue340
 t50:=Tryz.underlying157
 a50:=Tryz.isAgg157
 z50:=Tryz.sizeOf157
 v50:=Tryz.zeroValue157
 t53:=Tryz.underlying308
 a53:=Tryz.isAgg308
 z53:=Tryz.sizeOf308
 v53:=Tryz.zeroValue308
 t55:=Tryz.underlying310
 a55:=Tryz.isAgg310
 z55:=Tryz.sizeOf310
 v55:=Tryz.zeroValue310
 t66:=Tryz.underlying377
 a66:=Tryz.isAgg377
 z66:=Tryz.sizeOf377
 v66:=Tryz.zeroValue377
 t70:=Tryz.underlying381
 a70:=Tryz.isAgg381
 z70:=Tryz.sizeOf381
 v70:=Tryz.zeroValue381
 t76:=Tryz.underlying405
 a76:=Tryz.isAgg405
 z76:=Tryz.sizeOf405
 v76:=Tryz.zeroValue405
 t77:=Tryz.underlying406
 a77:=Tryz.isAgg406
 z77:=Tryz.sizeOf406
 v77:=Tryz.zeroValue406}
def Tryz.aGu:Go.Shelf.Ren:=⟨λ|6=>172|15=>216|14=>249|28=>285|29=>286|20=>313|21=>314|22=>315|23=>316|24=>317|25=>318|26=>319|27=>320|46=>360|47=>335|48=>336|49=>361|50=>362|57=>385|n=>n,λ|22=>22|24=>3|25=>34|3=>3|39=>36|0=>0|53=>308|55=>310|4=>4|46=>340|45=>339|50=>157|5=>5|9=>9|66=>377|70=>381|76=>405|77=>406|n=>n,λ|n=>n⟩
theorem Tryz.aqM:Go.Proofs.SlLaysF.n6 Tryz.prog Tryz.aGu:={
 mixed:=au
 f6:=⟨Tryz.f172.name,ak,aF Tryz.func172⟩
 f14:=⟨Tryz.f249.name,ak,aF Tryz.func249⟩
 f15:=aF Tryz.func216
 f20:=⟨Tryz.f313.name,ak,aF Tryz.func313⟩
 f21:=⟨Tryz.f314.name,ak,aF Tryz.func314⟩
 f22:=⟨Tryz.f315.name,ak,aF Tryz.func315⟩
 f23:=⟨Tryz.f316.name,ak,aF Tryz.func316⟩
 f24:=⟨Tryz.f317.name,ak,aF Tryz.func317⟩
 f25:=⟨Tryz.f318.name,ak,aF Tryz.func318⟩
 f26:=⟨Tryz.f319.name,ak,aF Tryz.func319⟩
 f27:=⟨Tryz.f320.name,ak,aF Tryz.func320⟩
 f28:=aF Tryz.func285
 f29:=aF Tryz.func286
 f46:=⟨Tryz.f360.name,ak,aF Tryz.func360⟩
 f47:=aF Tryz.func335
 f48:=aF Tryz.func336
 f49:=⟨Tryz.f361.name,ak,aF Tryz.func361⟩
 f50:=⟨Tryz.f362.name,ak,aF Tryz.func362⟩
 f57:=⟨Tryz.f385.name,ak,aF Tryz.func385⟩
 t0:=Tryz.underlying0
 a0:=Tryz.isAgg0
 z0:=Tryz.sizeOf0
 v0:=Tryz.zeroValue0
 t3:=Tryz.underlying3
 a3:=Tryz.isAgg3
 z3:=Tryz.sizeOf3
 v3:=Tryz.zeroValue3
 t4:=Tryz.underlying4
 a4:=Tryz.isAgg4
 z4:=Tryz.sizeOf4
 v4:=Tryz.zeroValue4
 t5:=Tryz.underlying5
 a5:=Tryz.isAgg5
 z5:=Tryz.sizeOf5
 v5:=Tryz.zeroValue5
 t9:=Tryz.underlying9
 a9:=Tryz.isAgg9
 z9:=Tryz.sizeOf9
 v9:=Tryz.zeroValue9
 t22:=Tryz.underlying22
 a22:=Tryz.isAgg22
 z22:=Tryz.sizeOf22
 v22:=Tryz.zeroValue22
 a24:=Tryz.isAgg3
 z24:=Tryz.sizeOf3
 t25:=Tryz.underlying34
 a25:=Tryz.isAgg34
 z25:=Tryz.sizeOf34
 v25:=Tryz.zeroValue34
 t39:=Tryz.underlying36
 a39:=Tryz.isAgg36
 z39:=Tryz.sizeOf36
 v39:=Tryz.zeroValue36
 t45:=Tryz.underlying339
 a45:=Tryz.isAgg339
 z45:=Tryz.sizeOf339
 v45:=Tryz.zeroValue339
 t46:=Tryz.underlying340
 a46:=Tryz.isAgg340
 z46:=Tryz.sizeOf340
 v46:=Tryz.zeroValue340
 t50:=Tryz.underlying157
 a50:=Tryz.isAgg157
 z50:=Tryz.sizeOf157
 v50:=Tryz.zeroValue157
 t53:=Tryz.underlying308
 a53:=Tryz.isAgg308
 z53:=Tryz.sizeOf308
 v53:=Tryz.zeroValue308
 t55:=Tryz.underlying310
 a55:=Tryz.isAgg310
 z55:=Tryz.sizeOf310
 v55:=Tryz.zeroValue310
 t66:=Tryz.underlying377
 a66:=Tryz.isAgg377
 z66:=Tryz.sizeOf377
 v66:=Tryz.zeroValue377
 t70:=Tryz.underlying381
 a70:=Tryz.isAgg381
 z70:=Tryz.sizeOf381
 v70:=Tryz.zeroValue381
 t76:=Tryz.underlying405
 a76:=Tryz.isAgg405
 z76:=Tryz.sizeOf405
 v76:=Tryz.zeroValue405
 t77:=Tryz.underlying406
 a77:=Tryz.isAgg406
 z77:=Tryz.sizeOf406
 v77:=Tryz.zeroValue406}
def Tryz.aGv:Go.Shelf.Ren:=⟨λ|20=>251|n=>n,λ|22=>22|3=>3|4=>4|0=>0|n=>n,λ|n=>n⟩
theorem Tryz.aJ6:Go.Proofs.Lays2.n20 Tryz.prog Tryz.aGv:={
 mixed:=au
 f20:=aF Tryz.func251
 t0:=Tryz.underlying0
 a0:=Tryz.isAgg0
 z0:=Tryz.sizeOf0
 v0:=Tryz.zeroValue0
 t3:=Tryz.underlying3
 a3:=Tryz.isAgg3
 z3:=Tryz.sizeOf3
 v3:=Tryz.zeroValue3
 t4:=Tryz.underlying4
 a4:=Tryz.isAgg4
 z4:=Tryz.sizeOf4
 v4:=Tryz.zeroValue4
 t22:=Tryz.underlying22
 a22:=Tryz.isAgg22
 z22:=Tryz.sizeOf22
 v22:=Tryz.zeroValue22
 i3:=by kernel_rfl}
end Go.Proofs
namespace Go.Proofs
open Go.RowKit Go.Maps Go.Sort Go.Shelf
theorem Tryz.aLD(m:Nat):AnyZ.SortsIn Tryz.prog Tryz.an5 Fence.wide m:=
  ⟨λblk off cap ss W hH hblk hsz=>callsIn_wide.2 (AnyM.slices_Sort_string Tryz.asS blk off cap ss W hH hblk hsz),
   λp cap W=>callsIn_wide.2 (AnyM.slices_Sort_string_none Tryz.asS p cap W)⟩
set_option maxHeartbeats 2000000 in
theorem Tryz.keys_empty(b0 b clock:Nat)(w:World)(hc:w.cell? ⟨b0,0,none⟩=some (.map (some b)))(hm:w.heap[b]? =some (.map #[] clock)):
    Calls Tryz.prog 206 #[.pointer (some ⟨b0,0,none⟩)] w λe w'=>e=.returned (.slice none 0 0)/\Below w.heap.size w w':=by
  refine(callsIn_wide (n:=6)).1 ?_;have hown:w.ownsMap (H:=Nat) Tryz.prog 9 (λ_=>none) b 0 (.map []):=⟨#[],clock,hm,⟨aj,Go.MapKept.stamped_empty clock,aj⟩,gy _,rfl⟩;have hbl:=hown.lt;have hseq:SeqGives Fence.wide 2 Tryz.prog 327 #[.pointer (some ⟨w.heap.size,0,none⟩)] encStr (λss=>ss.Perm (strKeys (H:=Nat) (.map []))) (Maps.size (H:=Nat) (.map [])) (w.alloc (.cells #[.map (some b)] 224)):=
    AnyZ.keys_gives (ρ:=Tryz.ao0) {Tryz.asF with} Fence.wide _ trivial rfl ah w.heap.size b 0 (.map []) _ aj aj (by
      obtain⟨es,clock,hb,Ft,hs,hD⟩:=hown
      exact⟨es,clock,(Below.heap_alloc _ _ b hbl).trans hb,Ft,hs,hD⟩)
  have cK:∀mb W,CallsIn Fence.wide 5 Tryz.prog 266 #[.map mb] W λe w'=>e=.returned (.func (.func 327) #[] #[.pointer (some ⟨W.heap.size,0,none⟩)])/\w'=W.alloc (.cells #[.map mb] 224):=λmb W=>AnyZ.keys_in Tryz.asF Fence.wide 5 trivial rfl mb W;have cS:=AnyZ.sorted_in Tryz.aKG Fence.wide 5 trivial trivial trivial trivial rfl ah (Tryz.aLD _) (enters_of Tryz.func326 au rfl) 327 #[.pointer (some ⟨w.heap.size,0,none⟩)] trivial (enters_of Tryz.func327 au rfl) _ _ (by simp[Maps.size]) (by simp[Maps.size]) _ hseq;change CallsIn _ _ Tryz.prog 265 _ _ _ at cS;have hfK:Fence.wide.fn 266:=trivial;have hfS:Fence.wide.fn 265:=trivial;refine callsIn_of_wp Tryz.func206 rfl trivial ?_ rfl;simp only[Tryz.ntmps206,z8,yQ,xW,Nat.reduceAdd,Nat.reduceSub,Array.replicate_succ,Array.replicate_zero,List.push_toArray,List.append_toArray,zq,Je]
  gi_wp2_with (first
    |(gi_at_call 266;refine(cK _ _).mono ?_;rintro e w' ⟨rfl,rfl⟩)
    |(gi_at_call 265;refine cS.mono ?_;rintro e w' ⟨v,ss,rfl,hS,hrow,hnil,hb⟩))
  go_ret
  have hss:ss=[]:=by have:=hS.length_eq;exact List.length_eq_zero_iff.1 (by simpa[strKeys]using this)
  obtain rfl:v=.slice none 0 0:=hnil.2 hss;exact⟨rfl,((Below.refl _ w).alloc (gy _) _).trans (hb.mono aj)⟩
end Go.Proofs
namespace Go.Proofs
open Go Go.AM Go.CP Go.RowKit
set_option maxRecDepth 100000
variable [Fuel]
def aV:List (Nat×Ty):=[(22,.i .i64),(25,.n .jA),(26,.n .jy),(27,.n .iG),(28,.n .jg),(38,.n .bM),(39,.n .gG),(43,.n .eu),(52,.n .aP),(80,.n .iK),(148,.n .iD),(178,.n .mG),(187,.n .mF),(204,.n .bJ),(212,.n .iC),(227,.n .iV),(228,.n .jr),(289,.s),(316,.n .cO),(383,.i .u8)]
def aIB:aS:=bA 26 ⟨[],[]⟩ yY (λv=>ara) dK
theorem aHV:aW aIB:=bN 14 aV [] Tryz.func26 dx
def aFq:aS:=bA 92 ⟨WR,[]⟩ iW (λv=>mZ v.1.1 v.1.2.1 v.1.2.2.1) dK
theorem Og:aW aFq:=bN 15 aV [] Tryz.func92 dx
def aEv:aS:=bA 218 yY iW (λv=>Zp v.1.1) dK
theorem aD2:aW aEv:=bN 42 aV [kO Og] Tryz.func218 dx
def aFo:aS:=bA 219 yY iW (λv=>ZL v.1.1) dK
theorem aEI:aW aFo:=cu 68 aV [kO Og] Tryz.func219 dx (.two .z (.two (.two .z (.one (.lp ⟨[(1,u2),(13,u3),(14,zS),(15,zS)],[p51]⟩ (λn v=>TK v.2.1 v.1.2.1 v.1.2.2.1 n v.1.2.2.2.1) λaPG=> .z))) (.two .z (.two (.two .z (.one (.lp ⟨[(1,u2),(5,zS),(32,u4),(33,zS),(34,zS)],[p51]⟩ (λn v=>TJ v.2.1 v.1.2.1 v.1.2.2.1 v.1.2.2.2.1 n (bD v.1).1) λaPF=> .z))) (.two (.two .z (.one (.lp ⟨[(1,u2),(5,zS),(45,u5),(46,zS),(47,zS)],[p51]⟩ (λn v=>TI v.2.1 v.1.2.1 v.1.2.2.1 v.1.2.2.2.1 n (bD v.1).1) λaPE=> .z))) (.two (.two .z (.one (.lp ⟨[(5,zS),(57,u5),(58,zS),(59,zS)],[]⟩ (λn v=>TH v.1.1 v.1.2.1 v.1.2.2.1 n v.1.2.2.2.1) λaPD=> .z))) .z)))))) (v1 (vS (v1 (vB (vL λ_=>vZ))) (v1 (vS (v1 (vB (vL λ_=>vZ))) (vS (v1 (vB (vL λ_=>vZ))) (vS (v1 (vB (vL λ_=>vZ))) vZ))))))
def aFp:aS:=bA 220 yY iW (λv=>ZM v.1.1) dK
theorem aEJ:aW aFp:=cu 65 aV [kO Og] Tryz.func220 dx (.two .z (.two (.two .z (.one (.lp ⟨[(1,u2),(8,u4),(9,zS),(10,zS)],[p51]⟩ (λn v=>TM v.2.1 v.1.2.1 v.1.2.2.1 n v.1.2.2.2.1) λaPI=> .z))) (.two (.two .z (.one (.lp ⟨[(1,u2),(20,u6),(21,zS),(22,zS)],[p51]⟩ (λn v=>TL v.2.1 v.1.2.1 v.1.2.2.1 n v.1.2.2.2.1) λaPH=> .z))) .z))) (v1 (vS (v1 (vB (vL λ_=>vZ))) (vS (v1 (vB (vL λ_=>vZ))) vZ)))
def aGh:aS:=bA 136 yY jC (λv=>Z7 v.1.1) dK
theorem aFx:aW aGh:=bN 21 aV [kO aD2,kO aEI,kO aEJ] Tryz.func136 dx
def aDU:aS:=bA 221 ⟨WR,[]⟩ iW (λv=>BZ v.1.1 v.1.2.1 v.1.2.2.1) dK
theorem am7:aW aDU:=bN 15 aV [] Tryz.func221 dx
def aCi:aS:=bA 137 ⟨[(0,.st .iG),(1,zS)],[]⟩ iW (λv=>YC v.1.1 v.1.2.1) dK
theorem aBV:aW aCi:=bN 39 aV [kO am7] Tryz.func137 dx
def aEu:aS:=bA 83 yY jC (λv=>Ui v.1.1) dK
theorem ani:aW aEu:=cu 24 aV [kO aFx,kO aBV] Tryz.func83 dx (.zz 2 (.two (.two .z (.one (.lp ⟨[(1,u2),(12,u7),(13,zS),(14,zS)],[p51]⟩ (λn v=>N8 v.2.1 v.1.2.1 v.1.2.2.1 n v.1.2.2.2.1) λaPt=> .z))) .z)) (v2 (vS (v1 (vB (vL λ_=>vZ))) vZ))
def aA7:aS:=bA 287 ⟨[],[]⟩ ⟨[(0,u2)],[JC,p52]⟩ (λv=>apF) (λr=>(((),()),g0 r))
theorem az5:aW aA7:=bN 3 aV [] Tryz.func287 (λv=>m0 v.2)
def awo:aS:=bA 222 ⟨[],[]⟩ Wo (λv=>anR) (λr=>(((),()),g1 r))
theorem awi:aW awo:=bN 4 aV [kO az5] Tryz.func222 (λv=>m1 v.2)
def avU:aS:=bA 138 ⟨BG,[]⟩ Wp (λv=>Uu v.1.1 v.1.2.1) (λr=>(((),r.2,()),g2 r.1))
theorem alN:aW avU:=bN 31 aV [kO awi] Tryz.func138 (λv=>(m3 v.2,v.1.2.1))
def avC:aS:=bA 84 jC Qm (λv=>agS v.1.1) (λr=>(((),r.2,()),g3 r.1))
theorem avz:aW avC:=cu 39 aV [kO alN] Tryz.func84 (λv=>(m4 v.2,v.1.2.1)) (.zz 2 (.two (.two .z (.one (.un (.two (.two .z (.ct .z)) .z) (.un (.two (.two .z (.cf .z)) .z) .z)))) .z)) (v2 (vS (v1 (vB (vU (vV (vS (v1 (vT vZ)) vZ) (vV (vS (v1 (vF vZ)) vZ) vX))))) vZ))
def aws:aS:=bA 139 ⟨[(0,u3)],[]⟩ ⟨[(0,u3)],[]⟩ (λv=>adT v.1.1) dK
theorem awq:kR Tryz.prog aws:=D8 (t:=.n .jA) (e:=97) 8 aV Tryz.func139 dx 0 3 4 25 dx [] rfl au au aA aA au aC au (by intro v;exact⟨au,au⟩) aA aA (λv r hx hF=>DU hx hF)
def awr:aS:=bA 140 ⟨[(0,u4)],[]⟩ ⟨[(0,u4)],[]⟩ (λv=>adS v.1.1) dK
theorem awp:kR Tryz.prog awr:=D8 (t:=.n .jy) (e:=99) 8 aV Tryz.func140 dx 0 3 4 26 dx [] rfl au au aA aA au aC au (by intro v;exact⟨au,au⟩) aA aA (λv r hx hF=>DU hx hF)
def av8:aS:=bA 141 ⟨[(0,u7)],[]⟩ ⟨[(0,u7)],[]⟩ (λv=>adK v.1.1) dK
theorem av3:kR Tryz.prog av8:=D8 (t:=.n .iG) (e:=101) 8 aV Tryz.func141 dx 0 3 4 27 dx [] rfl au au aA aA au aC au (by intro v;exact⟨au,au⟩) aA aA (λv r hx hF=>DU hx hF)
def av1:aS:=bA 142 ⟨[(0,u6)],[]⟩ ⟨[(0,u6)],[]⟩ (λv=>adH v.1.1) dK
theorem avY:kR Tryz.prog av1:=D8 (t:=.n .jg) (e:=103) 8 aV Tryz.func142 dx 0 3 4 28 dx [] rfl au au aA aA au aC au (by intro v;exact⟨au,au⟩) aA aA (λv r hx hF=>DU hx hF)
def azX:aS:=bA 143 yZ yZ (λv=>Yg v.1.1) dK
theorem ay8:kR Tryz.prog azX:=D8 (t:=.i .i64) (e:=3) 8 aV Tryz.func143 dx 0 3 4 22 dx [] rfl au au aA aA au aC au (by intro v;exact⟨au,au⟩) aA aA (λv r hx hF=>DU hx hF)
def aEi:aS:=bA 85 yY yY (λv=>Ub v.1.1) dK
theorem ane:aW aEi:=bN 28 aV [kO awq,kO awp,kO av3,kO avY,kO ay8] Tryz.func85 dx
def az0:aS:=bA 70 yY ⟨acQ,[p55,p56]⟩ (λv=>OQ v.1.1) (λr=>((({r with aH:=([]:List bM),aK:=([]:List gG)},(),(),()),()),r.aH,r.aK,()))
theorem aer:aW az0:=cu 41 aV [] Tryz.func70 (λv=>{v.1.1.1 with aH:=v.2.1,aK:=v.2.2.1}) (.zz 2 (.two (.two .z (.one (.lp ⟨[(2,u2),(3,u8),(17,zS),(18,zS)],[zK,.bw .aN [(2,.own 2),(3,.own 3)],p55,p56]⟩ (λn v=>IX v.1.2.2.1 n {v.2.2.1.1 with aH:=v.2.2.2.1,aK:=(bD v).1} v.1.2.2.2.1) λaPU=> .z))) (.two (.two .z (.one (.lp ⟨[(2,u2),(3,u8),(30,zS),(31,zS)],[zK,.bw .aN [(2,.own 2),(3,.own 3)],p55,p56]⟩ (λn v=>IW v.1.2.2.1 n {v.2.2.1.1 with aH:=v.2.2.2.1,aK:=(bD v).1} v.1.2.2.2.1) λaPT=> .z))) .z))) (v2 (vS (v1 (vB (vL λ_=>vZ))) (vS (v1 (vB (vL λ_=>vZ))) vZ)))
def avv:aS:=bA 36 yY aco (λv=>K9 v.1.1) (λr=>(((),r.2,()),g4 r.1))
theorem alI:aW avv:=bN 35 aV [kO ani,kO avz,kO ane,kO aer] Tryz.func36 (λv=>(m7 v.2,v.1.2.1))
def aG2:aS:=bA 198 ⟨[],[]⟩ aj3 (λv=>apu) (λr=>(((),()),((),()),r.values,()))
theorem aGj:aW aG2:=bN 4 aV [] Tryz.func198 (λv=>m8 v.2.2.1)
def aGU:aS:=bA 199 ⟨[],[]⟩ ⟨[(0,u2)],[p57]⟩ (λv=>apk) (λr=>(((),()),r,()))
theorem aFI:aW aGU:=bN 3 aV [] Tryz.func199 (λv=>v.2.1)
def aFb:aS:=bA 200 ⟨[],[]⟩ ⟨[(0,u2)],[p58]⟩ (λv=>an1) (λr=>(((),()),r,()))
theorem aEx:aW aFb:=bN 3 aV [] Tryz.func200 (λv=>v.2.1)
def aGQ:aS:=bA 115 ⟨[],[]⟩ atq (λv=>aoO) (λr=>((((),(),(),()),()),((),()),r.tH.values,r.qz,r.wT,()))
theorem aFB:aW aGQ:=bN 5 aV [kO aGj,kO aFI,kO aEx] Tryz.func115 (λv=>m9 v.2.2)
def aA8:aS:=bA 116 jC ⟨[(0,u2)],[QF,p59]⟩ (λv=>apO v.1.1) (λr=>(((),()),g5 r))
theorem az6:aW aA8:=bN 6 aV [] Tryz.func116 (λv=>m10 v.2)
def awF:aS:=bA 72 ⟨BG,[]⟩ acn (λv=>ahr v.1.1 v.1.2.1) (λr=>(((),()),g6 r))
theorem awu:aW awF:=bN 12 aV [kO aFB,kO az6] Tryz.func72 (λv=>m11 v.2)
def aC3:aS:=jk 73 acn ⟨[(0,u9)],[Qx,p60,.bx [.mc 3],.ms,p57,p58,GV,p59]⟩ (λv=>afZ (m11 v.2)) (λr=>(((),()),g7 r.2)) (λv=>Kz (m11 v.2)) (λx v=>(x,m11 v.2)) (λ_=>aCn _)
theorem amV:aW aC3:=bN 7 aV [] Tryz.func73 (λv=>((),m11 v.2))
def avD:aS:=bA 44 ⟨[(0,u10)],[]⟩ ⟨[(0,oh)],[p55]⟩ (λv=>JY v.1.1) (λr=>(((),()),r,()))
theorem ady:kR Tryz.prog avD:=D8 (t:=.n .bM) (e:=59) 8 aV Tryz.func44 (λv=>v.2.1) 0 3 4 38 dx [] rfl au au aA aA au aC au (by intro v;exact⟨au,au⟩) aA aA (λv r hx hF=>DU hx hF)
def avE:aS:=bA 45 ⟨[(0,u12)],[]⟩ ⟨[(0,oh)],[p56]⟩ (λv=>JZ v.1.1) (λr=>(((),()),r,()))
theorem adz:kR Tryz.prog avE:=D8 (t:=.n .gG) (e:=113) 8 aV Tryz.func45 (λv=>v.2.1) 0 3 4 39 dx [] rfl au au aA aA au aC au (by intro v;exact⟨au,au⟩) aA aA (λv r hx hF=>DU hx hF)
def aBH:aS:=jk 12 Wm ⟨[(0,uh)],[kT,CX,sS,kU,sP,qD,p52,p53,p54]⟩ (λv=>aft (m7 v.2)) (λr=>((r.1,()),g4 r.2)) (λv=>rW (m7 v.2)) (λx v=>(λ(p1:bO)=>(x,iU p1)) (m7 v.2)) (λ_=>aAV _)
theorem Sd:aW aBH:=bN 17 aV [kO ady,kO adz] Tryz.func12 (λv=>(v.1.1,m7 v.2))
def avn:aS:=bA 25 yY ⟨[(0,u2)],[Xf,xA,EM,Bv,xB,y7,y8,p52,p53,p54,Me,Md,Ma,p60,Mf,.ms,p57,p58,QC,p59,Mc,p60,Mg,.ms,p57,p58,QD,p59,p61]⟩ (λv=>apv v.1.1) (λr=>(((),()),g8 r))
theorem avm:aW avn:=cu 83 aV [kO alI,kO awu,kO amV,kO Sd] Tryz.func25 (λv=>m12 v.2) (.zz 4 (.two (.two .z (.one (.un (.two (.two .z (.ct .z)) (.two (.one (.two .z (.two (.two .z (.one (.un (.two (.two .z (.ct .z)) .z) (.un (.two (.two .z (.ct .z)) .z) (.un (.two (.two .z (.cf .z)) .z) .z))))) .z))) .z)) (.un (.two (.two .z (.cf .z)) .z) .z)))) .z)) (v4 (vS (v1 (vB (vU (vV (vS (v1 (vT vZ)) (vS (vB (v1 (vS (v1 (vB (vU (vV (vS (v1 (vT vZ)) vZ) (vV (vS (v1 (vT vZ)) vZ) (vV (vS (v1 (vF vZ)) vZ) vX)))))) vZ))) vZ)) (vV (vS (v1 (vF vZ)) vZ) vX))))) vZ))
def ayZ:aS:=bA 233 ⟨[(0,.c (.ty (.i .u32)))],[]⟩ jC (λv=>az8 v.1.1) dK
theorem ax7:aW ayZ:=bN 21 aV [] Tryz.func233 dx
def ay0:aS:=bA 234 LZ jC (λv=>amD v.1.1) dK
theorem ax8:aW ay0:=bN 35 aV [] Tryz.func234 dx
def aAs:aS:=bA 165 LZ jC (λv=>Sn v.1.1) dK
theorem amz:aW aAs:=bN 8 aV [kO ax7,kO ax8] Tryz.func165 dx
def aBG:aS:=jk 90 Wm att (λv=>afs (m7 v.2)) (λr=>((r.1,()),g4 r.2)) (λv=>zk (m7 v.2)) (λx v=>(λ(p1:bO)=>(x,iU p1)) (m7 v.2)) (λ_=>aAU _)
theorem aAT:aW aBG:=bN 17 aV [kO amz] Tryz.func90 (λv=>(v.1.1,m7 v.2))
def aE4:aS:=bA 363 jC ⟨[(0,.st .nD)],[]⟩ (λv=>KT v.1.1) dK
theorem aD5:aW aE4:=bN 6 aV [] Tryz.func363 dx
def aEd:aS:=bA 321 ⟨[(0,zS),(1,.st .qI)],[]⟩ ⟨[(0,.st .oo),(1,u1)],[]⟩ (λv=>Zh v.1.1 v.1.2.1) (λr=>((r.1,r.2,()),()))
theorem aDu:aW aEd:=cu 120 aV [kO aD5] Tryz.func321 (λv=>(v.1.1,v.1.2.1)) (.zz 6 (.cut ⟨[(4,u2),(14,u8)],[p62,p62]⟩ (λv=>xJ v.2.2.1) (.two .z (.one (.zz 8 (.cut ⟨[(3,u2),(4,u8),(7,jO),(8,u16),(10,sV),(11,Ap),(13,u9),(14,.c (.pb 7 0)),(36,zS),(70,u1)],[.bs .qI,p62,p63,p63,p63,p63,p63,p62]⟩ (λv=>Tc (fF v.1).1 v.2.1 v.2.2.2.1 (bD v).1 (dH v).1 (dR v).1 (dz v).1 (fF v).1 (l7 v.1).1) .z (.zz 7 (.cut ⟨[(3,u2),(4,u8),(8,jO),(10,u16),(11,sV),(13,Ap),(14,u9),(36,zS),(93,u1)],[.bs .qI,p62,p63,p63,p63,p63,p62]⟩ (λv=>Ta (dz v.1).1 v.2.1 v.2.2.2.1 (bD v).1 (dH v).1 (dR v).1 (dz v).1 (fF v.1).1) .z (.zz 5 (.cut ⟨[(4,u2),(13,u8),(14,jO),(36,zS),(112,u1)],[p62,p63,p62]⟩ (λv=>S9 v.1.2.2.2.1 v.2.2.1 v.2.2.2.1 (bD v.1).1) .z .z)))))))) .z)) (v6 (vC (v1 (vB (v1 (vD vZ (v1 (vD vZ (v1 (vD vZ (v1 (vD vZ (vC vZ (vD vZ (v1 (vD vZ (v1 (vD vZ (v1 (vD vZ (vC vZ (vD vZ (v1 (vD vZ (v1 (vD vZ (vC vZ vZ))))))))))))))))))))))))) vZ))
def aC6:aS:=bA 322 ⟨[(0,.st .nD),(1,zS)],[]⟩ iW (λv=>DJ v.1.1 v.1.2.1) dK
theorem aCq:aW aC6:=bN 15 aV [] Tryz.func322 dx
def aFZ:aS:=bA 253 ⟨[(0,rC),(1,.st .qI)],[]⟩ iW (λv=>OL v.1.1 v.1.2.1) dK
theorem Oh:aW aFZ:=bN 85 aV [kO aDu,kO aCq] Tryz.func253 dx
def aE2:aS:=bA 252 Wt iW (λv=>rY v.1.1) dK
theorem YK:aW aE2:=bN 6 aV [kO Oh] Tryz.func252 dx
def aE3:aS:=bA 180 ⟨[(0,u0),(1,rC)],[]⟩ iW (λv=>Ul v.1.1 v.1.2.1) dK
theorem aD4:aW aE3:=bN 23 aV [kO YK,kO Oh] Tryz.func180 dx
def aEq:aS:=bA 254 ⟨acS,[]⟩ jC (λv=>F8 v.1.1 v.1.2.1) dK
theorem Tf:aW aEq:=bN 20 aV [] Tryz.func254 dx
def aFl:aS:=bA 109 ⟨He,[]⟩ jC (λv=>agC v.1.1 v.1.2.1) dK
theorem aEF:aW aFl:=bN 18 aV [kO Og] Tryz.func109 dx
def aBR:aS:=bA 40 ⟨He,[]⟩ jC (λv=>NN v.1.1 v.1.2.1) dK
theorem amI:aW aBR:=bN 18 aV [kO Og] Tryz.func40 dx
def aDX:aS:=bA 65 ⟨He,[]⟩ jC (λv=>AJ v.1.1 v.1.2.1) dK
theorem IC:aW aDX:=bN 10 aV [kO aEF,kO amI] Tryz.func65 dx
def aG1:aS:=bA 259 ⟨BG,[]⟩ iW (λv=>DV v.1.1 v.1.2.1) dK
theorem OA:aW aG1:=bN 18 aV [] Tryz.func259 dx
def aEp:aS:=bA 255 ⟨Ms,[]⟩ iW (λv=>KQ v.1.1 v.1.2.1 v.1.2.2.1) dK
theorem afW:aW aEp:=bN 13 aV [kO IC,kO OA] Tryz.func255 dx
def aGe:aS:=bA 256 ⟨JI,[]⟩ iW (λv=>K5 v.1.1 v.1.2.1 v.1.2.2.1) dK
theorem agb:aW aGe:=bN 34 aV [kO IC,kO am7] Tryz.func256 dx
def aEs:aS:=bA 108 ⟨JI,[]⟩ iW (λv=>Uh v.1.1 v.1.2.1 v.1.2.2.1) dK
theorem ang:aW aEs:=bN 26 aV [kO IC] Tryz.func108 dx
def aGa:aS:=bA 257 ⟨JI,[]⟩ iW (λv=>K4 v.1.1 v.1.2.1 v.1.2.2.1) dK
theorem af9:aW aGa:=bN 16 aV [kO ang] Tryz.func257 dx
def aFf:aS:=bA 181 ⟨C9,[]⟩ jC (λv=>Uw v.1.1 v.1.2.1 v.1.2.2.1) dK
theorem aEA:aW aFf:=cu 72 aV [kO Tf,kO afW,kO agb,kO af9] Tryz.func181 dx (.zz 2 (.two (.one (.zz 2 (.cut ⟨[(3,u2),(4,u8),(5,jO),(7,u1),(19,u1)],[p51,p64,p65]⟩ (λv=>YZ v.2.1 v.2.2.1 v.2.2.2.1 v.1.2.2.2.1 (bD v.1).1) .z (.two .z (.cut ⟨[(3,u2),(5,u8),(7,u1),(33,u1)],[p51,p65]⟩ (λv=>YX v.2.1 v.2.2.1 v.1.2.2.1 v.1.2.2.2.1) .z (.zz 3 (.cut ⟨[(55,u1)],[]⟩ (λv=>YW v.1.1) .z .z))))))) .z)) (v2 (vS (vB (v1 (vD vZ (vC vZ (vD vZ (vC vZ (vD vZ (v1 (vD vZ (vC vZ vZ)))))))))) vZ))
def aDS:aS:=bA 182 ⟨C9,[]⟩ jC (λv=>TY v.1.1 v.1.2.1 v.1.2.2.1) dK
theorem aDq:aW aDS:=cu 69 aV [kO Tf,kO afW,kO agb,kO ang,kO af9] Tryz.func182 dx (.zz 4 (.two (.one (.cut ⟨[(3,u2),(4,u8),(5,jO),(7,u16),(20,u1)],[p51,p64,p65,p66]⟩ (λv=>SY v.2.1 v.2.2.1 v.2.2.2.1 (bD v).1 (bD v.1).1) .z (.zz 5 (.cut ⟨[(48,u1)],[]⟩ (λv=>SS v.1.1) .z .z)))) .z)) (v4 (vS (vB (vC vZ (vD vZ (v1 (vD vZ (v1 (vD vZ (vC vZ vZ)))))))) vZ))
def aFh:aS:=bA 183 ⟨JJ,[]⟩ jC (λv=>Uy v.1.1 v.1.2.1) dK
theorem aEC:aW aFh:=bN 28 aV [kO Tf] Tryz.func183 dx
def aDQ:aS:=bA 184 ⟨C9,[]⟩ jC (λv=>TW v.1.1 v.1.2.1 v.1.2.2.1) dK
theorem aDo:aW aDQ:=cu 71 aV [kO Tf,kO afW,kO agb,kO af9] Tryz.func184 dx (.zz 2 (.two (.one (.cut ⟨[(3,u2),(4,u8),(5,jO),(7,u16),(14,u1)],[p51,p64,p65,p66]⟩ (λv=>SQ v.2.1 v.2.2.1 v.2.2.2.1 (bD v).1 (bD v.1).1) .z (.two .z (.cut ⟨[(3,u2),(4,u8),(5,jO),(7,u16),(23,u1)],[p51,p64,p65,p66]⟩ (λv=>SN v.2.1 v.2.2.1 v.2.2.2.1 (bD v).1 (bD v.1).1) .z (.zz 5 (.cut ⟨[(51,u1)],[]⟩ (λv=>SL v.1.1) .z .z)))))) .z)) (v2 (vS (vB (vC vZ (vD vZ (vC vZ (vD vZ (v1 (vD vZ (v1 (vD vZ (vC vZ vZ)))))))))) vZ))
def aDO:aS:=bA 185 ⟨JJ,[]⟩ jC (λv=>TV v.1.1 v.1.2.1) dK
theorem aDm:aW aDO:=bN 20 aV [] Tryz.func185 dx
def aGc:aS:=bA 186 ⟨JJ,[]⟩ jC (λv=>UG v.1.1 v.1.2.1) dK
theorem aFu:aW aGc:=cu 38 aV [kO Tf] Tryz.func186 dx (.zz 3 (.two (.one (.cut ⟨[(3,u2),(5,u8),(25,u1)],[p65,p66]⟩ (λv=>Zd v.2.1 v.2.2.1 v.1.2.2.1) .z .z)) .z)) (v3 (vS (vB (vC vZ vZ)) vZ))
def aFe:aS:=bA 187 ⟨C9,[]⟩ jC (λv=>KW v.1.1 v.1.2.1 v.1.2.2.1) dK
theorem aEz:aW aFe:=cu 141 aV [] Tryz.func187 dx (.zz 3 (.two (.one (.cut ⟨[(3,u2),(5,u8),(7,jO),(8,u16),(9,u1),(27,u1)],[p51,p65,p66,p67]⟩ (λv=>TD v.2.1 v.2.2.1 v.2.2.2.1 (bD v).1 (bD v.1).1 (dH v.1).1) .z (.zz 3 (.cut ⟨[(3,u2),(5,u8),(7,jO),(8,u16),(9,u1),(57,u1)],[p51,p65,p66,p67]⟩ (λv=>YV v.2.1 v.2.2.1 v.2.2.2.1 (bD v).1 (bD v.1).1 (dH v.1).1) .z (.zz 3 (.cut ⟨[(3,u2),(5,u8),(7,jO),(9,u1),(86,u1)],[p51,p65,p66]⟩ (λv=>YU v.2.1 v.2.2.1 v.2.2.2.1 v.1.2.2.2.1 (bD v.1).1) .z (.two .z (.cut ⟨[(5,u2),(7,u8),(9,u1),(97,u1)],[p65,p66]⟩ (λv=>Od v.2.1 v.2.2.1 v.1.2.2.1 v.1.2.2.2.1) .z (.two .z (.cut ⟨[(124,u1)],[]⟩ (λv=>YT v.1.1) .z .z)))))))))) .z)) (v3 (vS (vB (vC vZ (vD vZ (v1 (vD vZ (vC vZ (vD vZ (v1 (vD vZ (vC vZ (vD vZ (vC vZ (vD vZ (vC vZ vZ)))))))))))))) vZ))
def aG0:aS:=bA 188 ⟨JJ,[]⟩ jC (λv=>UW v.1.1 v.1.2.1) dK
theorem aGi:aW aG0:=bN 22 aV [] Tryz.func188 dx
def aF9:aS:=bA 189 ⟨JJ,[]⟩ jC (λv=>UE v.1.1 v.1.2.1) dK
theorem aFs:aW aF9:=bN 15 aV [] Tryz.func189 dx
def aCI:aS:=bA 258 ⟨He,[]⟩ ⟨[(0,.st .jg)],[]⟩ (λv=>N7 v.1.1 v.1.2.1) dK
theorem amR:aW aCI:=bN 20 aV [] Tryz.func258 dx
def aDg:aS:=bA 260 ⟨[(0,uh)],[]⟩ yZ (λv=>YS v.1.1) dK
theorem aCO:aW aDg:=cu 34 aV [kO OA] Tryz.func260 dx (.zz 2 (.two (.two .z (.one (.lp ⟨auB,[p64,p68]⟩ (λn v=>FN v.2.1 v.1.2.2.1 v.1.2.2.2.1 n v.2.2.1 (bD v.1).1) λaeM=>.zz 2 (.cut ⟨auB,[p64,p68]⟩ (λv=>Yv (λy1 y2=>aeM (((),(),v.1.2.2.1,v.1.2.2.2.1,y2,()),v.2.1,y1,())) (bD v.1).1 v.2.2.1) .z .z)))) .z)) (v2 (vS (v1 (vB (vL λ_=>v2 (vC vZ vZ)))) vZ))
def aGd:aS:=bA 190 ⟨C9,[]⟩ jC (λv=>UH v.1.1 v.1.2.1 v.1.2.2.1) dK
theorem aFv:aW aGd:=cu 72 aV [kO amR,kO OA,kO aCO] Tryz.func190 dx (.zz 2 (.two (.one (.zz 2 (.cut ⟨[(3,u2),(4,u8),(5,jO),(7,u16),(28,u1)],[p51,p64,p65,p67]⟩ (λv=>Zg v.2.1 v.2.2.1 v.2.2.2.1 (bD v).1 (bD v.1).1) .z (.two .z (.cut ⟨[(3,u2),(4,u8),(5,jO),(39,u1)],[p51,p64,p65]⟩ (λv=>Zf v.2.1 v.2.2.1 v.2.2.2.1 v.1.2.2.2.1) .z .z))))) (.two .z (.two (.two .z (.one (.lp ⟨auo,[p51,p65]⟩ (λn v=>DL v.2.1 v.2.2.1 v.1.2.2.2.1 (bD v.1).1 n v.1.2.2.1 (dH v.1).1) λafN=>.zz 2 (.cut ⟨auo,[p51,p65]⟩ (λv=>Ze (λy1 y2=>afN (((),(),y1,v.1.2.2.2.1,(bD v.1).1,y2,()),v.2.1,v.2.2.1,())) (dH v.1).1 v.1.2.2.1) .z .z)))) .z)))) (v2 (vS (vB (v1 (vD vZ (vC vZ (vD vZ (vC vZ vZ)))))) (v1 (vS (v1 (vB (vL λ_=>v2 (vC vZ vZ)))) vZ))))
def aGb:aS:=bA 191 ⟨JJ,[]⟩ jC (λv=>UF v.1.1 v.1.2.1) dK
theorem aFt:aW aGb:=cu 59 aV [kO OA] Tryz.func191 dx (.zz 2 (.two (.one (.cut ⟨[(2,u2),(3,u8),(14,u1)],[p64,p65]⟩ (λv=>Zc v.2.1 v.2.2.1 v.1.2.2.1) .z .z)) (.two (.two .z (.one (.lp ⟨[(3,u2),(38,u10),(39,zS),(40,zS)],[p65]⟩ (λn v=>F5 v.2.1 v.1.2.1 v.1.2.2.1 n v.1.2.2.2.1) λaPN=> .z))) .z))) (v2 (vS (vB (vC vZ vZ)) (vS (v1 (vB (vL λ_=>vZ))) vZ)))
def aFg:aS:=bA 192 ⟨C9,[]⟩ jC (λv=>Ux v.1.1 v.1.2.1 v.1.2.2.1) dK
theorem aEB:aW aFg:=cu 49 aV [kO OA] Tryz.func192 dx (.zz 2 (.two (.two .z (.one (.lp ⟨[(3,u2),(5,u8),(15,u12),(16,zS),(17,zS)],[p51,p65]⟩ (λn v=>FY v.2.1 v.2.2.1 v.1.2.2.1 v.1.2.2.2.1 n (bD v.1).1) λaPB=> .z))) .z)) (v2 (vS (v1 (vB (vL λ_=>vZ))) vZ))
def aDi:aS:=bA 193 ⟨JJ,[]⟩ jC (λv=>KG v.1.1 v.1.2.1) dK
theorem aCQ:aW aDi:=bN 14 aV [kO OA] Tryz.func193 dx
def aEo:aS:=bA 194 ⟨G9,[]⟩ jC (λv=>Ug v.1.1 v.1.2.1) dK
theorem aDZ:aW aEo:=cu 43 aV [kO amR] Tryz.func194 dx (.zz 2 (.two (.two .z (.one (.lp ⟨[(2,u2),(3,u8),(18,u12),(19,zS),(20,zS)],[p51,p64]⟩ (λn v=>FU v.2.1 v.2.2.1 v.1.2.2.1 v.1.2.2.2.1 n (bD v.1).1) λaPr=> .z))) .z)) (v2 (vS (v1 (vB (vL λ_=>vZ))) vZ))
def aDh:aS:=bA 195 ⟨[(0,uh)],[]⟩ jC (λv=>TA v.1.1) dK
theorem aCP:aW aDh:=bN 8 aV [] Tryz.func195 dx
def aDR:aS:=bA 111 ⟨C9,[]⟩ jC (λv=>AB v.1.1 v.1.2.1 v.1.2.2.1) dK
theorem aDp:aW aDR:=cu 118 aV [kO aD4,kO aEA,kO aDq,kO aEC,kO aDo,kO aDm,kO aFu,kO aEz,kO aGi,kO aFs,kO aFv,kO aFt,kO aEB,kO aCQ,kO aDZ,kO aCP] Tryz.func111 dx (.two .z (.two (.one (.cut ⟨[(3,u2),(4,u8),(5,jO),(7,u1)],[p51,p64,p65]⟩ (λv=>DF v.2.1 v.2.2.1 v.2.2.2.1 v.1.2.2.2.1) .z .z)) .z)) (v1 (vS (vB (vC vZ vZ)) vZ))
def aEr:aS:=kV 196 ⟨[(0,u21),(1,rC)],[p56]⟩ ⟨[],[p56]⟩ (λv=>OB v.2.1 v.1.1 v.1.2.1) (λr=>((),r,())) (λv=>v.2.1)
theorem aD0:aW aEr:=bN 37 aV [] Tryz.func196 (λv=>v.2.1)
def aDP:aS:=kV 261 ⟨[(0,u21),(1,rC)],[p55]⟩ ⟨[],[p55]⟩ (λv=>af8 v.2.1 v.1.1 v.1.2.1) (λr=>((),r,())) (λv=>v.2.1)
theorem aDn:aW aDP:=bN 68 aV [] Tryz.func261 (λv=>v.2.1)
def aDj:aS:=kV 197 ⟨[(0,u21),(1,rC)],[p55]⟩ ⟨[],[p55]⟩ (λv=>Az v.2.1 v.1.1 v.1.2.1) (λr=>((),r,())) (λv=>v.2.1)
theorem aCR:aW aDj:=bN 100 aV [kO aDn] Tryz.func197 (λv=>v.2.1)
def ax1:aS:=bA 112 ⟨JJ,[]⟩ ⟨acQ,[p55,p56]⟩ (λv=>xK v.1.1 v.1.2.1) (λr=>((({r with aH:=([]:List bM),aK:=([]:List gG)},(),(),()),()),r.aH,r.aK,()))
theorem axw:aW ax1:=cu 82 aV [kO ady,kO adz,kO aD0,kO aCR] Tryz.func112 (λv=>{v.1.1.1 with aH:=v.2.1,aK:=v.2.2.1}) (.zz 4 (.cut ⟨[(2,u2),(4,u16)],[akp,p55,p56,zK]⟩ (λv=>Ay {v.2.1.1 with aH:=v.2.2.1,aK:=v.2.2.2.1}) (.two .z (.one (.cut ⟨[(2,u2),(3,u16),(4,sV),(21,zS),(29,u1)],[akp,p55,p56,p65,zK]⟩ (λv=>KD (bD v).1 {v.2.1.1 with aH:=v.2.2.1,aK:=v.2.2.2.1} v.1.2.2.2.1 (bD v.1).1) .z .z))) .z)) (v4 (vC (v1 (vB (vC vZ vZ))) vZ))
def aFd:aS:=bA 113 Wt iW (λv=>qo v.1.1) dK
theorem aEy:aW aFd:=cu 19 aV [] Tryz.func113 dx (.two .z (.two (.two .z (.one (.cut ⟨[(1,u2),(4,zS),(5,u1)],[p65]⟩ (λv=>rE v.2.1 v.1.2.1 v.1.2.2.1) .z .z))) .z)) (v1 (vS (v1 (vB (vC vZ vZ))) vZ))
def aF2:aS:=bA 66 ⟨G9,[]⟩ jC (λv=>agO v.1.1 v.1.2.1) dK
theorem aET:aW aF2:=bN 12 aV [] Tryz.func66 dx
def aE5:aS:=bA 106 ⟨[(0,.st .bM)],[]⟩ iW (λv=>agt v.1.1) dK
theorem aD6:aW aE5:=bN 10 aV [] Tryz.func106 dx
def aHK:aS:=kV 107 ⟨acR,[p68]⟩ ⟨[],[p68]⟩ (λv=>Lb v.2.1 v.1.2.1 v.1.2.2.1) (λr=>((),r,())) (λv=>v.2.1)
theorem aGz:aW aHK:=bN 21 aV [] Tryz.func107 (λv=>v.2.1)
def aBa:aS:=bA 63 ⟨G9,[]⟩ EG (λv=>KU v.1.1 v.1.2.1) (λr=>(((),()),r,()))
theorem X8:aW aBa:=cu 60 aV [kO aET,kO aD6,kO aGz] Tryz.func63 (λv=>v.2.1) (.zz 2 (.two (.two .z (.one (.lp ⟨auz,[p51,p64,p68]⟩ (λn v=>IJ v.2.1 v.2.2.1 v.1.2.2.2.1 n v.2.2.2.1 (bD v.1).1) λNJ=>.zz 2 (.cut ⟨auz,[p51,p64,p68]⟩ (λv=>YO (λy1 y2=>NJ (((),(),(),v.1.2.2.2.1,y2,()),v.2.1,v.2.2.1,y1,())) (bD v.1).1 v.2.2.2.1) (.one (.zz 3 (.cut ⟨[(2,u2),(3,u8),(5,u22),(7,u16),(8,sV),(15,zS),(16,zS)],[p51,p64,p68,p69,p66]⟩ (λv=>YP (λy1 y2=>NJ (((),(),(),(dH v.1).1,y2,()),v.2.1,v.2.2.1,y1,())) (dR v.1).1 (bD v).1 (dH v).1 v.2.2.2.1) .z .z))) .z)))) .z)) (v2 (vS (v1 (vB (vL λ_=>v2 (vC (vB (v3 (vC vZ vZ))) vZ)))) vZ))
def aCa:aS:=bA 114 ⟨G9,[]⟩ EG (λv=>UM v.1.1 v.1.2.1) (λr=>(((),()),r,()))
theorem aBv:aW aCa:=cu 31 aV [kO X8] Tryz.func114 (λv=>v.2.1) (.zz 2 (.two (.two .z (.one (.lp ⟨auu,[p51,p68,p68]⟩ (λn v=>KO v.2.1 v.2.2.2.1 v.1.2.2.2.1 n v.2.2.1 (bD v.1).1) λafT=>.zz 2 (.cut ⟨auu,[p51,p68,p68]⟩ (λv=>Zj (λy1 y2=>afT (((),(),(),v.1.2.2.2.1,y2,()),v.2.1,y1,v.2.2.2.1,())) (bD v.1).1 v.2.2.1) .z .z)))) .z)) (v2 (vS (v1 (vB (vL λ_=>v2 (vC vZ vZ)))) vZ))
def ayv:aS:=bA 71 ⟨C9,[]⟩ ⟨akG,[p55,p56]⟩ (λv=>Cb v.1.1 v.1.2.1 v.1.2.2.1) (λr=>((({r.1 with aH:=([]:List bM),aK:=([]:List gG)},(),(),()),r.2,()),r.1.aH,r.1.aK,()))
theorem XQ:aW ayv:=bN 32 aV [kO aDp,kO axw,kO aEy,kO aBv] Tryz.func71 (λv=>({v.1.1.1 with aH:=v.2.1,aK:=v.2.2.1},v.1.2.1))
def azR:aS:=jk 235 Bt Qn (λv=>aeO (m3 v.2)) (λr=>((r.1,()),g2 r.2)) (λv=>xG (m3 v.2)) (λx v=>(x,m3 v.2)) (λ_=>ayM _)
theorem ams:aW azR:=bN 7 aV [] Tryz.func235 (λv=>(v.1.1,m3 v.2))
def azF:aS:=jk 293 Wo Wq (λv=>aeF (m1 v.2)) (λr=>((r.1,()),g1 r.2)) (λv=>pG (m1 v.2)) (λx v=>(x,m1 v.2)) (λ_=>ayB _)
theorem ayA:aW azF:=bN 7 aV [] Tryz.func293 (λv=>(v.1.1,m1 v.2))
def azS:aS:=jk 236 Bt Qn (λv=>aeP (m3 v.2)) (λr=>((r.1,()),g2 r.2)) (λv=>jl (m3 v.2)) (λx v=>(x,m3 v.2)) (λ_=>ayN _)
theorem BM:aW azS:=bN 8 aV [kO ayA] Tryz.func236 (λv=>(v.1.1,m3 v.2))
def azJ:aS:=kV 166 aj0 atw (λv=>Nq (m4 v.2)) (λr=>((r.1,()),g3 r.2)) (λv=>(aG,m4 v.2))
theorem ayH:aW azJ:=cu 39 aV [kO ams,kO BM] Tryz.func166 (λv=>(v.1.1,m4 v.2)) (.zz 2 (.two (.two .z (.one (.un (.two .z (.two (.ct .z) (.cut ⟨auA,[zJ,tT,kI,l9,jN,p52,p53,p54]⟩ (λv=>aek v.1.2.1 v.1.2.2.2.1 (bD v.1).1 (m4 v.2)) .z .z))) (.un (.two .z (.two (.cf .z) .z)) .z)))) .z)) (v2 (vS (v1 (vB (vU (vV (v1 (vS (vT vZ) (vC vZ vZ))) (vV (v1 (vS (vF vZ) vZ)) vX))))) vZ))
def aCe:aS:=jk 167 aco att (λv=>afI (m7 v.2) v.1.2.1) (λr=>((r.1,()),g4 r.2)) (λv=>pI (m7 v.2) v.1.2.1) (λx v=>(λ(p1:bO) (p2:Int)=>(x,iU p1)) (m7 v.2) v.1.2.1) (λ_=>aBA _ _)
theorem ae1:aW aCe:=bN 27 aV [] Tryz.func167 (λv=>(v.1.1,m7 v.2))
def aBM:aS:=jk 246 Qm atx (λv=>afx (m4 v.2) v.1.2.1) (λr=>((r.1,()),g3 r.2)) (λv=>FJ (m4 v.2) v.1.2.1) (λx v=>(λ(p1:bR) (p2:Int)=>(x,iI p1)) (m4 v.2) v.1.2.1) (λ_=>aA3 _ _)
theorem aeI:aW aBM:=bN 16 aV [] Tryz.func246 (λv=>(v.1.1,m4 v.2))
def axT:aS:=jk 237 atG atx (λv=>ael (m4 v.2) v.1.2.1) (λr=>((r.1,()),g3 r.2)) (λv=>J8 (m4 v.2) v.1.2.1) (λx v=>(λ(p1:bR) (p2:lN)=>(x,iI p1)) (m4 v.2) v.1.2.1) (λ_=>axg _ _)
theorem axf:aW axT:=cu 33 aV [kO aeI] Tryz.func237 (λv=>(v.1.1,m4 v.2)) (.two .z (.two (.two .z (.one (.cut ⟨[(0,u2),(3,.c (.pb 8 0)),(6,zS),(7,u1)],[zJ,tT,kI,l9,jN,p52,p53,p54,p70]⟩ (λv=>J7 (l7 v).1 v.1.2.2.1 v.1.2.2.2.1 (m4 v.2)) .z (.two .z (.cut ⟨[(0,u2),(3,.c (.pb 8 0)),(16,u1)],[zJ,tT,kI,l9,jN,p52,p53,p54,p70]⟩ (λv=>Dp (l7 v).1 v.1.2.2.1 (m4 v.2)) .z .z))))) .z)) (v1 (vS (v1 (vB (vC vZ (vD vZ (vC vZ vZ))))) vZ))
def axR:aS:=kV 372 ⟨G8,[CY,xk,p52,p53]⟩ Wq (λv=>RN (m1 v.2) v.1.2.1 v.1.2.2.1) (λr=>((r.1,()),g1 r.2)) (λv=>(aG,m1 v.2))
theorem al5:aW axR:=bN 58 aV [] Tryz.func372 (λv=>(v.1.1,m1 v.2))
def aBn:aS:=bA 396 aj5 ⟨[(0,oh)],[p52]⟩ (λv=>ZN v.1.1 v.1.2.1) (λr=>(((),()),r,()))
theorem aAM:aW aBn:=bN 12 aV [] Tryz.func396 (λv=>v.2.1)
def aG4:aS:=bA 404 jC LZ (λv=>aam v.1.1) dK
theorem aGl:aW aG4:=bN 12 aV [] Tryz.func404 dx
def aCN:aS:=bA 395 ⟨[(0,oh),(1,zS)],[p52]⟩ ⟨[(0,u20)],[.dd,p52]⟩ (λv=>ahV v.2.1 v.1.2.1) (λr=>(((),()),(),r,()))
theorem aCm:aW aCN:=cu 23 aV [kO aGl] Tryz.func395 (λv=>v.2.2.1) (.zz 2 (.two (.one (.lp ⟨[(0,u20),(5,JV)],[.dd,p52]⟩ (λn v=>OG n v.2.2.1 v.1.2.1) λaPV=> .z)) .z)) (v2 (vS (vB (vL λ_=>vZ)) vZ))
def aCM:aS:=bA 376 aj5 ⟨[(0,oh)],[p52]⟩ (λv=>qK v.1.1 v.1.2.1) (λr=>(((),()),r,()))
theorem afo:aW aCM:=bN 9 aV [kO aAM,kO aCm] Tryz.func376 (λv=>v.2.1)
def aAr:aS:=bA 347 yZ ⟨[(0,oh)],[p52]⟩ (λv=>Ow v.1.1) (λr=>(((),()),r,()))
theorem aeu:aW aAr:=cu 17 aV [kO afo] Tryz.func347 (λv=>v.2.1) (.zz 2 (.two (.two .z (.one (.lp ⟨[(3,oh),(6,u5),(7,zS),(8,zS)],[p52]⟩ (λn v=>NY v.1.2.1 v.1.2.2.1 n v.2.1 v.1.2.2.2.1) λaPp=> .z))) .z)) (v2 (vS (v1 (vB (vL λ_=>vZ))) vZ))
def aFW:aS:=bA 399 ⟨[(0,JV),(1,zS)],[]⟩ LZ (λv=>OJ v.1.1 v.1.2.1) dK
theorem anw:aW aFW:=bN 15 aV [] Tryz.func399 dx
def aEc:aS:=bA 398 ⟨[(0,JV),(1,u24)],[]⟩ LZ (λv=>agi v.1.1 v.1.2.1) dK
theorem aDt:aW aEc:=cu 22 aV [kO anw] Tryz.func398 dx (.two .z (.two (.two .z (.one (.lp ⟨[(0,JV),(1,u24),(7,u24),(8,zS),(9,zS)],[]⟩ (λn v=>NT v.1.2.1 v.1.2.2.1 v.1.2.2.2.1 n v.1.1 (bD v.1).1) λaPo=> .z))) .z)) (v1 (vS (v1 (vB (vL λ_=>vZ))) vZ))
def aFX:aS:=bA 381 ⟨[(0,zS),(1,u24)],[]⟩ LZ (λv=>UD v.1.1 v.1.2.1) dK
theorem anx:aW aFX:=bN 9 aV [kO anw,kO aDt] Tryz.func381 dx
def aGR:aS:=bA 375 ⟨[(0,u24),(1,zS),(2,u24)],[]⟩ Wu (λv=>aad v.1.1 v.1.2.1 v.1.2.2.1) dK
theorem aFE:aW aGR:=cu 34 aV [kO afo,kO anx] Tryz.func375 dx (.zz 4 (.two (.two .z (.one (.lp ⟨[(2,u24),(7,oh),(8,JV),(21,zS)],[p52]⟩ (λn v=>IU v.1.1 n v.2.1 v.1.2.2.1 v.1.2.2.2.1) λaPP=> .z))) .z)) (v4 (vS (v1 (vB (vL λ_=>vZ))) vZ))
def aB7:aS:=bA 374 ⟨[(0,u2),(1,u24)],[JC,p52]⟩ ⟨[],[xk,.dd,p52]⟩ (λv=>afE (m0 v.2) v.1.2.1) (λr=>((),g9 r))
theorem aBs:aW aB7:=bN 13 aV [] Tryz.func374 (λv=>m13 v.2)
def ayY:aS:=bA 346 atP ⟨[],[CY,QG,.dd,p53,p52]⟩ (λv=>Nc (m1 v.2) v.1.2.1) (λr=>((),g10 r))
theorem aeb:aW ayY:=bN 11 aV [kO aFE,kO aBs] Tryz.func346 (λv=>m15 v.2)
def axQ:aS:=bA 342 ⟨G8,[CY,xk,p52,p53]⟩ ⟨[(0,zS)],[CY,QG,.dd,p53,p52]⟩ (λv=>aeh (m1 v.2) v.1.2.1 v.1.2.2.1) (λr=>((r.1,()),g10 r.2))
theorem axb:aW axQ:=bN 21 aV [kO al5,kO aeu,kO aeb] Tryz.func342 (λv=>(v.1.1,m15 v.2))
end Go.Proofs
