/-
  DERIVED: THE SHELF's CONTRACTS AT THIS DUMP, IN PLAIN WORDS (tools/lay-plain.mjs out of 'ZzLaysTryz.lean', which tools/lay-shelf.mjs wrote): THE SAME DECLARATIONS UNDER THE SAME NAMES: 'import', 'namespace', 'open', 'def', 'theorem' AND NOTHING ELSE: no command of the shelf's: FOR A HAND-IN. Each laying: the table of numbers ('.._ren') and one theorem, a field a fact of the dump's own or the kernel's comparison; each contract: ONE APPLICATION.
-/
import Derived.Shelf.SlSortCmp.NoneTotal
import Derived.Test.YtpcfpnpohjpnbaaGreatProg
import Derived.Test.YtpcfpnpohjpnbaaGreatP592250f41
namespace Go.Proofs
open Go.Shelf
def Tryz.lays39_ren : Go.Shelf.Ren := ⟨fun | 6 => 39 | 15 => 71 | 14 => 70 | 28 => 96 | 29 => 97 | 20 => 88 | 21 => 89 | 22 => 90 | 23 => 91 | 24 => 92 | 25 => 93 | 26 => 94 | 27 => 95 | 46 => 124 | 47 => 125 | 48 => 126 | 49 => 127 | 50 => 128 | 57 => 146 | n => n, fun | 22 => 35 | 24 => 41 | 25 => 86 | 3 => 3 | 39 => 74 | 0 => 0 | 53 => 129 | 55 => 131 | 4 => 4 | 46 => 122 | 45 => 121 | 50 => 126 | 5 => 5 | 9 => 9 | 66 => 143 | 70 => 147 | 76 => 159 | 77 => 160 | n => n, fun | n => n⟩
theorem Tryz.lays39 : Go.Proofs.SlLaysF0.n6 Tryz.prog Tryz.lays39_ren := {
  mixed := by kernel_rfl
  f6 := ⟨Tryz.f39.name, by decide, Tryz.func39.trans (congrArg some (by kernel_rfl))⟩
  f14 := ⟨Tryz.f70.name, by decide, Tryz.func70.trans (congrArg some (by kernel_rfl))⟩
  f15 := Tryz.func71.trans (congrArg some (by kernel_rfl))
  f20 := ⟨Tryz.f88.name, by decide, Tryz.func88.trans (congrArg some (by kernel_rfl))⟩
  f21 := ⟨Tryz.f89.name, by decide, Tryz.func89.trans (congrArg some (by kernel_rfl))⟩
  f22 := ⟨Tryz.f90.name, by decide, Tryz.func90.trans (congrArg some (by kernel_rfl))⟩
  f23 := ⟨Tryz.f91.name, by decide, Tryz.func91.trans (congrArg some (by kernel_rfl))⟩
  f24 := ⟨Tryz.f92.name, by decide, Tryz.func92.trans (congrArg some (by kernel_rfl))⟩
  f25 := ⟨Tryz.f93.name, by decide, Tryz.func93.trans (congrArg some (by kernel_rfl))⟩
  f26 := ⟨Tryz.f94.name, by decide, Tryz.func94.trans (congrArg some (by kernel_rfl))⟩
  f27 := ⟨Tryz.f95.name, by decide, Tryz.func95.trans (congrArg some (by kernel_rfl))⟩
  f28 := Tryz.func96.trans (congrArg some (by kernel_rfl))
  f29 := Tryz.func97.trans (congrArg some (by kernel_rfl))
  f46 := ⟨Tryz.f124.name, by decide, Tryz.func124.trans (congrArg some (by kernel_rfl))⟩
  f47 := Tryz.func125.trans (congrArg some (by kernel_rfl))
  f48 := Tryz.func126.trans (congrArg some (by kernel_rfl))
  f49 := ⟨Tryz.f127.name, by decide, Tryz.func127.trans (congrArg some (by kernel_rfl))⟩
  f50 := ⟨Tryz.f128.name, by decide, Tryz.func128.trans (congrArg some (by kernel_rfl))⟩
  f57 := ⟨Tryz.f146.name, by decide, Tryz.func146.trans (congrArg some (by kernel_rfl))⟩
  t0 := Tryz.underlying0
  a0 := Tryz.isAgg0
  z0 := Tryz.sizeOf0
  v0 := Tryz.zeroValue0
  t3 := Tryz.underlying3
  a3 := Tryz.isAgg3
  z3 := Tryz.sizeOf3
  v3 := Tryz.zeroValue3
  t4 := Tryz.underlying4
  a4 := Tryz.isAgg4
  z4 := Tryz.sizeOf4
  v4 := Tryz.zeroValue4
  t5 := Tryz.underlying5
  a5 := Tryz.isAgg5
  z5 := Tryz.sizeOf5
  v5 := Tryz.zeroValue5
  t9 := Tryz.underlying9
  a9 := Tryz.isAgg9
  z9 := Tryz.sizeOf9
  v9 := Tryz.zeroValue9
  t22 := Tryz.underlying35
  a22 := Tryz.isAgg35
  z22 := Tryz.sizeOf35
  v22 := Tryz.zeroValue35
  t25 := Tryz.underlying86
  a25 := Tryz.isAgg86
  z25 := Tryz.sizeOf86
  v25 := Tryz.zeroValue86
  t39 := Tryz.underlying74
  a39 := Tryz.isAgg74
  z39 := Tryz.sizeOf74
  v39 := Tryz.zeroValue74
  t45 := Tryz.underlying121
  a45 := Tryz.isAgg121
  z45 := Tryz.sizeOf121
  v45 := Tryz.zeroValue121
  t46 := Tryz.underlying122
  a46 := Tryz.isAgg122
  z46 := Tryz.sizeOf122
  v46 := Tryz.zeroValue122
  t50 := Tryz.underlying126
  a50 := Tryz.isAgg126
  z50 := Tryz.sizeOf126
  v50 := Tryz.zeroValue126
  t53 := Tryz.underlying129
  a53 := Tryz.isAgg129
  z53 := Tryz.sizeOf129
  v53 := Tryz.zeroValue129
  t55 := Tryz.underlying131
  a55 := Tryz.isAgg131
  z55 := Tryz.sizeOf131
  v55 := Tryz.zeroValue131
  t66 := Tryz.underlying143
  a66 := Tryz.isAgg143
  z66 := Tryz.sizeOf143
  v66 := Tryz.zeroValue143
  t70 := Tryz.underlying147
  a70 := Tryz.isAgg147
  z70 := Tryz.sizeOf147
  v70 := Tryz.zeroValue147
  t76 := Tryz.underlying159
  a76 := Tryz.isAgg159
  z76 := Tryz.sizeOf159
  v76 := Tryz.zeroValue159
  t77 := Tryz.underlying160
  a77 := Tryz.isAgg160
  z77 := Tryz.sizeOf160
  v77 := Tryz.zeroValue160 }
end Go.Proofs
namespace Go.Proofs
open Go Go.AM Go.CP Go.RowKit
set_option linter.unusedVariables false
set_option maxRecDepth 100000
def tmL : List (Nat × Ty) := [(22, (.i .i64)), (25, (.n .ApiZone)), (26, (.n .ApiCell)), (27, (.n .ApiTenant)), (28, (.n .ApiVersion)), (32, (.n .ApiEntry)), (35, (.n .ApiSpan)), (44, (.n .ApiTenantState)), (45, (.n .ApiCellState)), (170, .s)]
def s_make_Light [Fuel] : TSpec := { f := 10, ps := ⟨[(0, .c (.ty (.l (.i .i64))))], []⟩, rs := ⟨[(0, .c (.ty .b))], []⟩, β := Bool, F := fun v => make_Light v.1.1, g := (fun r => ((r, ()), ())), d := fun _ => default }
theorem make_Light_ok [Fuel] : FnOk Tryz.prog s_make_Light :=
  fnI 6 tmL [] [] Tryz.func10 (fun v => v.1.1) .z ok0 vZ
def s_law13_two [Fuel] : TSpec := { f := 25, ps := ⟨[], []⟩, rs := ⟨[(0, .st .ApiConfig)], []⟩, β := ApiConfig, F := fun v => law13_two, g := (fun r => ((r, ()), ())), d := fun _ => default }
theorem law13_two_ok [Fuel] : FnOk Tryz.prog s_law13_two :=
  fnI 14 tmL [] [] Tryz.func25 (fun v => v.1.1) .z ok0 vZ
def s_law13_log [Fuel] : TSpec := { f := 26, ps := ⟨[], []⟩, rs := ⟨[(0, .c (.ty (.l (.n .ApiEntry))))], []⟩, β := (List ApiEntry), F := fun v => law13_log, g := (fun r => ((r, ()), ())), d := fun _ => default }
theorem law13_log_ok [Fuel] : FnOk Tryz.prog s_law13_log :=
  fnI 7 tmL [] [] Tryz.func26 (fun v => v.1.1) .z ok0 vZ
def s_state_New_own0_2_0_3 [Fuel] : TSpec := { f := 45, ps := ⟨[(0, .st .ApiConfig)], []⟩, rs := ⟨[(0, .sw .ApiState [(2, .own 0), (3, .own 1)])], [.ar (.n .ApiTenantState), .ar (.n .ApiCellState)]⟩, β := ApiState, F := fun v => state_New v.1.1, g := (fun r => ((({ r with Tenants := ([] : List ApiTenantState), Cells := ([] : List ApiCellState) }, ((), ((), ()))), ()), (r.Tenants, (r.Cells, ())))), d := fun _ => default }
theorem state_New_ok_own0_2_0_3 [Fuel] : FnOk Tryz.prog s_state_New_own0_2_0_3 :=
  fnI 41 tmL [] [] Tryz.func45 (fun v => ({ v.1.1.1 with Tenants := v.2.1, Cells := v.2.2.1 })) (.two .z (.two .z (.two (.two .z (.one (.lp ⟨[(2, .c (.pb 0 0)), (3, .c (.pb 1 0)), (17, .c (.ty (.i .i64))), (18, .c (.ty (.i .i64)))], [.bw .ApiState [(2, .nl), (3, .nl)], .bw .ApiState [(2, .own 2), (3, .own 3)], .ar (.n .ApiTenantState), .ar (.n .ApiCellState)]⟩ (fun n v => state_New_l2 v.1.2.2.1 n { v.2.2.1.1 with Tenants := v.2.2.2.1, Cells := v.2.2.2.2.1 } v.1.2.2.2.1) fun rc_state_New_l2 => .z))) (.two (.two .z (.one (.lp ⟨[(2, .c (.pb 0 0)), (3, .c (.pb 1 0)), (30, .c (.ty (.i .i64))), (31, .c (.ty (.i .i64)))], [.bw .ApiState [(2, .nl), (3, .nl)], .bw .ApiState [(2, .own 2), (3, .own 3)], .ar (.n .ApiTenantState), .ar (.n .ApiCellState)]⟩ (fun n v => state_New_l1 v.1.2.2.1 n { v.2.2.1.1 with Tenants := v.2.2.2.1, Cells := v.2.2.2.2.1 } v.1.2.2.2.1) fun rc_state_New_l1 => .z))) .z)))) ok0 (vS vZ (vS vZ (vS (vS vZ (vB (vL fun _ => vZ))) (vS (vS vZ (vB (vL fun _ => vZ))) vZ))))
def s_entry_below [Fuel] : TSpec := { f := 153, ps := ⟨[(0, .c (.ty (.i .i64)))], []⟩, rs := ⟨[(0, .st .EntrySpan)], []⟩, β := EntrySpan, F := fun v => entry_below v.1.1, g := (fun r => ((r, ()), ())), d := fun _ => default }
theorem entry_below_ok [Fuel] : FnOk Tryz.prog s_entry_below :=
  fnI 6 tmL [] [] Tryz.func153 (fun v => v.1.1) .z ok0 vZ
def s_entry_formOf [Fuel] : TSpec := { f := 147, ps := ⟨[(0, .c (.ty (.i .i64))), (1, .st .EntryBounds)], []⟩, rs := ⟨[(0, .st .EntryForm), (1, .c (.ty .b))], []⟩, β := (EntryForm × Bool), F := fun v => entry_formOf v.1.1 v.1.2.1, g := (fun r => ((r.1, (r.2, ())), ())), d := fun _ => default }
theorem entry_formOf_ok [Fuel] : FnOk Tryz.prog s_entry_formOf :=
  fnI 120 tmL [s_entry_below] [] Tryz.func147 (fun v => (v.1.1, v.1.2.1)) (.two .z (.two .z (.two .z (.two .z (.two .z (.two .z (.cut ⟨[(4, .c (.pb 0 0)), (14, .c (.pb 1 0))], [.bs .EntryForm, .bs .EntryForm]⟩ (fun v => entry_formOf_k1 v.2.2.1) (.two .z (.one (.two .z (.two .z (.two .z (.two .z (.two .z (.two .z (.two .z (.two .z (.cut ⟨[(3, .c (.pb 0 0)), (4, .c (.pb 1 0)), (7, .c (.pb 2 0)), (8, .c (.pb 3 0)), (10, .c (.pb 4 0)), (11, .c (.pb 5 0)), (13, .c (.pb 6 0)), (14, .c (.pb 7 0)), (36, .c (.ty (.i .i64))), (70, .c (.ty .b))], [.bs .EntryBounds, .bs .EntryForm, .bs .EntrySpan, .bs .EntrySpan, .bs .EntrySpan, .bs .EntrySpan, .bs .EntrySpan, .bs .EntryForm]⟩ (fun v => entry_formOf_k4 v.1.2.2.2.2.2.2.2.2.1 v.2.1 v.2.2.2.1 v.2.2.2.2.1 v.2.2.2.2.2.1 v.2.2.2.2.2.2.1 v.2.2.2.2.2.2.2.1 v.2.2.2.2.2.2.2.2.1 v.1.2.2.2.2.2.2.2.2.2.1) .z (.two .z (.two .z (.two .z (.two .z (.two .z (.two .z (.two .z (.cut ⟨[(3, .c (.pb 0 0)), (4, .c (.pb 1 0)), (8, .c (.pb 2 0)), (10, .c (.pb 3 0)), (11, .c (.pb 4 0)), (13, .c (.pb 5 0)), (14, .c (.pb 6 0)), (36, .c (.ty (.i .i64))), (93, .c (.ty .b))], [.bs .EntryBounds, .bs .EntryForm, .bs .EntrySpan, .bs .EntrySpan, .bs .EntrySpan, .bs .EntrySpan, .bs .EntryForm]⟩ (fun v => entry_formOf_k3 v.1.2.2.2.2.2.2.2.1 v.2.1 v.2.2.2.1 v.2.2.2.2.1 v.2.2.2.2.2.1 v.2.2.2.2.2.2.1 v.2.2.2.2.2.2.2.1 v.1.2.2.2.2.2.2.2.2.1) .z (.two .z (.two .z (.two .z (.two .z (.two .z (.cut ⟨[(4, .c (.pb 0 0)), (13, .c (.pb 1 0)), (14, .c (.pb 2 0)), (36, .c (.ty (.i .i64))), (112, .c (.ty .b))], [.bs .EntryForm, .bs .EntrySpan, .bs .EntryForm]⟩ (fun v => entry_formOf_k2 v.1.2.2.2.1 v.2.2.1 v.2.2.2.1 v.1.2.2.2.2.1) .z .z))))))))))))))))))))))))) .z))))))) (okC entry_below_ok ok0) (vS vZ (vS vZ (vS vZ (vS vZ (vS vZ (vS vZ (vC (vS vZ (vB (vS vZ (vD vZ (vS vZ (vD vZ (vS vZ (vD vZ (vS vZ (vD vZ (vC vZ (vD vZ (vS vZ (vD vZ (vS vZ (vD vZ (vS vZ (vD vZ (vC vZ (vD vZ (vS vZ (vD vZ (vS vZ (vD vZ (vC vZ vZ))))))))))))))))))))))))) vZ)))))))
def s_entry_span_has [Fuel] : TSpec := { f := 148, ps := ⟨[(0, .st .EntrySpan), (1, .c (.ty (.i .i64)))], []⟩, rs := ⟨[(0, .c (.ty .b))], []⟩, β := Bool, F := fun v => entry_span_has v.1.1 v.1.2.1, g := (fun r => ((r, ()), ())), d := fun _ => default }
theorem entry_span_has_ok [Fuel] : FnOk Tryz.prog s_entry_span_has :=
  fnI 15 tmL [] [] Tryz.func148 (fun v => v.1.1) .z ok0 vZ
def s_entry_fits [Fuel] : TSpec := { f := 130, ps := ⟨[(0, .st .ApiEntry), (1, .st .EntryBounds)], []⟩, rs := ⟨[(0, .c (.ty .b))], []⟩, β := Bool, F := fun v => entry_fits v.1.1 v.1.2.1, g := (fun r => ((r, ()), ())), d := fun _ => default }
theorem entry_fits_ok [Fuel] : FnOk Tryz.prog s_entry_fits :=
  fnI 85 tmL [s_entry_formOf, s_entry_span_has] [] Tryz.func130 (fun v => v.1.1) .z (okC entry_formOf_ok (okC entry_span_has_ok ok0)) vZ
def s_entry_Shape [Fuel] : TSpec := { f := 129, ps := ⟨[(0, .st .ApiEntry)], []⟩, rs := ⟨[(0, .c (.ty .b))], []⟩, β := Bool, F := fun v => entry_Shape v.1.1, g := (fun r => ((r, ()), ())), d := fun _ => default }
theorem entry_Shape_ok [Fuel] : FnOk Tryz.prog s_entry_Shape :=
  fnI 6 tmL [s_entry_fits] [] Tryz.func129 (fun v => v.1.1) .z (okC entry_fits_ok ok0) vZ
def s_entry_Valid [Fuel] : TSpec := { f := 98, ps := ⟨[(0, .st .ApiConfig), (1, .st .ApiEntry)], []⟩, rs := ⟨[(0, .c (.ty .b))], []⟩, β := Bool, F := fun v => entry_Valid v.1.1 v.1.2.1, g := (fun r => ((r, ()), ())), d := fun _ => default }
theorem entry_Valid_ok [Fuel] : FnOk Tryz.prog s_entry_Valid :=
  fnI 23 tmL [s_entry_Shape, s_entry_fits] [] Tryz.func98 (fun v => v.1.1) .z (okC entry_Shape_ok (okC entry_fits_ok ok0)) vZ
def s_state_modeOf [Fuel] : TSpec := { f := 131, ps := ⟨[(0, .st .ApiState), (1, .c (.ty (.i .i64)))], []⟩, rs := ⟨[(0, .c (.ty (.i .i64)))], []⟩, β := Int, F := fun v => state_modeOf v.1.1 v.1.2.1, g := (fun r => ((r, ()), ())), d := fun _ => default }
theorem state_modeOf_ok [Fuel] : FnOk Tryz.prog s_state_modeOf :=
  fnI 20 tmL [] [] Tryz.func131 (fun v => v.1.1) .z ok0 vZ
def s_topo_within [Fuel] : TSpec := { f := 156, ps := ⟨[(0, .c (.ty (.i .i64))), (1, .c (.ty (.i .i64))), (2, .c (.ty (.i .i64)))], []⟩, rs := ⟨[(0, .c (.ty .b))], []⟩, β := Bool, F := fun v => topo_within v.1.1 v.1.2.1 v.1.2.2.1, g := (fun r => ((r, ()), ())), d := fun _ => default }
theorem topo_within_ok [Fuel] : FnOk Tryz.prog s_topo_within :=
  fnI 15 tmL [] [] Tryz.func156 (fun v => v.1.1) .z ok0 vZ
def s_topo_ZoneOf [Fuel] : TSpec := { f := 155, ps := ⟨[(0, .st .ApiConfig), (1, .c (.ty (.i .i64)))], []⟩, rs := ⟨[(0, .c (.ty (.i .i64)))], []⟩, β := Int, F := fun v => topo_ZoneOf v.1.1 v.1.2.1, g := (fun r => ((r, ()), ())), d := fun _ => default }
theorem topo_ZoneOf_ok [Fuel] : FnOk Tryz.prog s_topo_ZoneOf :=
  fnI 18 tmL [s_topo_within] [] Tryz.func155 (fun v => v.1.1) .z (okC topo_within_ok ok0) vZ
def s_topo_regionOfZone [Fuel] : TSpec := { f := 154, ps := ⟨[(0, .st .ApiConfig), (1, .c (.ty (.i .i64)))], []⟩, rs := ⟨[(0, .c (.ty (.i .i64)))], []⟩, β := Int, F := fun v => topo_regionOfZone v.1.1 v.1.2.1, g := (fun r => ((r, ()), ())), d := fun _ => default }
theorem topo_regionOfZone_ok [Fuel] : FnOk Tryz.prog s_topo_regionOfZone :=
  fnI 18 tmL [s_topo_within] [] Tryz.func154 (fun v => v.1.1) .z (okC topo_within_ok ok0) vZ
def s_topo_RegionOf [Fuel] : TSpec := { f := 149, ps := ⟨[(0, .st .ApiConfig), (1, .c (.ty (.i .i64)))], []⟩, rs := ⟨[(0, .c (.ty (.i .i64)))], []⟩, β := Int, F := fun v => topo_RegionOf v.1.1 v.1.2.1, g := (fun r => ((r, ()), ())), d := fun _ => default }
theorem topo_RegionOf_ok [Fuel] : FnOk Tryz.prog s_topo_RegionOf :=
  fnI 10 tmL [s_topo_ZoneOf, s_topo_regionOfZone] [] Tryz.func149 (fun v => v.1.1) .z (okC topo_ZoneOf_ok (okC topo_regionOfZone_ok ok0)) vZ
def s_state_has [Fuel] : TSpec := { f := 137, ps := ⟨[(0, .c (.ty (.i .i64))), (1, .c (.ty (.i .i64)))], []⟩, rs := ⟨[(0, .c (.ty .b))], []⟩, β := Bool, F := fun v => state_has v.1.1 v.1.2.1, g := (fun r => ((r, ()), ())), d := fun _ => default }
theorem state_has_ok [Fuel] : FnOk Tryz.prog s_state_has :=
  fnI 18 tmL [] [] Tryz.func137 (fun v => v.1.1) .z ok0 vZ
def s_state_frozen [Fuel] : TSpec := { f := 132, ps := ⟨[(0, .st .ApiConfig), (1, .st .ApiState), (2, .c (.ty (.i .i64)))], []⟩, rs := ⟨[(0, .c (.ty .b))], []⟩, β := Bool, F := fun v => state_frozen v.1.1 v.1.2.1 v.1.2.2.1, g := (fun r => ((r, ()), ())), d := fun _ => default }
theorem state_frozen_ok [Fuel] : FnOk Tryz.prog s_state_frozen :=
  fnI 13 tmL [s_topo_RegionOf, s_state_has] [] Tryz.func132 (fun v => v.1.1) .z (okC topo_RegionOf_ok (okC state_has_ok ok0)) vZ
def s_tenant_within [Fuel] : TSpec := { f := 150, ps := ⟨[(0, .c (.ty (.i .i64))), (1, .c (.ty (.i .i64))), (2, .c (.ty (.i .i64)))], []⟩, rs := ⟨[(0, .c (.ty .b))], []⟩, β := Bool, F := fun v => tenant_within v.1.1 v.1.2.1 v.1.2.2.1, g := (fun r => ((r, ()), ())), d := fun _ => default }
theorem tenant_within_ok [Fuel] : FnOk Tryz.prog s_tenant_within :=
  fnI 15 tmL [] [] Tryz.func150 (fun v => v.1.1) .z ok0 vZ
def s_tenant_May [Fuel] : TSpec := { f := 133, ps := ⟨[(0, .st .ApiConfig), (1, .c (.ty (.i .i64))), (2, .c (.ty (.i .i64)))], []⟩, rs := ⟨[(0, .c (.ty .b))], []⟩, β := Bool, F := fun v => tenant_May v.1.1 v.1.2.1 v.1.2.2.1, g := (fun r => ((r, ()), ())), d := fun _ => default }
theorem tenant_May_ok [Fuel] : FnOk Tryz.prog s_tenant_May :=
  fnI 34 tmL [s_topo_RegionOf, s_tenant_within] [] Tryz.func133 (fun v => v.1.1) .z (okC topo_RegionOf_ok (okC tenant_within_ok ok0)) vZ
def s_tenant_Apart [Fuel] : TSpec := { f := 135, ps := ⟨[(0, .st .ApiConfig), (1, .c (.ty (.i .i64))), (2, .c (.ty (.i .i64)))], []⟩, rs := ⟨[(0, .c (.ty .b))], []⟩, β := Bool, F := fun v => tenant_Apart v.1.1 v.1.2.1 v.1.2.2.1, g := (fun r => ((r, ()), ())), d := fun _ => default }
theorem tenant_Apart_ok [Fuel] : FnOk Tryz.prog s_tenant_Apart :=
  fnI 26 tmL [s_topo_RegionOf] [] Tryz.func135 (fun v => v.1.1) .z (okC topo_RegionOf_ok ok0) vZ
def s_state_near [Fuel] : TSpec := { f := 134, ps := ⟨[(0, .st .ApiConfig), (1, .c (.ty (.i .i64))), (2, .c (.ty (.i .i64)))], []⟩, rs := ⟨[(0, .c (.ty .b))], []⟩, β := Bool, F := fun v => state_near v.1.1 v.1.2.1 v.1.2.2.1, g := (fun r => ((r, ()), ())), d := fun _ => default }
theorem state_near_ok [Fuel] : FnOk Tryz.prog s_state_near :=
  fnI 16 tmL [s_tenant_Apart] [] Tryz.func134 (fun v => v.1.1) .z (okC tenant_Apart_ok ok0) vZ
def s_state_place [Fuel] : TSpec := { f := 99, ps := ⟨[(0, .st .ApiConfig), (1, .st .ApiState), (2, .st .ApiEntry)], []⟩, rs := ⟨[(0, .c (.ty (.i .i64)))], []⟩, β := Int, F := fun v => state_place v.1.1 v.1.2.1 v.1.2.2.1, g := (fun r => ((r, ()), ())), d := fun _ => default }
theorem state_place_ok [Fuel] : FnOk Tryz.prog s_state_place :=
  fnI 72 tmL [s_state_modeOf, s_state_frozen, s_tenant_May, s_state_near] [] Tryz.func99 (fun v => v.1.1) (.two .z (.two .z (.two (.one (.two .z (.two .z (.cut ⟨[(3, .c (.pb 0 0)), (4, .c (.pb 1 0)), (5, .c (.pb 2 0)), (7, .c (.ty .b)), (19, .c (.ty .b))], [.bs .ApiConfig, .bs .ApiState, .bs .ApiEntry]⟩ (fun v => state_place_k3 v.2.1 v.2.2.1 v.2.2.2.1 v.1.2.2.2.1 v.1.2.2.2.2.1) .z (.two .z (.cut ⟨[(3, .c (.pb 0 0)), (5, .c (.pb 1 0)), (7, .c (.ty .b)), (33, .c (.ty .b))], [.bs .ApiConfig, .bs .ApiEntry]⟩ (fun v => state_place_k2 v.2.1 v.2.2.1 v.1.2.2.1 v.1.2.2.2.1) .z (.two .z (.two .z (.two .z (.cut ⟨[(55, .c (.ty .b))], []⟩ (fun v => state_place_k1 v.1.1) .z .z)))))))))) .z))) (okC state_modeOf_ok (okC state_frozen_ok (okC tenant_May_ok (okC state_near_ok ok0)))) (vS vZ (vS vZ (vS (vB (vS vZ (vD vZ (vC vZ (vD vZ (vC vZ (vD vZ (vS vZ (vD vZ (vC vZ vZ)))))))))) vZ)))
def s_state_standby [Fuel] : TSpec := { f := 100, ps := ⟨[(0, .st .ApiConfig), (1, .st .ApiState), (2, .st .ApiEntry)], []⟩, rs := ⟨[(0, .c (.ty (.i .i64)))], []⟩, β := Int, F := fun v => state_standby v.1.1 v.1.2.1 v.1.2.2.1, g := (fun r => ((r, ()), ())), d := fun _ => default }
theorem state_standby_ok [Fuel] : FnOk Tryz.prog s_state_standby :=
  fnI 69 tmL [s_state_modeOf, s_state_frozen, s_tenant_May, s_tenant_Apart, s_state_near] [] Tryz.func100 (fun v => v.1.1) (.two .z (.two .z (.two .z (.two .z (.two (.one (.cut ⟨[(3, .c (.pb 0 0)), (4, .c (.pb 1 0)), (5, .c (.pb 2 0)), (7, .c (.pb 3 0)), (20, .c (.ty .b))], [.bs .ApiConfig, .bs .ApiState, .bs .ApiEntry, .bs .ApiTenantState]⟩ (fun v => state_standby_k2 v.2.1 v.2.2.1 v.2.2.2.1 v.2.2.2.2.1 v.1.2.2.2.2.1) .z (.two .z (.two .z (.two .z (.two .z (.two .z (.cut ⟨[(48, .c (.ty .b))], []⟩ (fun v => state_standby_k1 v.1.1) .z .z)))))))) .z))))) (okC state_modeOf_ok (okC state_frozen_ok (okC tenant_May_ok (okC tenant_Apart_ok (okC state_near_ok ok0))))) (vS vZ (vS vZ (vS vZ (vS vZ (vS (vB (vC vZ (vD vZ (vS vZ (vD vZ (vS vZ (vD vZ (vC vZ vZ)))))))) vZ)))))
def s_state_ready [Fuel] : TSpec := { f := 101, ps := ⟨[(0, .st .ApiState), (1, .st .ApiEntry)], []⟩, rs := ⟨[(0, .c (.ty (.i .i64)))], []⟩, β := Int, F := fun v => state_ready v.1.1 v.1.2.1, g := (fun r => ((r, ()), ())), d := fun _ => default }
theorem state_ready_ok [Fuel] : FnOk Tryz.prog s_state_ready :=
  fnI 28 tmL [s_state_modeOf] [] Tryz.func101 (fun v => v.1.1) .z (okC state_modeOf_ok ok0) vZ
def s_state_migrate [Fuel] : TSpec := { f := 102, ps := ⟨[(0, .st .ApiConfig), (1, .st .ApiState), (2, .st .ApiEntry)], []⟩, rs := ⟨[(0, .c (.ty (.i .i64)))], []⟩, β := Int, F := fun v => state_migrate v.1.1 v.1.2.1 v.1.2.2.1, g := (fun r => ((r, ()), ())), d := fun _ => default }
theorem state_migrate_ok [Fuel] : FnOk Tryz.prog s_state_migrate :=
  fnI 71 tmL [s_state_modeOf, s_state_frozen, s_tenant_May, s_state_near] [] Tryz.func102 (fun v => v.1.1) (.two .z (.two .z (.two (.one (.cut ⟨[(3, .c (.pb 0 0)), (4, .c (.pb 1 0)), (5, .c (.pb 2 0)), (7, .c (.pb 3 0)), (14, .c (.ty .b))], [.bs .ApiConfig, .bs .ApiState, .bs .ApiEntry, .bs .ApiTenantState]⟩ (fun v => state_migrate_k3 v.2.1 v.2.2.1 v.2.2.2.1 v.2.2.2.2.1 v.1.2.2.2.2.1) .z (.two .z (.cut ⟨[(3, .c (.pb 0 0)), (4, .c (.pb 1 0)), (5, .c (.pb 2 0)), (7, .c (.pb 3 0)), (23, .c (.ty .b))], [.bs .ApiConfig, .bs .ApiState, .bs .ApiEntry, .bs .ApiTenantState]⟩ (fun v => state_migrate_k2 v.2.1 v.2.2.1 v.2.2.2.1 v.2.2.2.2.1 v.1.2.2.2.2.1) .z (.two .z (.two .z (.two .z (.two .z (.two .z (.cut ⟨[(51, .c (.ty .b))], []⟩ (fun v => state_migrate_k1 v.1.1) .z .z)))))))))) .z))) (okC state_modeOf_ok (okC state_frozen_ok (okC tenant_May_ok (okC state_near_ok ok0)))) (vS vZ (vS vZ (vS (vB (vC vZ (vD vZ (vC vZ (vD vZ (vS vZ (vD vZ (vS vZ (vD vZ (vC vZ vZ)))))))))) vZ)))
end Go.Proofs
namespace Go.Proofs
open Go Go.AM Go.CP Go.RowKit
set_option linter.unusedVariables false
set_option maxRecDepth 100000
def s_state_abandon [Fuel] : TSpec := { f := 103, ps := ⟨[(0, .st .ApiState), (1, .st .ApiEntry)], []⟩, rs := ⟨[(0, .c (.ty (.i .i64)))], []⟩, β := Int, F := fun v => state_abandon v.1.1 v.1.2.1, g := (fun r => ((r, ()), ())), d := fun _ => default }
theorem state_abandon_ok [Fuel] : FnOk Tryz.prog s_state_abandon :=
  fnI 20 tmL [] [] Tryz.func103 (fun v => v.1.1) .z ok0 vZ
def s_state_shed [Fuel] : TSpec := { f := 104, ps := ⟨[(0, .st .ApiState), (1, .st .ApiEntry)], []⟩, rs := ⟨[(0, .c (.ty (.i .i64)))], []⟩, β := Int, F := fun v => state_shed v.1.1 v.1.2.1, g := (fun r => ((r, ()), ())), d := fun _ => default }
theorem state_shed_ok [Fuel] : FnOk Tryz.prog s_state_shed :=
  fnI 38 tmL [s_state_modeOf] [] Tryz.func104 (fun v => v.1.1) (.two .z (.two .z (.two .z (.two (.one (.cut ⟨[(3, .c (.pb 0 0)), (5, .c (.pb 1 0)), (25, .c (.ty .b))], [.bs .ApiEntry, .bs .ApiTenantState]⟩ (fun v => state_shed_k1 v.2.1 v.2.2.1 v.1.2.2.1) .z .z)) .z)))) (okC state_modeOf_ok ok0) (vS vZ (vS vZ (vS vZ (vS (vB (vC vZ vZ)) vZ))))
def s_state_grant [Fuel] : TSpec := { f := 105, ps := ⟨[(0, .st .ApiConfig), (1, .st .ApiState), (2, .st .ApiEntry)], []⟩, rs := ⟨[(0, .c (.ty (.i .i64)))], []⟩, β := Int, F := fun v => state_grant v.1.1 v.1.2.1 v.1.2.2.1, g := (fun r => ((r, ()), ())), d := fun _ => default }
theorem state_grant_ok [Fuel] : FnOk Tryz.prog s_state_grant :=
  fnI 141 tmL [] [] Tryz.func105 (fun v => v.1.1) (.two .z (.two .z (.two .z (.two (.one (.cut ⟨[(3, .c (.pb 0 0)), (5, .c (.pb 1 0)), (7, .c (.pb 2 0)), (8, .c (.pb 3 0)), (9, .c (.ty .b)), (27, .c (.ty .b))], [.bs .ApiConfig, .bs .ApiEntry, .bs .ApiTenantState, .bs .ApiCellState]⟩ (fun v => state_grant_k5 v.2.1 v.2.2.1 v.2.2.2.1 v.2.2.2.2.1 v.1.2.2.2.2.1 v.1.2.2.2.2.2.1) .z (.two .z (.two .z (.two .z (.cut ⟨[(3, .c (.pb 0 0)), (5, .c (.pb 1 0)), (7, .c (.pb 2 0)), (8, .c (.pb 3 0)), (9, .c (.ty .b)), (57, .c (.ty .b))], [.bs .ApiConfig, .bs .ApiEntry, .bs .ApiTenantState, .bs .ApiCellState]⟩ (fun v => state_grant_k4 v.2.1 v.2.2.1 v.2.2.2.1 v.2.2.2.2.1 v.1.2.2.2.2.1 v.1.2.2.2.2.2.1) .z (.two .z (.two .z (.two .z (.cut ⟨[(3, .c (.pb 0 0)), (5, .c (.pb 1 0)), (7, .c (.pb 2 0)), (9, .c (.ty .b)), (86, .c (.ty .b))], [.bs .ApiConfig, .bs .ApiEntry, .bs .ApiTenantState]⟩ (fun v => state_grant_k3 v.2.1 v.2.2.1 v.2.2.2.1 v.1.2.2.2.1 v.1.2.2.2.2.1) .z (.two .z (.cut ⟨[(5, .c (.pb 0 0)), (7, .c (.pb 1 0)), (9, .c (.ty .b)), (97, .c (.ty .b))], [.bs .ApiEntry, .bs .ApiTenantState]⟩ (fun v => state_grant_k2 v.2.1 v.2.2.1 v.1.2.2.1 v.1.2.2.2.1) .z (.two .z (.cut ⟨[(124, .c (.ty .b))], []⟩ (fun v => state_grant_k1 v.1.1) .z .z)))))))))))))) .z)))) ok0 (vS vZ (vS vZ (vS vZ (vS (vB (vC vZ (vD vZ (vS vZ (vD vZ (vC vZ (vD vZ (vS vZ (vD vZ (vC vZ (vD vZ (vC vZ (vD vZ (vC vZ vZ)))))))))))))) vZ))))
def s_state_cut [Fuel] : TSpec := { f := 106, ps := ⟨[(0, .st .ApiState), (1, .st .ApiEntry)], []⟩, rs := ⟨[(0, .c (.ty (.i .i64)))], []⟩, β := Int, F := fun v => state_cut v.1.1 v.1.2.1, g := (fun r => ((r, ()), ())), d := fun _ => default }
theorem state_cut_ok [Fuel] : FnOk Tryz.prog s_state_cut :=
  fnI 22 tmL [] [] Tryz.func106 (fun v => v.1.1) .z ok0 vZ
def s_state_mode [Fuel] : TSpec := { f := 107, ps := ⟨[(0, .st .ApiState), (1, .st .ApiEntry)], []⟩, rs := ⟨[(0, .c (.ty (.i .i64)))], []⟩, β := Int, F := fun v => state_mode v.1.1 v.1.2.1, g := (fun r => ((r, ()), ())), d := fun _ => default }
theorem state_mode_ok [Fuel] : FnOk Tryz.prog s_state_mode :=
  fnI 15 tmL [] [] Tryz.func107 (fun v => v.1.1) .z ok0 vZ
def s_state_versionOf [Fuel] : TSpec := { f := 136, ps := ⟨[(0, .st .ApiConfig), (1, .c (.ty (.i .i64)))], []⟩, rs := ⟨[(0, .st .ApiVersion)], []⟩, β := ApiVersion, F := fun v => state_versionOf v.1.1 v.1.2.1, g := (fun r => ((r, ()), ())), d := fun _ => default }
theorem state_versionOf_ok [Fuel] : FnOk Tryz.prog s_state_versionOf :=
  fnI 20 tmL [] [] Tryz.func136 (fun v => v.1.1) .z ok0 vZ
def s_state_Unproven [Fuel] : TSpec := { f := 138, ps := ⟨[(0, .st .ApiState)], []⟩, rs := ⟨[(0, .c (.ty (.l (.i .i64))))], []⟩, β := (List Int), F := fun v => state_Unproven v.1.1, g := (fun r => ((r, ()), ())), d := fun _ => default }
theorem state_Unproven_ok [Fuel] : FnOk Tryz.prog s_state_Unproven :=
  fnI 34 tmL [s_state_has] [] Tryz.func138 (fun v => v.1.1) (.two .z (.two .z (.two (.two .z (.one (.lp ⟨[(1, .c (.pb 0 0)), (3, .c (.own 1)), (7, .c (.ty (.l (.n .ApiCellState)))), (8, .c (.ty (.i .i64))), (9, .c (.ty (.i .i64)))], [.bs .ApiState, .ar (.i .i64)]⟩ (fun n v => state_Unproven_l2 v.2.1 v.1.2.2.1 v.1.2.2.2.1 n v.2.2.1 v.1.2.2.2.2.1) fun rc_state_Unproven_l2 => (.two .z (.two .z (.cut ⟨[(1, .c (.pb 0 0)), (3, .c (.own 1)), (7, .c (.ty (.l (.n .ApiCellState)))), (8, .c (.ty (.i .i64))), (9, .c (.ty (.i .i64)))], [.bs .ApiState, .ar (.i .i64)]⟩ (fun v => state_Unproven_k1 (fun y1 y2 => rc_state_Unproven_l2 (((), ((), (v.1.2.2.1, (v.1.2.2.2.1, (y2, ()))))), (v.2.1, (y1, ())))) v.1.2.2.2.2.1 v.2.2.1) .z .z)))))) .z))) (okC state_has_ok ok0) (vS vZ (vS vZ (vS (vS vZ (vB (vL fun _ => (vS vZ (vS vZ (vC vZ vZ)))))) vZ)))
def s_state_want [Fuel] : TSpec := { f := 108, ps := ⟨[(0, .st .ApiConfig), (1, .st .ApiState), (2, .st .ApiEntry)], []⟩, rs := ⟨[(0, .c (.ty (.i .i64)))], []⟩, β := Int, F := fun v => state_want v.1.1 v.1.2.1 v.1.2.2.1, g := (fun r => ((r, ()), ())), d := fun _ => default }
theorem state_want_ok [Fuel] : FnOk Tryz.prog s_state_want :=
  fnI 72 tmL [s_state_versionOf, s_state_has, s_state_Unproven] [] Tryz.func108 (fun v => v.1.1) (.two .z (.two .z (.two (.one (.two .z (.two .z (.cut ⟨[(3, .c (.pb 0 0)), (4, .c (.pb 1 0)), (5, .c (.pb 2 0)), (7, .c (.pb 3 0)), (28, .c (.ty .b))], [.bs .ApiConfig, .bs .ApiState, .bs .ApiEntry, .bs .ApiCellState]⟩ (fun v => state_want_k4 v.2.1 v.2.2.1 v.2.2.2.1 v.2.2.2.2.1 v.1.2.2.2.2.1) .z (.two .z (.cut ⟨[(3, .c (.pb 0 0)), (4, .c (.pb 1 0)), (5, .c (.pb 2 0)), (39, .c (.ty .b))], [.bs .ApiConfig, .bs .ApiState, .bs .ApiEntry]⟩ (fun v => state_want_k3 v.2.1 v.2.2.1 v.2.2.2.1 v.1.2.2.2.1) .z .z)))))) (.two .z (.two (.two .z (.one (.lp ⟨[(3, .c (.pb 0 0)), (5, .c (.pb 1 0)), (9, .c (.ty (.i .i64))), (55, .c (.ty (.l (.i .i64)))), (56, .c (.ty (.i .i64))), (57, .c (.ty (.i .i64)))], [.bs .ApiConfig, .bs .ApiEntry]⟩ (fun n v => state_want_l2 v.2.1 v.2.2.1 v.1.2.2.2.1 v.1.2.2.2.2.1 n v.1.2.2.1 v.1.2.2.2.2.2.1) fun rc_state_want_l2 => (.two .z (.two .z (.cut ⟨[(3, .c (.pb 0 0)), (5, .c (.pb 1 0)), (9, .c (.ty (.i .i64))), (55, .c (.ty (.l (.i .i64)))), (56, .c (.ty (.i .i64))), (57, .c (.ty (.i .i64)))], [.bs .ApiConfig, .bs .ApiEntry]⟩ (fun v => state_want_k1 (fun y1 y2 => rc_state_want_l2 (((), ((), (y1, (v.1.2.2.2.1, (v.1.2.2.2.2.1, (y2, ())))))), (v.2.1, (v.2.2.1, ())))) v.1.2.2.2.2.2.1 v.1.2.2.1) .z .z)))))) .z))))) (okC state_versionOf_ok (okC state_has_ok (okC state_Unproven_ok ok0))) (vS vZ (vS vZ (vS (vB (vS vZ (vD vZ (vC vZ (vD vZ (vC vZ vZ)))))) (vS vZ (vS (vS vZ (vB (vL fun _ => (vS vZ (vS vZ (vC vZ vZ)))))) vZ)))))
def s_state_runs [Fuel] : TSpec := { f := 109, ps := ⟨[(0, .st .ApiState), (1, .st .ApiEntry)], []⟩, rs := ⟨[(0, .c (.ty (.i .i64)))], []⟩, β := Int, F := fun v => state_runs v.1.1 v.1.2.1, g := (fun r => ((r, ()), ())), d := fun _ => default }
theorem state_runs_ok [Fuel] : FnOk Tryz.prog s_state_runs :=
  fnI 59 tmL [s_state_has] [] Tryz.func109 (fun v => v.1.1) (.two .z (.two .z (.two (.one (.cut ⟨[(2, .c (.pb 0 0)), (3, .c (.pb 1 0)), (14, .c (.ty .b))], [.bs .ApiState, .bs .ApiEntry]⟩ (fun v => state_runs_k2 v.2.1 v.2.2.1 v.1.2.2.1) .z .z)) (.two (.two .z (.one (.lp ⟨[(3, .c (.pb 0 0)), (38, .c (.ty (.l (.n .ApiTenantState)))), (39, .c (.ty (.i .i64))), (40, .c (.ty (.i .i64)))], [.bs .ApiEntry]⟩ (fun n v => state_runs_l1 v.2.1 v.1.2.1 v.1.2.2.1 n v.1.2.2.2.1) fun rc_state_runs_l1 => .z))) .z)))) (okC state_has_ok ok0) (vS vZ (vS vZ (vS (vB (vC vZ vZ)) (vS (vS vZ (vB (vL fun _ => vZ))) vZ))))
def s_state_prove [Fuel] : TSpec := { f := 110, ps := ⟨[(0, .st .ApiConfig), (1, .st .ApiState), (2, .st .ApiEntry)], []⟩, rs := ⟨[(0, .c (.ty (.i .i64)))], []⟩, β := Int, F := fun v => state_prove v.1.1 v.1.2.1 v.1.2.2.1, g := (fun r => ((r, ()), ())), d := fun _ => default }
theorem state_prove_ok [Fuel] : FnOk Tryz.prog s_state_prove :=
  fnI 49 tmL [s_state_has] [] Tryz.func110 (fun v => v.1.1) (.two .z (.two .z (.two (.two .z (.one (.lp ⟨[(3, .c (.pb 0 0)), (5, .c (.pb 1 0)), (15, .c (.ty (.l (.n .ApiCellState)))), (16, .c (.ty (.i .i64))), (17, .c (.ty (.i .i64)))], [.bs .ApiConfig, .bs .ApiEntry]⟩ (fun n v => state_prove_l1 v.2.1 v.2.2.1 v.1.2.2.1 v.1.2.2.2.1 n v.1.2.2.2.2.1) fun rc_state_prove_l1 => .z))) .z))) (okC state_has_ok ok0) (vS vZ (vS vZ (vS (vS vZ (vB (vL fun _ => vZ))) vZ)))
def s_state_evacuate [Fuel] : TSpec := { f := 111, ps := ⟨[(0, .st .ApiState), (1, .st .ApiEntry)], []⟩, rs := ⟨[(0, .c (.ty (.i .i64)))], []⟩, β := Int, F := fun v => state_evacuate v.1.1 v.1.2.1, g := (fun r => ((r, ()), ())), d := fun _ => default }
theorem state_evacuate_ok [Fuel] : FnOk Tryz.prog s_state_evacuate :=
  fnI 14 tmL [s_state_has] [] Tryz.func111 (fun v => v.1.1) .z (okC state_has_ok ok0) vZ
def s_state_expand [Fuel] : TSpec := { f := 112, ps := ⟨[(0, .st .ApiConfig), (1, .st .ApiState)], []⟩, rs := ⟨[(0, .c (.ty (.i .i64)))], []⟩, β := Int, F := fun v => state_expand v.1.1 v.1.2.1, g := (fun r => ((r, ()), ())), d := fun _ => default }
theorem state_expand_ok [Fuel] : FnOk Tryz.prog s_state_expand :=
  fnI 43 tmL [s_state_versionOf] [] Tryz.func112 (fun v => v.1.1) (.two .z (.two .z (.two (.two .z (.one (.lp ⟨[(2, .c (.pb 0 0)), (3, .c (.pb 1 0)), (18, .c (.ty (.l (.n .ApiCellState)))), (19, .c (.ty (.i .i64))), (20, .c (.ty (.i .i64)))], [.bs .ApiConfig, .bs .ApiState]⟩ (fun n v => state_expand_l1 v.2.1 v.2.2.1 v.1.2.2.1 v.1.2.2.2.1 n v.1.2.2.2.2.1) fun rc_state_expand_l1 => .z))) .z))) (okC state_versionOf_ok ok0) (vS vZ (vS vZ (vS (vS vZ (vB (vL fun _ => vZ))) vZ)))
def s_state_contract [Fuel] : TSpec := { f := 113, ps := ⟨[(0, .st .ApiState)], []⟩, rs := ⟨[(0, .c (.ty (.i .i64)))], []⟩, β := Int, F := fun v => state_contract v.1.1, g := (fun r => ((r, ()), ())), d := fun _ => default }
theorem state_contract_ok [Fuel] : FnOk Tryz.prog s_state_contract :=
  fnI 8 tmL [] [] Tryz.func113 (fun v => v.1.1) .z ok0 vZ
def s_state_refused [Fuel] : TSpec := { f := 75, ps := ⟨[(0, .st .ApiConfig), (1, .st .ApiState), (2, .st .ApiEntry)], []⟩, rs := ⟨[(0, .c (.ty (.i .i64)))], []⟩, β := Int, F := fun v => state_refused v.1.1 v.1.2.1 v.1.2.2.1, g := (fun r => ((r, ()), ())), d := fun _ => default }
theorem state_refused_ok [Fuel] : FnOk Tryz.prog s_state_refused :=
  fnI 118 tmL [s_entry_Valid, s_state_place, s_state_standby, s_state_ready, s_state_migrate, s_state_abandon, s_state_shed, s_state_grant, s_state_cut, s_state_mode, s_state_want, s_state_runs, s_state_prove, s_state_evacuate, s_state_expand, s_state_contract] [] Tryz.func75 (fun v => v.1.1) (.two .z (.two (.one (.cut ⟨[(3, .c (.pb 0 0)), (4, .c (.pb 1 0)), (5, .c (.pb 2 0)), (7, .c (.ty .b))], [.bs .ApiConfig, .bs .ApiState, .bs .ApiEntry]⟩ (fun v => state_refused_k1 v.2.1 v.2.2.1 v.2.2.2.1 v.1.2.2.2.1) .z .z)) .z)) (okC entry_Valid_ok (okC state_place_ok (okC state_standby_ok (okC state_ready_ok (okC state_migrate_ok (okC state_abandon_ok (okC state_shed_ok (okC state_grant_ok (okC state_cut_ok (okC state_mode_ok (okC state_want_ok (okC state_runs_ok (okC state_prove_ok (okC state_evacuate_ok (okC state_expand_ok (okC state_contract_ok ok0)))))))))))))))) (vS vZ (vS (vB (vC vZ vZ)) vZ))
def s_slices_Clone_api_TenantState_api_TenantState_own0_0 [Fuel] : TSpec := { f := 114, ps := ⟨[(0, .c (.ty (.l (.n .ApiTenantState))))], []⟩, rs := ⟨[(0, .c (.own 0))], [.ar (.n .ApiTenantState)]⟩, β := (List ApiTenantState), F := fun v => slices_Clone_api_TenantState_api_TenantState v.1.1, g := (fun r => (((), ()), (r, ()))), d := fun _ => default }
theorem slices_Clone_api_TenantState_api_TenantState_ok_own0_0 [Fuel] : FnOk Tryz.prog s_slices_Clone_api_TenantState_api_TenantState_own0_0 :=
  fnClone (t := (.n .ApiTenantState)) (e := 56) 8 tmL Tryz.func114 (fun v => v.2.1) 0 3 4 44 (fun v => v.1.1) [] rfl (by kernel_rfl) (by kernel_rfl) (by intro v; kernel_rfl) (by intro v; kernel_rfl) (by kernel_rfl) (by intro vs w; rfl) (by kernel_rfl) (by intro v; exact ⟨by kernel_rfl, by kernel_rfl⟩) (by intro v; kernel_rfl) (by intro v; kernel_rfl) (fun v r hx hF => clone_nil hx hF)
def s_slices_Clone_api_CellState_api_CellState_own0_0 [Fuel] : TSpec := { f := 115, ps := ⟨[(0, .c (.ty (.l (.n .ApiCellState))))], []⟩, rs := ⟨[(0, .c (.own 0))], [.ar (.n .ApiCellState)]⟩, β := (List ApiCellState), F := fun v => slices_Clone_api_CellState_api_CellState v.1.1, g := (fun r => (((), ()), (r, ()))), d := fun _ => default }
theorem slices_Clone_api_CellState_api_CellState_ok_own0_0 [Fuel] : FnOk Tryz.prog s_slices_Clone_api_CellState_api_CellState_own0_0 :=
  fnClone (t := (.n .ApiCellState)) (e := 91) 8 tmL Tryz.func115 (fun v => v.2.1) 0 3 4 45 (fun v => v.1.1) [] rfl (by kernel_rfl) (by kernel_rfl) (by intro v; kernel_rfl) (by intro v; kernel_rfl) (by kernel_rfl) (by intro vs w; rfl) (by kernel_rfl) (by intro v; exact ⟨by kernel_rfl, by kernel_rfl⟩) (by intro v; kernel_rfl) (by intro v; kernel_rfl) (fun v r hx hF => clone_nil hx hF)
def s_state_onCell [Fuel] : TSpec := { f := 116, ps := ⟨[(0, .c (.pe 0 0)), (1, .st .ApiEntry)], [.ar (.n .ApiCellState)]⟩, rs := ⟨[], [.ar (.n .ApiCellState)]⟩, β := (List ApiCellState), F := fun v => state_onCell v.2.1 v.1.1 v.1.2.1, g := (fun r => ((), (r, ()))), d := fun v => v.2.1, dk := true, hd := fun _ _ => rfl }
theorem state_onCell_ok [Fuel] : FnOk Tryz.prog s_state_onCell :=
  fnI 37 tmL [] [] Tryz.func116 (fun v => v.2.1) .z ok0 vZ
def s_state_granted [Fuel] : TSpec := { f := 139, ps := ⟨[(0, .c (.pe 0 0)), (1, .st .ApiEntry)], [.ar (.n .ApiTenantState)]⟩, rs := ⟨[], [.ar (.n .ApiTenantState)]⟩, β := (List ApiTenantState), F := fun v => state_granted v.2.1 v.1.1 v.1.2.1, g := (fun r => ((), (r, ()))), d := fun v => v.2.1, dk := true, hd := fun _ _ => rfl }
theorem state_granted_ok [Fuel] : FnOk Tryz.prog s_state_granted :=
  fnI 68 tmL [] [] Tryz.func139 (fun v => v.2.1) .z ok0 vZ
def s_state_onTenant [Fuel] : TSpec := { f := 117, ps := ⟨[(0, .c (.pe 0 0)), (1, .st .ApiEntry)], [.ar (.n .ApiTenantState)]⟩, rs := ⟨[], [.ar (.n .ApiTenantState)]⟩, β := (List ApiTenantState), F := fun v => state_onTenant v.2.1 v.1.1 v.1.2.1, g := (fun r => ((), (r, ()))), d := fun v => v.2.1, dk := true, hd := fun _ _ => rfl }
theorem state_onTenant_ok [Fuel] : FnOk Tryz.prog s_state_onTenant :=
  fnI 100 tmL [s_state_granted] [] Tryz.func117 (fun v => v.2.1) .z (okC state_granted_ok ok0) vZ
def s_state_effect_own0_2_0_3 [Fuel] : TSpec := { f := 76, ps := ⟨[(0, .st .ApiState), (1, .st .ApiEntry)], []⟩, rs := ⟨[(0, .sw .ApiState [(2, .own 0), (3, .own 1)])], [.ar (.n .ApiTenantState), .ar (.n .ApiCellState)]⟩, β := ApiState, F := fun v => state_effect v.1.1 v.1.2.1, g := (fun r => ((({ r with Tenants := ([] : List ApiTenantState), Cells := ([] : List ApiCellState) }, ((), ((), ()))), ()), (r.Tenants, (r.Cells, ())))), d := fun _ => default }
theorem state_effect_ok_own0_2_0_3 [Fuel] : FnOk Tryz.prog s_state_effect_own0_2_0_3 :=
  fnI 82 tmL [s_slices_Clone_api_TenantState_api_TenantState_own0_0, s_slices_Clone_api_CellState_api_CellState_own0_0, s_state_onCell, s_state_onTenant] [] Tryz.func76 (fun v => ({ v.1.1.1 with Tenants := v.2.1, Cells := v.2.2.1 })) (.two .z (.two .z (.two .z (.two .z (.cut ⟨[(2, .c (.pb 0 0)), (4, .c (.pb 3 0))], [.bw .ApiState [(2, .own 1), (3, .own 2)], .ar (.n .ApiTenantState), .ar (.n .ApiCellState), .bw .ApiState [(2, .nl), (3, .nl)]]⟩ (fun v => state_effect_k1 { v.2.1.1 with Tenants := v.2.2.1, Cells := v.2.2.2.1 }) (.two .z (.one (.cut ⟨[(2, .c (.pb 0 0)), (3, .c (.pb 3 0)), (4, .c (.pb 4 0)), (21, .c (.ty (.i .i64))), (29, .c (.ty .b))], [.bw .ApiState [(2, .own 1), (3, .own 2)], .ar (.n .ApiTenantState), .ar (.n .ApiCellState), .bs .ApiEntry, .bw .ApiState [(2, .nl), (3, .nl)]]⟩ (fun v => state_effect_k2 v.2.2.2.2.1 { v.2.1.1 with Tenants := v.2.2.1, Cells := v.2.2.2.1 } v.1.2.2.2.1 v.1.2.2.2.2.1) .z .z))) .z))))) (okC slices_Clone_api_TenantState_api_TenantState_ok_own0_0 (okC slices_Clone_api_CellState_api_CellState_ok_own0_0 (okC state_onCell_ok (okC state_onTenant_ok ok0)))) (vS vZ (vS vZ (vS vZ (vS vZ (vC (vS vZ (vB (vC vZ vZ))) vZ)))))
def s_state_books [Fuel] : TSpec := { f := 77, ps := ⟨[(0, .st .ApiEntry)], []⟩, rs := ⟨[(0, .c (.ty .b))], []⟩, β := Bool, F := fun v => state_books v.1.1, g := (fun r => ((r, ()), ())), d := fun _ => default }
theorem state_books_ok [Fuel] : FnOk Tryz.prog s_state_books :=
  fnI 19 tmL [] [] Tryz.func77 (fun v => v.1.1) (.two .z (.two (.two .z (.one (.cut ⟨[(1, .c (.pb 0 0)), (4, .c (.ty (.i .i64))), (5, .c (.ty .b))], [.bs .ApiEntry]⟩ (fun v => state_books_k1 v.2.1 v.1.2.1 v.1.2.2.1) .z .z))) .z)) ok0 (vS vZ (vS (vS vZ (vB (vC vZ vZ))) vZ))
def s_load_count [Fuel] : TSpec := { f := 140, ps := ⟨[(0, .st .ApiConfig), (1, .st .ApiState)], []⟩, rs := ⟨[(0, .c (.ty (.i .i64)))], []⟩, β := Int, F := fun v => load_count v.1.1 v.1.2.1, g := (fun r => ((r, ()), ())), d := fun _ => default }
theorem load_count_ok [Fuel] : FnOk Tryz.prog s_load_count :=
  fnI 12 tmL [] [] Tryz.func140 (fun v => v.1.1) .z ok0 vZ
def s_load_active [Fuel] : TSpec := { f := 141, ps := ⟨[(0, .st .ApiTenantState)], []⟩, rs := ⟨[(0, .c (.ty .b))], []⟩, β := Bool, F := fun v => load_active v.1.1, g := (fun r => ((r, ()), ())), d := fun _ => default }
theorem load_active_ok [Fuel] : FnOk Tryz.prog s_load_active :=
  fnI 10 tmL [] [] Tryz.func141 (fun v => v.1.1) .z ok0 vZ
def s_load_add [Fuel] : TSpec := { f := 142, ps := ⟨[(0, .c (.own 0)), (1, .c (.ty (.i .i64))), (2, .c (.ty (.i .i64)))], [.ar (.i .i64)]⟩, rs := ⟨[], [.ar (.i .i64)]⟩, β := (List Int), F := fun v => load_add v.2.1 v.1.2.1 v.1.2.2.1, g := (fun r => ((), (r, ()))), d := fun v => v.2.1, dk := true, hd := fun _ _ => rfl }
theorem load_add_ok [Fuel] : FnOk Tryz.prog s_load_add :=
  fnI 21 tmL [] [] Tryz.func142 (fun v => v.2.1) .z ok0 vZ
def s_load_Booked_own0_0 [Fuel] : TSpec := { f := 118, ps := ⟨[(0, .st .ApiConfig), (1, .st .ApiState)], []⟩, rs := ⟨[(0, .c (.own 0))], [.ar (.i .i64)]⟩, β := (List Int), F := fun v => load_Booked v.1.1 v.1.2.1, g := (fun r => (((), ()), (r, ()))), d := fun _ => default }
theorem load_Booked_ok_own0_0 [Fuel] : FnOk Tryz.prog s_load_Booked_own0_0 :=
  fnI 60 tmL [s_load_count, s_load_active, s_load_add] [] Tryz.func118 (fun v => v.2.1) (.two .z (.two .z (.two (.two .z (.one (.lp ⟨[(2, .c (.pb 0 0)), (3, .c (.pb 1 0)), (5, .c (.own 2)), (15, .c (.ty (.i .i64))), (16, .c (.ty (.i .i64)))], [.bs .ApiConfig, .bs .ApiState, .ar (.i .i64)]⟩ (fun n v => load_Booked_l3 v.2.1 v.2.2.1 v.1.2.2.2.1 n v.2.2.2.1 v.1.2.2.2.2.1) fun rc_load_Booked_l3 => (.two .z (.two .z (.cut ⟨[(2, .c (.pb 0 0)), (3, .c (.pb 1 0)), (5, .c (.own 2)), (15, .c (.ty (.i .i64))), (16, .c (.ty (.i .i64)))], [.bs .ApiConfig, .bs .ApiState, .ar (.i .i64)]⟩ (fun v => load_Booked_k1 (fun y1 y2 => rc_load_Booked_l3 (((), ((), ((), (v.1.2.2.2.1, (y2, ()))))), (v.2.1, (v.2.2.1, (y1, ()))))) v.1.2.2.2.2.1 v.2.2.2.1) (.one (.two .z (.two .z (.two .z (.cut ⟨[(2, .c (.pb 0 0)), (3, .c (.pb 1 0)), (5, .c (.own 2)), (7, .c (.pb 3 0)), (8, .c (.pb 4 0)), (15, .c (.ty (.i .i64))), (16, .c (.ty (.i .i64)))], [.bs .ApiConfig, .bs .ApiState, .ar (.i .i64), .bs .ApiTenant, .bs .ApiTenantState]⟩ (fun v => load_Booked_k2 (fun y1 y2 => rc_load_Booked_l3 (((), ((), ((), (v.1.2.2.2.2.2.1, (y2, ()))))), (v.2.1, (v.2.2.1, (y1, ()))))) v.1.2.2.2.2.2.2.1 v.2.2.2.2.1 v.2.2.2.2.2.1 v.2.2.2.1) .z .z))))) .z)))))) .z))) (okC load_count_ok (okC load_active_ok (okC load_add_ok ok0))) (vS vZ (vS vZ (vS (vS vZ (vB (vL fun _ => (vS vZ (vS vZ (vC (vB (vS vZ (vS vZ (vS vZ (vC vZ vZ))))) vZ)))))) vZ)))
end Go.Proofs
