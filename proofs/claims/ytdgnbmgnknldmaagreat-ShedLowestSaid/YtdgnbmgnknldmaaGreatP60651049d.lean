/-
  DERIVED: THE SHELF's CONTRACTS AT THIS DUMP, IN PLAIN WORDS (tools/lay-plain.mjs out of 'ZzLaysTryz.lean', which tools/lay-shelf.mjs wrote): THE SAME DECLARATIONS UNDER THE SAME NAMES: 'import', 'namespace', 'open', 'def', 'theorem' AND NOTHING ELSE: no command of the shelf's: FOR A HAND-IN. Each laying: the table of numbers ('.._ren') and one theorem, a field a fact of the dump's own or the kernel's comparison; each contract: ONE APPLICATION.
-/
import Derived.Shelf.Small.Bits
import Derived.Shelf.Strconv.Itoa0
import Derived.Ground.Names2Prog
import Derived.Shelf.Slices.CompactI
import Derived.Shelf.Slices.SearchI
import Derived.Shelf.Slices.Cells
import Derived.Ground.SlsfProg
import Derived.Shelf.SlSortCmp.Insertion
import Derived.Shelf.SlSortCmp.SiftDown1
import Derived.Shelf.SlSortCmp.HeapSort1
import Derived.Shelf.SlSortCmp.Insertion1
import Derived.Shelf.SlSortCmp.Median1
import Derived.Shelf.SlSortCmp.Pivot1
import Derived.Shelf.SlSortCmp.ReverseRange1
import Derived.Shelf.SlSortCmp.PartitionEqual1
import Derived.Shelf.SlSortCmp.NoneTotal
import Derived.Test.YtdgnbmgnknldmaaGreatProg
import Derived.Test.YtdgnbmgnknldmaaGreatP5c66b3d98
namespace Go.Proofs
open Go.Shelf
def Tryz.lays46_ren : Go.Shelf.Ren := ⟨fun | 6 => 46 | 15 => 99 | 14 => 98 | 28 => 137 | 29 => 138 | 20 => 129 | 21 => 130 | 22 => 131 | 23 => 132 | 24 => 133 | 25 => 134 | 26 => 135 | 27 => 136 | 46 => 149 | 47 => 150 | 48 => 151 | 49 => 152 | 50 => 153 | 57 => 159 | n => n, fun | 22 => 22 | 24 => 3 | 25 => 38 | 3 => 3 | 39 => 72 | 0 => 0 | 53 => 138 | 55 => 140 | 4 => 4 | 46 => 131 | 45 => 130 | 50 => 135 | 5 => 5 | 9 => 9 | 66 => 151 | 70 => 155 | 76 => 159 | 77 => 160 | n => n, fun | n => n⟩
theorem Tryz.lays46 : Go.Proofs.SlLaysF.n6 Tryz.prog Tryz.lays46_ren := {
  mixed := by kernel_rfl
  f6 := ⟨Tryz.f46.name, by decide, Tryz.func46.trans (congrArg some (by kernel_rfl))⟩
  f14 := ⟨Tryz.f98.name, by decide, Tryz.func98.trans (congrArg some (by kernel_rfl))⟩
  f15 := Tryz.func99.trans (congrArg some (by kernel_rfl))
  f20 := ⟨Tryz.f129.name, by decide, Tryz.func129.trans (congrArg some (by kernel_rfl))⟩
  f21 := ⟨Tryz.f130.name, by decide, Tryz.func130.trans (congrArg some (by kernel_rfl))⟩
  f22 := ⟨Tryz.f131.name, by decide, Tryz.func131.trans (congrArg some (by kernel_rfl))⟩
  f23 := ⟨Tryz.f132.name, by decide, Tryz.func132.trans (congrArg some (by kernel_rfl))⟩
  f24 := ⟨Tryz.f133.name, by decide, Tryz.func133.trans (congrArg some (by kernel_rfl))⟩
  f25 := ⟨Tryz.f134.name, by decide, Tryz.func134.trans (congrArg some (by kernel_rfl))⟩
  f26 := ⟨Tryz.f135.name, by decide, Tryz.func135.trans (congrArg some (by kernel_rfl))⟩
  f27 := ⟨Tryz.f136.name, by decide, Tryz.func136.trans (congrArg some (by kernel_rfl))⟩
  f28 := Tryz.func137.trans (congrArg some (by kernel_rfl))
  f29 := Tryz.func138.trans (congrArg some (by kernel_rfl))
  f46 := ⟨Tryz.f149.name, by decide, Tryz.func149.trans (congrArg some (by kernel_rfl))⟩
  f47 := Tryz.func150.trans (congrArg some (by kernel_rfl))
  f48 := Tryz.func151.trans (congrArg some (by kernel_rfl))
  f49 := ⟨Tryz.f152.name, by decide, Tryz.func152.trans (congrArg some (by kernel_rfl))⟩
  f50 := ⟨Tryz.f153.name, by decide, Tryz.func153.trans (congrArg some (by kernel_rfl))⟩
  f57 := ⟨Tryz.f159.name, by decide, Tryz.func159.trans (congrArg some (by kernel_rfl))⟩
  t0 := Tryz.underlying0
  a0 := Tryz.isAgg0
  z0 := Tryz.sizeOf0
  v0 := Tryz.zeroValue0
  t3 := Tryz.underlying3
  a3 := Tryz.isAgg3
  z3 := Tryz.sizeOf3
  v3 := Tryz.zeroValue3
  t4 := Tryz.underlying4
  a4 := Tryz.isAgg4
  z4 := Tryz.sizeOf4
  v4 := Tryz.zeroValue4
  t5 := Tryz.underlying5
  a5 := Tryz.isAgg5
  z5 := Tryz.sizeOf5
  v5 := Tryz.zeroValue5
  t9 := Tryz.underlying9
  a9 := Tryz.isAgg9
  z9 := Tryz.sizeOf9
  v9 := Tryz.zeroValue9
  t22 := Tryz.underlying22
  a22 := Tryz.isAgg22
  z22 := Tryz.sizeOf22
  v22 := Tryz.zeroValue22
  a24 := Tryz.isAgg3
  z24 := Tryz.sizeOf3
  t25 := Tryz.underlying38
  a25 := Tryz.isAgg38
  z25 := Tryz.sizeOf38
  v25 := Tryz.zeroValue38
  t39 := Tryz.underlying72
  a39 := Tryz.isAgg72
  z39 := Tryz.sizeOf72
  v39 := Tryz.zeroValue72
  t45 := Tryz.underlying130
  a45 := Tryz.isAgg130
  z45 := Tryz.sizeOf130
  v45 := Tryz.zeroValue130
  t46 := Tryz.underlying131
  a46 := Tryz.isAgg131
  z46 := Tryz.sizeOf131
  v46 := Tryz.zeroValue131
  t50 := Tryz.underlying135
  a50 := Tryz.isAgg135
  z50 := Tryz.sizeOf135
  v50 := Tryz.zeroValue135
  t53 := Tryz.underlying138
  a53 := Tryz.isAgg138
  z53 := Tryz.sizeOf138
  v53 := Tryz.zeroValue138
  t55 := Tryz.underlying140
  a55 := Tryz.isAgg140
  z55 := Tryz.sizeOf140
  v55 := Tryz.zeroValue140
  t66 := Tryz.underlying151
  a66 := Tryz.isAgg151
  z66 := Tryz.sizeOf151
  v66 := Tryz.zeroValue151
  t70 := Tryz.underlying155
  a70 := Tryz.isAgg155
  z70 := Tryz.sizeOf155
  v70 := Tryz.zeroValue155
  t76 := Tryz.underlying159
  a76 := Tryz.isAgg159
  z76 := Tryz.sizeOf159
  v76 := Tryz.zeroValue159
  t77 := Tryz.underlying160
  a77 := Tryz.isAgg160
  z77 := Tryz.sizeOf160
  v77 := Tryz.zeroValue160 }
def Tryz.lays50_ren : Go.Shelf.Ren := ⟨fun | 20 => 50 | n => n, fun | 22 => 22 | 3 => 3 | 4 => 4 | 0 => 0 | n => n, fun | n => n⟩
theorem Tryz.lays50 : Go.Proofs.Lays2.n20 Tryz.prog Tryz.lays50_ren := {
  mixed := by kernel_rfl
  f20 := Tryz.func50.trans (congrArg some (by kernel_rfl))
  t0 := Tryz.underlying0
  a0 := Tryz.isAgg0
  z0 := Tryz.sizeOf0
  v0 := Tryz.zeroValue0
  t3 := Tryz.underlying3
  a3 := Tryz.isAgg3
  z3 := Tryz.sizeOf3
  v3 := Tryz.zeroValue3
  t4 := Tryz.underlying4
  a4 := Tryz.isAgg4
  z4 := Tryz.sizeOf4
  v4 := Tryz.zeroValue4
  t22 := Tryz.underlying22
  a22 := Tryz.isAgg22
  z22 := Tryz.sizeOf22
  v22 := Tryz.zeroValue22
  i3 := by kernel_rfl }
end Go.Proofs
namespace Go.Proofs
open Go Go.AM Go.CP Go.RowKit
set_option linter.unusedVariables false
set_option maxRecDepth 100000
def tmL : List (Nat × Ty) := [(22, (.i .i64)), (25, (.n .ApiZone)), (26, (.n .ApiCell)), (27, (.n .ApiTenant)), (28, (.n .ApiVersion)), (32, (.n .ApiTenantState)), (33, (.n .ApiCellState)), (39, (.n .Arr2Int)), (77, (.n .ApiEntry)), (163, .s)]
def s_make_New [Fuel] : TSpec := { f := 27, ps := ⟨[(0, .c (.ty (.l (.i .i64))))], []⟩, rs := ⟨[(0, .c (.pb 0 0))], [.bs .MakeTape]⟩, β := MakeTape, F := fun v => make_New v.1.1, g := (fun r => (((), ()), (r, ()))), d := fun _ => default }
theorem make_New_ok [Fuel] : FnOk Tryz.prog s_make_New :=
  fnI 6 tmL [] [] Tryz.func27 (fun v => v.2.1) .z ok0 vZ
def s_make_Mod [Fuel] : TSpec := { f := 51, ps := ⟨[(0, .c (.ty (.i .i64))), (1, .c (.ty (.i .i64)))], []⟩, rs := ⟨[(0, .c (.ty (.i .i64)))], []⟩, β := Int, F := fun v => make_Mod v.1.1 v.1.2.1, g := (fun r => ((r, ()), ())), d := fun _ => default }
theorem make_Mod_ok [Fuel] : FnOk Tryz.prog s_make_Mod :=
  fnI 12 tmL [] [] Tryz.func51 (fun v => v.1.1) .z ok0 vZ
def s_make_Tape_Next [Fuel] : TSpec := { f := 29, ps := ⟨[(0, .c (.pb 0 0)), (1, .c (.ty (.i .i64)))], [.bs .MakeTape]⟩, rs := ⟨[(0, .c (.ty (.i .i64)))], [.bs .MakeTape]⟩, β := (Int × MakeTape), F := fun v => make_Tape_Next v.2.1 v.1.2.1, g := (fun r => ((r.1, ()), (r.2, ()))), d := fun v => (default, v.2.1), dk := true, hd := fun _ _ => rfl }
theorem make_Tape_Next_ok [Fuel] : FnOk Tryz.prog s_make_Tape_Next :=
  fnI 53 tmL [s_make_Mod] [] Tryz.func29 (fun v => (v.1.1, v.2.1)) .z (okC make_Mod_ok ok0) vZ
def s_make_Between [Fuel] : TSpec := { f := 28, ps := ⟨[(0, .c (.ty (.i .i64))), (1, .c (.ty (.i .i64))), (2, .c (.ty (.i .i64)))], []⟩, rs := ⟨[(0, .c (.ty (.i .i64)))], []⟩, β := Int, F := fun v => make_Between v.1.1 v.1.2.1 v.1.2.2.1, g := (fun r => ((r, ()), ())), d := fun _ => default }
theorem make_Between_ok [Fuel] : FnOk Tryz.prog s_make_Between :=
  fnI 15 tmL [s_make_Mod] [] Tryz.func28 (fun v => v.1.1) .z (okC make_Mod_ok ok0) vZ
def s_make_Tape_Range [Fuel] : TSpec := { f := 30, ps := ⟨[(0, .c (.pb 0 0)), (1, .c (.ty (.i .i64))), (2, .c (.ty (.i .i64)))], [.bs .MakeTape]⟩, rs := ⟨[(0, .c (.ty (.i .i64)))], [.bs .MakeTape]⟩, β := (Int × MakeTape), F := fun v => make_Tape_Range v.2.1 v.1.2.1 v.1.2.2.1, g := (fun r => ((r.1, ()), (r.2, ()))), d := fun v => (default, v.2.1), dk := true, hd := fun _ _ => rfl }
theorem make_Tape_Range_ok [Fuel] : FnOk Tryz.prog s_make_Tape_Range :=
  fnI 15 tmL [s_make_Tape_Next] [] Tryz.func30 (fun v => (v.1.1, v.2.1)) .z (okC make_Tape_Next_ok ok0) vZ
def s_make_Tape_Yes [Fuel] : TSpec := { f := 31, ps := ⟨[(0, .c (.pb 0 0)), (1, .c (.ty (.i .i64)))], [.bs .MakeTape]⟩, rs := ⟨[(0, .c (.ty .b))], [.bs .MakeTape]⟩, β := (Bool × MakeTape), F := fun v => make_Tape_Yes v.2.1 v.1.2.1, g := (fun r => ((r.1, ()), (r.2, ()))), d := fun v => (default, v.2.1), dk := true, hd := fun _ _ => rfl }
theorem make_Tape_Yes_ok [Fuel] : FnOk Tryz.prog s_make_Tape_Yes :=
  fnI 9 tmL [s_make_Tape_Next] [] Tryz.func31 (fun v => (v.1.1, v.2.1)) .z (okC make_Tape_Next_ok ok0) vZ
def s_make_Config [Fuel] : TSpec := { f := 10, ps := ⟨[(0, .c (.ty (.l (.i .i64))))], []⟩, rs := ⟨[(0, .st .ApiConfig)], []⟩, β := ApiConfig, F := fun v => make_Config v.1.1, g := (fun r => ((r, ()), ())), d := fun _ => default }
theorem make_Config_ok [Fuel] : FnOk Tryz.prog s_make_Config :=
  fnI 182 tmL [s_make_New, s_make_Tape_Next, s_make_Between, s_make_Tape_Range, s_make_Tape_Yes] [] Tryz.func10 (fun v => v.1.1) (.two .z (.two .z (.two .z (.two (.two .z (.one (.lp ⟨[(2, .c (.pb 0 0)), (3, .c (.pb 1 0)), (4, .c (.pb 2 0)), (5, .c (.ty (.i .i64)))], [.bw .ApiConfig [(1, .nl), (2, .nl), (3, .nl), (4, .nl), (5, .nl), (6, .nl)], .bs .MakeTape, .bw .ApiConfig [(1, .own 3), (2, .nl), (3, .nl), (4, .nl), (5, .nl), (6, .nl)], .ar (.n .ApiZone)]⟩ (fun n v => make_Config_l7 n v.2.2.1 { v.2.2.2.1.1 with Zones := v.2.2.2.2.1, Cells := [], Tenants := [], Versions := [], Replicas := [], Observers := [] } v.1.2.2.2.1) fun rc_make_Config_l7 => .z))) (.two (.two .z (.one (.lp ⟨[(2, .c (.pb 0 0)), (3, .c (.pb 1 0)), (4, .c (.pb 2 0)), (6, .c (.ty (.i .i64)))], [.bw .ApiConfig [(1, .nl), (2, .nl), (3, .nl), (4, .nl), (5, .nl), (6, .nl)], .bs .MakeTape, .bw .ApiConfig [(1, .own 3), (2, .own 4), (3, .nl), (4, .nl), (5, .nl), (6, .nl)], .ar (.n .ApiZone), .ar (.n .ApiCell)]⟩ (fun n v => make_Config_l6 n v.2.2.1 { v.2.2.2.1.1 with Zones := v.2.2.2.2.1, Cells := v.2.2.2.2.2.1, Tenants := [], Versions := [], Replicas := [], Observers := [] } v.1.2.2.2.1) fun rc_make_Config_l6 => .z))) (.two (.two .z (.one (.lp ⟨[(2, .c (.pb 0 0)), (3, .c (.pb 1 0)), (4, .c (.pb 2 0)), (7, .c (.ty (.i .i64)))], [.bw .ApiConfig [(1, .nl), (2, .nl), (3, .nl), (4, .nl), (5, .nl), (6, .nl)], .bs .MakeTape, .bw .ApiConfig [(1, .own 3), (2, .own 4), (3, .own 5), (4, .nl), (5, .nl), (6, .nl)], .ar (.n .ApiZone), .ar (.n .ApiCell), .ar (.n .ApiTenant)]⟩ (fun n v => make_Config_l5 n v.2.2.1 { v.2.2.2.1.1 with Zones := v.2.2.2.2.1, Cells := v.2.2.2.2.2.1, Tenants := v.2.2.2.2.2.2.1, Versions := [], Replicas := [], Observers := [] } v.1.2.2.2.1) fun rc_make_Config_l5 => (.two .z (.two (.one (.two .z (.two .z (.cut ⟨[(2, .c (.pb 0 0)), (3, .c (.pb 1 0)), (4, .c (.pb 2 0)), (7, .c (.ty (.i .i64))), (9, .c (.pb 6 0))], [.bw .ApiConfig [(1, .nl), (2, .nl), (3, .nl), (4, .nl), (5, .nl), (6, .nl)], .bs .MakeTape, .bw .ApiConfig [(1, .own 3), (2, .own 4), (3, .own 5), (4, .nl), (5, .nl), (6, .nl)], .ar (.n .ApiZone), .ar (.n .ApiCell), .ar (.n .ApiTenant), .bs .ApiTenant]⟩ (fun v => make_Config_k1 (fun y1 y2 y3 => rc_make_Config_l5 (((), ((), ((), (y3, ())))), (({ v.2.1.1 with Zones := [], Cells := [], Tenants := [], Versions := [], Replicas := [], Observers := [] }, ((), ((), ((), ((), ((), ((), ()))))))), (y1, ((y2, ((), ((), ((), ((), ((), ((), ()))))))), (y2.Zones, (y2.Cells, (y2.Tenants, ())))))))) { v.2.2.2.1.1 with Zones := v.2.2.2.2.1, Cells := v.2.2.2.2.2.1, Tenants := v.2.2.2.2.2.2.1, Versions := [], Replicas := [], Observers := [] } v.1.2.2.2.1 v.2.2.1 v.2.2.2.2.2.2.2.1) .z .z)))) .z))))) (.two .z (.two (.two .z (.one (.lp ⟨[(2, .c (.pb 0 0)), (3, .c (.pb 1 0)), (4, .c (.pb 2 0)), (10, .c (.ty (.i .i64)))], [.bw .ApiConfig [(1, .nl), (2, .nl), (3, .nl), (4, .nl), (5, .nl), (6, .nl)], .bs .MakeTape, .bw .ApiConfig [(1, .own 3), (2, .own 4), (3, .own 5), (4, .own 6), (5, .nl), (6, .nl)], .ar (.n .ApiZone), .ar (.n .ApiCell), .ar (.n .ApiTenant), .ar (.n .ApiVersion)]⟩ (fun n v => make_Config_l4 n v.2.2.1 { v.2.2.2.1.1 with Zones := v.2.2.2.2.1, Cells := v.2.2.2.2.2.1, Tenants := v.2.2.2.2.2.2.1, Versions := v.2.2.2.2.2.2.2.1, Replicas := [], Observers := [] } v.1.2.2.2.1) fun rc_make_Config_l4 => .z))) (.two (.two .z (.one (.lp ⟨[(2, .c (.pb 0 0)), (3, .c (.pb 1 0)), (4, .c (.pb 2 0)), (12, .c (.ty (.i .i64)))], [.bw .ApiConfig [(1, .nl), (2, .nl), (3, .nl), (4, .nl), (5, .nl), (6, .nl)], .bs .MakeTape, .bw .ApiConfig [(1, .own 3), (2, .own 4), (3, .own 5), (4, .own 6), (5, .own 7), (6, .nl)], .ar (.n .ApiZone), .ar (.n .ApiCell), .ar (.n .ApiTenant), .ar (.n .ApiVersion), .ar (.i .i64)]⟩ (fun n v => make_Config_l3 n v.2.2.1 { v.2.2.2.1.1 with Zones := v.2.2.2.2.1, Cells := v.2.2.2.2.2.1, Tenants := v.2.2.2.2.2.2.1, Versions := v.2.2.2.2.2.2.2.1, Replicas := v.2.2.2.2.2.2.2.2.1, Observers := [] } v.1.2.2.2.1) fun rc_make_Config_l3 => .z))) (.two (.two .z (.one (.lp ⟨[(2, .c (.pb 0 0)), (3, .c (.pb 1 0)), (4, .c (.pb 2 0)), (13, .c (.ty (.i .i64)))], [.bw .ApiConfig [(1, .nl), (2, .nl), (3, .nl), (4, .nl), (5, .nl), (6, .nl)], .bs .MakeTape, .bw .ApiConfig [(1, .own 3), (2, .own 4), (3, .own 5), (4, .own 6), (5, .own 7), (6, .own 8)], .ar (.n .ApiZone), .ar (.n .ApiCell), .ar (.n .ApiTenant), .ar (.n .ApiVersion), .ar (.i .i64), .ar (.i .i64)]⟩ (fun n v => make_Config_l2 n v.2.2.1 { v.2.2.2.1.1 with Zones := v.2.2.2.2.1, Cells := v.2.2.2.2.2.1, Tenants := v.2.2.2.2.2.2.1, Versions := v.2.2.2.2.2.2.2.1, Replicas := v.2.2.2.2.2.2.2.2.1, Observers := v.2.2.2.2.2.2.2.2.2.1 } v.1.2.2.2.1) fun rc_make_Config_l2 => .z))) .z)))))))))) (okC make_New_ok (okC make_Tape_Next_ok (okC make_Between_ok (okC make_Tape_Range_ok (okC make_Tape_Yes_ok ok0))))) (vS vZ (vS vZ (vS vZ (vS (vS vZ (vB (vL fun _ => vZ))) (vS (vS vZ (vB (vL fun _ => vZ))) (vS (vS vZ (vB (vL fun _ => (vS vZ (vS (vB (vS vZ (vS vZ (vC vZ vZ)))) vZ))))) (vS vZ (vS (vS vZ (vB (vL fun _ => vZ))) (vS (vS vZ (vB (vL fun _ => vZ))) (vS (vS vZ (vB (vL fun _ => vZ))) vZ))))))))))
def s_state_New_own0_2_0_3 [Fuel] : TSpec := { f := 25, ps := ⟨[(0, .st .ApiConfig)], []⟩, rs := ⟨[(0, .sw .ApiState [(2, .own 0), (3, .own 1)])], [.ar (.n .ApiTenantState), .ar (.n .ApiCellState)]⟩, β := ApiState, F := fun v => state_New v.1.1, g := (fun r => ((({ r with Tenants := ([] : List ApiTenantState), Cells := ([] : List ApiCellState) }, ((), ((), ()))), ()), (r.Tenants, (r.Cells, ())))), d := fun _ => default }
theorem state_New_ok_own0_2_0_3 [Fuel] : FnOk Tryz.prog s_state_New_own0_2_0_3 :=
  fnI 41 tmL [] [] Tryz.func25 (fun v => ({ v.1.1.1 with Tenants := v.2.1, Cells := v.2.2.1 })) (.two .z (.two .z (.two (.two .z (.one (.lp ⟨[(2, .c (.pb 0 0)), (3, .c (.pb 1 0)), (17, .c (.ty (.i .i64))), (18, .c (.ty (.i .i64)))], [.bw .ApiState [(2, .nl), (3, .nl)], .bw .ApiState [(2, .own 2), (3, .own 3)], .ar (.n .ApiTenantState), .ar (.n .ApiCellState)]⟩ (fun n v => state_New_l2 v.1.2.2.1 n { v.2.2.1.1 with Tenants := v.2.2.2.1, Cells := v.2.2.2.2.1 } v.1.2.2.2.1) fun rc_state_New_l2 => .z))) (.two (.two .z (.one (.lp ⟨[(2, .c (.pb 0 0)), (3, .c (.pb 1 0)), (30, .c (.ty (.i .i64))), (31, .c (.ty (.i .i64)))], [.bw .ApiState [(2, .nl), (3, .nl)], .bw .ApiState [(2, .own 2), (3, .own 3)], .ar (.n .ApiTenantState), .ar (.n .ApiCellState)]⟩ (fun n v => state_New_l1 v.1.2.2.1 n { v.2.2.1.1 with Tenants := v.2.2.2.1, Cells := v.2.2.2.2.1 } v.1.2.2.2.1) fun rc_state_New_l1 => .z))) .z)))) ok0 (vS vZ (vS vZ (vS (vS vZ (vB (vL fun _ => vZ))) (vS (vS vZ (vB (vL fun _ => vZ))) vZ))))
def s_load_count [Fuel] : TSpec := { f := 57, ps := ⟨[(0, .st .ApiConfig), (1, .st .ApiState)], []⟩, rs := ⟨[(0, .c (.ty (.i .i64)))], []⟩, β := Int, F := fun v => load_count v.1.1 v.1.2.1, g := (fun r => ((r, ()), ())), d := fun _ => default }
theorem load_count_ok [Fuel] : FnOk Tryz.prog s_load_count :=
  fnI 12 tmL [] [] Tryz.func57 (fun v => v.1.1) .z ok0 vZ
def s_load_active [Fuel] : TSpec := { f := 58, ps := ⟨[(0, .st .ApiTenantState)], []⟩, rs := ⟨[(0, .c (.ty .b))], []⟩, β := Bool, F := fun v => load_active v.1.1, g := (fun r => ((r, ()), ())), d := fun _ => default }
theorem load_active_ok [Fuel] : FnOk Tryz.prog s_load_active :=
  fnI 10 tmL [] [] Tryz.func58 (fun v => v.1.1) .z ok0 vZ
def s_load_add [Fuel] : TSpec := { f := 59, ps := ⟨[(0, .c (.own 0)), (1, .c (.ty (.i .i64))), (2, .c (.ty (.i .i64)))], [.ar (.i .i64)]⟩, rs := ⟨[], [.ar (.i .i64)]⟩, β := (List Int), F := fun v => load_add v.2.1 v.1.2.1 v.1.2.2.1, g := (fun r => ((), (r, ()))), d := fun v => v.2.1, dk := true, hd := fun _ _ => rfl }
theorem load_add_ok [Fuel] : FnOk Tryz.prog s_load_add :=
  fnI 21 tmL [] [] Tryz.func59 (fun v => v.2.1) .z ok0 vZ
def s_load_Booked_own0_0 [Fuel] : TSpec := { f := 38, ps := ⟨[(0, .st .ApiConfig), (1, .st .ApiState)], []⟩, rs := ⟨[(0, .c (.own 0))], [.ar (.i .i64)]⟩, β := (List Int), F := fun v => load_Booked v.1.1 v.1.2.1, g := (fun r => (((), ()), (r, ()))), d := fun _ => default }
theorem load_Booked_ok_own0_0 [Fuel] : FnOk Tryz.prog s_load_Booked_own0_0 :=
  fnI 60 tmL [s_load_count, s_load_active, s_load_add] [] Tryz.func38 (fun v => v.2.1) (.two .z (.two .z (.two (.two .z (.one (.lp ⟨[(2, .c (.pb 0 0)), (3, .c (.pb 1 0)), (5, .c (.own 2)), (15, .c (.ty (.i .i64))), (16, .c (.ty (.i .i64)))], [.bs .ApiConfig, .bs .ApiState, .ar (.i .i64)]⟩ (fun n v => load_Booked_l3 v.2.1 v.2.2.1 v.1.2.2.2.1 n v.2.2.2.1 v.1.2.2.2.2.1) fun rc_load_Booked_l3 => (.two .z (.two .z (.cut ⟨[(2, .c (.pb 0 0)), (3, .c (.pb 1 0)), (5, .c (.own 2)), (15, .c (.ty (.i .i64))), (16, .c (.ty (.i .i64)))], [.bs .ApiConfig, .bs .ApiState, .ar (.i .i64)]⟩ (fun v => load_Booked_k1 (fun y1 y2 => rc_load_Booked_l3 (((), ((), ((), (v.1.2.2.2.1, (y2, ()))))), (v.2.1, (v.2.2.1, (y1, ()))))) v.1.2.2.2.2.1 v.2.2.2.1) (.one (.two .z (.two .z (.two .z (.cut ⟨[(2, .c (.pb 0 0)), (3, .c (.pb 1 0)), (5, .c (.own 2)), (7, .c (.pb 3 0)), (8, .c (.pb 4 0)), (15, .c (.ty (.i .i64))), (16, .c (.ty (.i .i64)))], [.bs .ApiConfig, .bs .ApiState, .ar (.i .i64), .bs .ApiTenant, .bs .ApiTenantState]⟩ (fun v => load_Booked_k2 (fun y1 y2 => rc_load_Booked_l3 (((), ((), ((), (v.1.2.2.2.2.2.1, (y2, ()))))), (v.2.1, (v.2.2.1, (y1, ()))))) v.1.2.2.2.2.2.2.1 v.2.2.2.2.1 v.2.2.2.2.2.1 v.2.2.2.1) .z .z))))) .z)))))) .z))) (okC load_count_ok (okC load_active_ok (okC load_add_ok ok0))) (vS vZ (vS vZ (vS (vS vZ (vB (vL fun _ => (vS vZ (vS vZ (vC (vB (vS vZ (vS vZ (vS vZ (vC vZ vZ))))) vZ)))))) vZ)))
def s_load_Free [Fuel] : TSpec := { f := 16, ps := ⟨[(0, .st .ApiConfig), (1, .st .ApiState), (2, .c (.ty (.i .i64)))], []⟩, rs := ⟨[(0, .c (.ty (.i .i64)))], []⟩, β := Int, F := fun v => load_Free v.1.1 v.1.2.1 v.1.2.2.1, g := (fun r => ((r, ()), ())), d := fun _ => default }
theorem load_Free_ok [Fuel] : FnOk Tryz.prog s_load_Free :=
  fnI 29 tmL [s_load_Booked_own0_0] [] Tryz.func16 (fun v => v.1.1) .z (okC load_Booked_ok_own0_0 ok0) vZ
def s_shed_among [Fuel] : TSpec := { f := 42, ps := ⟨[(0, .st .ApiConfig), (1, .st .ApiState), (2, .c (.ty (.i .i64))), (3, .c (.ty .b))], []⟩, rs := ⟨[(0, .c (.ty (.l (.i .i64))))], []⟩, β := (List Int), F := fun v => shed_among v.1.1 v.1.2.1 v.1.2.2.1 v.1.2.2.2.1, g := (fun r => ((r, ()), ())), d := fun _ => default }
theorem shed_among_ok [Fuel] : FnOk Tryz.prog s_shed_among :=
  fnI 56 tmL [] [] Tryz.func42 (fun v => v.1.1) (.two .z (.two .z (.two .z (.two (.two .z (.one (.lp ⟨[(2, .c (.ty (.i .i64))), (3, .c (.ty .b)), (4, .c (.pb 0 0)), (9, .c (.own 1)), (22, .c (.ty (.l (.n .ApiTenantState)))), (23, .c (.ty (.i .i64))), (24, .c (.ty (.i .i64)))], [.bs .ApiConfig, .ar (.i .i64)]⟩ (fun n v => shed_among_l2 v.2.1 v.1.1 v.1.2.1 v.1.2.2.2.2.1 v.1.2.2.2.2.2.1 n v.2.2.1 v.1.2.2.2.2.2.2.1) fun rc_shed_among_l2 => (.two .z (.two .z (.cut ⟨[(2, .c (.ty (.i .i64))), (3, .c (.ty .b)), (4, .c (.pb 0 0)), (9, .c (.own 1)), (22, .c (.ty (.l (.n .ApiTenantState)))), (23, .c (.ty (.i .i64))), (24, .c (.ty (.i .i64)))], [.bs .ApiConfig, .ar (.i .i64)]⟩ (fun v => shed_among_k1 (fun y1 y2 => rc_shed_among_l2 ((v.1.1, (v.1.2.1, ((), ((), (v.1.2.2.2.2.1, (v.1.2.2.2.2.2.1, (y2, ()))))))), (v.2.1, (y1, ())))) v.1.2.2.2.2.2.2.1 v.2.2.1) .z .z)))))) .z)))) ok0 (vS vZ (vS vZ (vS vZ (vS (vS vZ (vB (vL fun _ => (vS vZ (vS vZ (vC vZ vZ)))))) vZ))))
def s_cmp_isNaN_int [Fuel] : TSpec := { f := 100, ps := ⟨[(0, .c (.ty (.i .i64)))], []⟩, rs := ⟨[(0, .c (.ty .b))], []⟩, β := Bool, F := fun v => cmp_isNaN_int v.1.1, g := (fun r => ((r, ()), ())), d := fun _ => default }
theorem cmp_isNaN_int_ok [Fuel] : FnOk Tryz.prog s_cmp_isNaN_int :=
  fnI 6 tmL [] [] Tryz.func100 (fun v => v.1.1) .z ok0 vZ
def s_cmp_Compare_int [Fuel] : TSpec := { f := 49, ps := ⟨[(0, .c (.ty (.i .i64))), (1, .c (.ty (.i .i64)))], []⟩, rs := ⟨[(0, .c (.ty (.i .i64)))], []⟩, β := Int, F := fun v => cmp_Compare_int v.1.1 v.1.2.1, g := (fun r => ((r, ()), ())), d := fun _ => default }
theorem cmp_Compare_int_ok [Fuel] : FnOk Tryz.prog s_cmp_Compare_int :=
  fnI 20 tmL [s_cmp_isNaN_int] [] Tryz.func49 (fun v => v.1.1) .z (okC cmp_isNaN_int_ok ok0) vZ
def s_cmp_Or_int [Fuel] : TSpec := { f := 48, ps := ⟨[(0, .c (.ty (.l (.i .i64))))], []⟩, rs := ⟨[(0, .c (.ty (.i .i64)))], []⟩, β := Int, F := fun v => cmp_Or_int v.1.1, g := (fun r => ((r, ()), ())), d := fun _ => default }
theorem cmp_Or_int_ok [Fuel] : FnOk Tryz.prog s_cmp_Or_int :=
  fnI 18 tmL [] [] Tryz.func48 (fun v => v.1.1) (.two .z (.two .z (.two (.two .z (.one (.lp ⟨[(3, .c (.ty (.i .i64))), (6, .c (.ty (.l (.i .i64)))), (7, .c (.ty (.i .i64))), (8, .c (.ty (.i .i64)))], []⟩ (fun n v => cmp_Or_int_l1 v.1.2.1 v.1.1 v.1.2.2.1 n v.1.2.2.2.1) fun rc_cmp_Or_int_l1 => .z))) .z))) ok0 (vS vZ (vS vZ (vS (vS vZ (vB (vL fun _ => vZ))) vZ)))
def s_shed_Order_1 [Fuel] : TSpec := { f := 47, ps := ⟨[(0, .c (.ty (.i .i64))), (1, .c (.ty (.i .i64))), (2, .c (.rp (.n .ApiConfig)))], []⟩, rs := ⟨[(0, .c (.ty (.i .i64)))], []⟩, β := Int, F := fun v => shed_Order_1 v.1.1 v.1.2.1 v.1.2.2.1, g := (fun r => ((r, ()), ())), d := fun _ => default }
theorem shed_Order_1_ok [Fuel] : FnOk Tryz.prog s_shed_Order_1 :=
  fnI 37 tmL [s_cmp_Compare_int, s_cmp_Or_int] [] Tryz.func47 (fun v => v.1.1) .z (okC cmp_Compare_int_ok (okC cmp_Or_int_ok ok0)) vZ
def s_sort_shed_Order_1 [Fuel] : TSpec := { f := 46, ps := ⟨[(0, .c (.own 0)), (1, .c (.fn 47 [1]))], [.ar (.i .i64), .bs .ApiConfig]⟩, rs := ⟨[], [.ar (.i .i64), .bs .ApiConfig]⟩, β := ((List Int) × ApiConfig), F := fun v => sort_shed_Order_1 v.2.1 v.2.2.1, g := (fun r => ((), (r.1, (r.2, ())))), d := fun v => (v.2.1, v.2.2.1), dk := true, hd := fun _ _ => rfl }
theorem sort_shed_Order_1_ok [Fuel] : FnOk Tryz.prog s_sort_shed_Order_1 :=
  sortI_ok (n := .ApiConfig) (cmp := fun c x y => shed_Order_1 x y c) Tryz.lays46 rfl (by intro vs w; rfl) (by intro vs w; rfl) (fun c x y r h => shed_Order_1_ok.2 ((x, (y, (c, ()))), ()) r h)
def s_slices_Compact_int_int_own0_0 [Fuel] : TSpec := { f := 50, ps := ⟨[(0, .c (.own 0))], [.ar (.i .i64)]⟩, rs := ⟨[(0, .c (.own 1))], [.dd, .ar (.i .i64)]⟩, β := (List Int), F := fun v => slices_Compact_int_int v.2.1, g := (fun r => (((), ()), ((), (r, ())))), d := fun _ => default }
theorem slices_Compact_int_int_ok_own0_0 [Fuel] : FnOk Tryz.prog s_slices_Compact_int_int_own0_0 :=
  compI_ok Tryz.lays50 rfl (by intro vs w; rfl)
def s_shed_Order_own0_0 [Fuel] : TSpec := { f := 26, ps := ⟨[(0, .st .ApiConfig), (1, .c (.ty (.l (.i .i64))))], []⟩, rs := ⟨[(0, .c (.own 0))], [.ar (.i .i64)]⟩, β := (List Int), F := fun v => shed_Order v.1.1 v.1.2.1, g := (fun r => (((), ()), (r, ()))), d := fun _ => default }
theorem shed_Order_ok_own0_0 [Fuel] : FnOk Tryz.prog s_shed_Order_own0_0 :=
  fnI 33 tmL [s_sort_shed_Order_1, s_slices_Compact_int_int_own0_0] [] Tryz.func26 (fun v => v.2.1) (.two .z (.two .z (.two (.two .z (.one (.lp ⟨[(2, .c (.pb 0 0)), (5, .c (.own 1)), (8, .c (.ty (.l (.i .i64)))), (9, .c (.ty (.i .i64))), (10, .c (.ty (.i .i64)))], [.bs .ApiConfig, .ar (.i .i64)]⟩ (fun n v => shed_Order_l2 v.2.1 v.1.2.2.1 v.1.2.2.2.1 n v.2.2.1 v.1.2.2.2.2.1) fun rc_shed_Order_l2 => (.two .z (.two .z (.cut ⟨[(2, .c (.pb 0 0)), (5, .c (.own 1)), (8, .c (.ty (.l (.i .i64)))), (9, .c (.ty (.i .i64))), (10, .c (.ty (.i .i64)))], [.bs .ApiConfig, .ar (.i .i64)]⟩ (fun v => shed_Order_k1 (fun y1 y2 => rc_shed_Order_l2 (((), ((), (v.1.2.2.1, (v.1.2.2.2.1, (y2, ()))))), (v.2.1, (y1, ())))) v.1.2.2.2.2.1 v.2.2.1) .z .z)))))) .z))) (okC sort_shed_Order_1_ok (okC slices_Compact_int_int_ok_own0_0 ok0)) (vS vZ (vS vZ (vS (vS vZ (vB (vL fun _ => (vS vZ (vS vZ (vC vZ vZ)))))) vZ)))
def s_shed_At_own0_0 [Fuel] : TSpec := { f := 34, ps := ⟨[(0, .st .ApiConfig), (1, .st .ApiState), (2, .c (.ty (.i .i64)))], []⟩, rs := ⟨[(0, .c (.own 0))], [.ar (.i .i64)]⟩, β := (List Int), F := fun v => shed_At v.1.1 v.1.2.1 v.1.2.2.1, g := (fun r => (((), ()), (r, ()))), d := fun _ => default }
theorem shed_At_ok_own0_0 [Fuel] : FnOk Tryz.prog s_shed_At_own0_0 :=
  fnI 13 tmL [s_shed_among, s_shed_Order_own0_0] [] Tryz.func34 (fun v => v.2.1) .z (okC shed_among_ok (okC shed_Order_ok_own0_0 ok0)) vZ
def s_shed_Choose_own0_0 [Fuel] : TSpec := { f := 13, ps := ⟨[(0, .st .ApiConfig), (1, .st .ApiState), (2, .c (.ty (.i .i64))), (3, .c (.ty (.i .i64))), (4, .c (.ty (.i .i64)))], []⟩, rs := ⟨[(0, .c (.own 0)), (1, .c (.ty .b))], [.ar (.i .i64)]⟩, β := ((List Int) × Bool), F := fun v => shed_Choose v.1.1 v.1.2.1 v.1.2.2.1 v.1.2.2.2.1 v.1.2.2.2.2.1, g := (fun r => (((), (r.2, ())), (r.1, ()))), d := fun _ => default }
theorem shed_Choose_ok_own0_0 [Fuel] : FnOk Tryz.prog s_shed_Choose_own0_0 :=
  fnI 60 tmL [s_load_Free, s_shed_At_own0_0] [] Tryz.func13 (fun v => (v.2.1, v.1.2.1)) (.two .z (.two .z (.two .z (.two .z (.two .z (.two (.two .z (.one (.lp ⟨[(3, .c (.ty (.i .i64))), (4, .c (.ty (.i .i64))), (5, .c (.pb 0 0)), (12, .c (.ty (.i .i64))), (13, .c (.own 1)), (14, .c (.ty (.i .i64))), (27, .c (.own 2)), (28, .c (.ty (.i .i64))), (29, .c (.ty (.i .i64)))], [.bs .ApiConfig, .ar (.i .i64), .ar (.i .i64)]⟩ (fun n v => shed_Choose_l2 v.2.1 v.1.1 v.1.2.1 v.1.2.2.2.1 v.2.2.2.1 v.1.2.2.2.2.2.2.2.1 n v.2.2.1 v.1.2.2.2.2.2.1 v.1.2.2.2.2.2.2.2.2.1) fun rc_shed_Choose_l2 => (.two .z (.two .z (.cut ⟨[(3, .c (.ty (.i .i64))), (4, .c (.ty (.i .i64))), (5, .c (.pb 0 0)), (12, .c (.ty (.i .i64))), (13, .c (.own 1)), (14, .c (.ty (.i .i64))), (27, .c (.own 2)), (28, .c (.ty (.i .i64))), (29, .c (.ty (.i .i64)))], [.bs .ApiConfig, .ar (.i .i64), .ar (.i .i64)]⟩ (fun v => shed_Choose_k1 (fun y1 y2 y3 => rc_shed_Choose_l2 ((v.1.1, (v.1.2.1, ((), (v.1.2.2.2.1, ((), (y2, ((), (v.1.2.2.2.2.2.2.2.1, (y3, ()))))))))), (v.2.1, (y1, (v.2.2.2.1, ()))))) v.1.2.2.2.2.2.2.2.2.1 v.2.2.1 v.1.2.2.2.2.2.1) .z .z)))))) .z)))))) (okC load_Free_ok (okC shed_At_ok_own0_0 ok0)) (vS vZ (vS vZ (vS vZ (vS vZ (vS vZ (vS (vS vZ (vB (vL fun _ => (vS vZ (vS vZ (vC vZ vZ)))))) vZ))))))
def s_ref24_SameInts [Fuel] : TSpec := { f := 15, ps := ⟨[(0, .c (.ty (.l (.i .i64)))), (1, .c (.ty (.l (.i .i64))))], []⟩, rs := ⟨[(0, .c (.ty .b))], []⟩, β := Bool, F := fun v => ref24_SameInts v.1.1 v.1.2.1, g := (fun r => ((r, ()), ())), d := fun _ => default }
theorem ref24_SameInts_ok [Fuel] : FnOk Tryz.prog s_ref24_SameInts :=
  fnI 26 tmL [] [] Tryz.func15 (fun v => v.1.1) (.two .z (.two .z (.two (.two .z (.one (.lp ⟨[(0, .c (.ty (.l (.i .i64)))), (1, .c (.ty (.l (.i .i64)))), (12, .c (.ty (.i .i64))), (13, .c (.ty (.i .i64)))], []⟩ (fun n v => ref24_SameInts_l1 v.1.1 v.1.2.1 v.1.2.2.1 n v.1.2.2.2.1) fun rc_ref24_SameInts_l1 => .z))) .z))) ok0 (vS vZ (vS vZ (vS (vS vZ (vB (vL fun _ => vZ))) vZ)))
def s_shed_Fair [Fuel] : TSpec := { f := 19, ps := ⟨[(0, .st .ApiConfig), (1, .st .ApiState)], []⟩, rs := ⟨[(0, .c (.ty .b))], []⟩, β := Bool, F := fun v => shed_Fair v.1.1 v.1.2.1, g := (fun r => ((r, ()), ())), d := fun _ => default }
theorem shed_Fair_ok [Fuel] : FnOk Tryz.prog s_shed_Fair :=
  fnI 72 tmL [s_load_Free, s_shed_among] [] Tryz.func19 (fun v => v.1.1) (.two .z (.two (.two .z (.one (.lp ⟨[(2, .c (.pb 0 0)), (3, .c (.pb 1 0)), (13, .c (.ty (.i .i64))), (14, .c (.ty (.i .i64)))], [.bs .ApiConfig, .bs .ApiState]⟩ (fun n v => shed_Fair_l3 v.2.1 v.2.2.1 v.1.2.2.1 n v.1.2.2.2.1) fun rc_shed_Fair_l3 => (.two .z (.two .z (.two (.one (.two .z (.two .z (.two .z (.one (.lp ⟨[(2, .c (.pb 0 0)), (3, .c (.pb 1 0)), (5, .c (.ty (.i .i64))), (6, .c (.ty (.i .i64))), (13, .c (.ty (.i .i64))), (14, .c (.ty (.i .i64))), (24, .c (.ty (.l (.i .i64)))), (25, .c (.ty (.i .i64))), (26, .c (.ty (.i .i64)))], [.bs .ApiConfig, .bs .ApiState]⟩ (fun n v => shed_Fair_l2 (fun y1 => rc_shed_Fair_l3 (((), ((), (v.1.2.2.2.2.1, (y1, ())))), (v.2.1, (v.2.2.1, ())))) v.2.1 v.2.2.1 v.1.2.2.1 v.1.2.2.2.1 v.1.2.2.2.2.2.2.1 v.1.2.2.2.2.2.1 v.1.2.2.2.2.2.2.2.1 n v.1.2.2.2.2.2.2.2.2.1) fun rc_shed_Fair_l2 => (.two .z (.two .z (.two (.one (.two .z (.two .z (.one (.lp ⟨[(2, .c (.pb 0 0)), (3, .c (.pb 1 0)), (5, .c (.ty (.i .i64))), (6, .c (.ty (.i .i64))), (8, .c (.ty (.i .i64))), (13, .c (.ty (.i .i64))), (14, .c (.ty (.i .i64))), (24, .c (.ty (.l (.i .i64)))), (25, .c (.ty (.i .i64))), (26, .c (.ty (.i .i64))), (33, .c (.ty (.l (.i .i64)))), (34, .c (.ty (.i .i64))), (35, .c (.ty (.i .i64)))], [.bs .ApiConfig, .bs .ApiState]⟩ (fun n v => shed_Fair_l1 (fun y1 => rc_shed_Fair_l2 (((), ((), (v.1.2.2.1, (v.1.2.2.2.1, (v.1.2.2.2.2.2.1, (v.1.2.2.2.2.2.2.1, (v.1.2.2.2.2.2.2.2.1, (v.1.2.2.2.2.2.2.2.2.1, (y1, ()))))))))), (v.2.1, (v.2.2.1, ())))) v.2.1 v.1.2.2.2.1 v.1.2.2.2.2.2.2.2.2.2.1 v.1.2.2.2.2.1 v.1.2.2.2.2.2.2.2.2.2.2.1 v.1.2.2.2.2.2.2.2.2.2.2.2.1 n v.1.2.2.2.2.2.2.2.2.2.2.2.2.1) fun rc_shed_Fair_l1 => .z))))) .z))))))))) .z)))))) .z)) (okC load_Free_ok (okC shed_among_ok ok0)) (vS vZ (vS (vS vZ (vB (vL fun _ => (vS vZ (vS vZ (vS (vB (vS vZ (vS vZ (vS vZ (vB (vL fun _ => (vS vZ (vS vZ (vS (vB (vS vZ (vS vZ (vB (vL fun _ => vZ))))) vZ))))))))) vZ)))))) vZ))
end Go.Proofs
