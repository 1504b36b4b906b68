/-
  DERIVED: THE SHELF's CONTRACTS AT THIS DUMP, IN PLAIN WORDS (tools/lay-plain.mjs out of 'ZzLaysTryz.lean', which tools/lay-shelf.mjs wrote): THE SAME DECLARATIONS UNDER THE SAME NAMES: 'import', 'namespace', 'open', 'def', 'theorem' AND NOTHING ELSE: no command of the shelf's: FOR A HAND-IN. Each laying: the table of numbers ('.._ren') and one theorem, a field a fact of the dump's own or the kernel's comparison; each contract: ONE APPLICATION.
-/
import Derived.Shelf.SlSortCmp.NoneTotal
import Derived.Shelf.Slices.CompactI
import Derived.Test.YtolpohnkmgigjaaGreatProg
import Derived.Test.YtolpohnkmgigjaaGreatP5a4479b47
namespace Go.Proofs
open Go.Shelf
def Tryz.lays183_ren : Go.Shelf.Ren := ⟨fun | 6 => 183 | 15 => 209 | 14 => 233 | 28 => 250 | 29 => 251 | 20 => 265 | 21 => 266 | 22 => 267 | 23 => 268 | 24 => 269 | 25 => 270 | 26 => 271 | 27 => 272 | 46 => 288 | 47 => 277 | 48 => 278 | 49 => 289 | 50 => 290 | 57 => 293 | n => n, fun | 22 => 22 | 24 => 3 | 25 => 37 | 3 => 3 | 39 => 116 | 0 => 0 | 53 => 258 | 55 => 260 | 4 => 4 | 46 => 251 | 45 => 250 | 50 => 255 | 5 => 5 | 9 => 9 | 66 => 283 | 70 => 287 | 76 => 296 | 77 => 297 | n => n, fun | n => n⟩
theorem Tryz.lays183 : Go.Proofs.SlLaysF.n6 Tryz.prog Tryz.lays183_ren := {
  mixed := by kernel_rfl
  f6 := ⟨Tryz.f183.name, by decide, Tryz.func183.trans (congrArg some (by kernel_rfl))⟩
  f14 := ⟨Tryz.f233.name, by decide, Tryz.func233.trans (congrArg some (by kernel_rfl))⟩
  f15 := Tryz.func209.trans (congrArg some (by kernel_rfl))
  f20 := ⟨Tryz.f265.name, by decide, Tryz.func265.trans (congrArg some (by kernel_rfl))⟩
  f21 := ⟨Tryz.f266.name, by decide, Tryz.func266.trans (congrArg some (by kernel_rfl))⟩
  f22 := ⟨Tryz.f267.name, by decide, Tryz.func267.trans (congrArg some (by kernel_rfl))⟩
  f23 := ⟨Tryz.f268.name, by decide, Tryz.func268.trans (congrArg some (by kernel_rfl))⟩
  f24 := ⟨Tryz.f269.name, by decide, Tryz.func269.trans (congrArg some (by kernel_rfl))⟩
  f25 := ⟨Tryz.f270.name, by decide, Tryz.func270.trans (congrArg some (by kernel_rfl))⟩
  f26 := ⟨Tryz.f271.name, by decide, Tryz.func271.trans (congrArg some (by kernel_rfl))⟩
  f27 := ⟨Tryz.f272.name, by decide, Tryz.func272.trans (congrArg some (by kernel_rfl))⟩
  f28 := Tryz.func250.trans (congrArg some (by kernel_rfl))
  f29 := Tryz.func251.trans (congrArg some (by kernel_rfl))
  f46 := ⟨Tryz.f288.name, by decide, Tryz.func288.trans (congrArg some (by kernel_rfl))⟩
  f47 := Tryz.func277.trans (congrArg some (by kernel_rfl))
  f48 := Tryz.func278.trans (congrArg some (by kernel_rfl))
  f49 := ⟨Tryz.f289.name, by decide, Tryz.func289.trans (congrArg some (by kernel_rfl))⟩
  f50 := ⟨Tryz.f290.name, by decide, Tryz.func290.trans (congrArg some (by kernel_rfl))⟩
  f57 := ⟨Tryz.f293.name, by decide, Tryz.func293.trans (congrArg some (by kernel_rfl))⟩
  t0 := Tryz.underlying0
  a0 := Tryz.isAgg0
  z0 := Tryz.sizeOf0
  v0 := Tryz.zeroValue0
  t3 := Tryz.underlying3
  a3 := Tryz.isAgg3
  z3 := Tryz.sizeOf3
  v3 := Tryz.zeroValue3
  t4 := Tryz.underlying4
  a4 := Tryz.isAgg4
  z4 := Tryz.sizeOf4
  v4 := Tryz.zeroValue4
  t5 := Tryz.underlying5
  a5 := Tryz.isAgg5
  z5 := Tryz.sizeOf5
  v5 := Tryz.zeroValue5
  t9 := Tryz.underlying9
  a9 := Tryz.isAgg9
  z9 := Tryz.sizeOf9
  v9 := Tryz.zeroValue9
  t22 := Tryz.underlying22
  a22 := Tryz.isAgg22
  z22 := Tryz.sizeOf22
  v22 := Tryz.zeroValue22
  a24 := Tryz.isAgg3
  z24 := Tryz.sizeOf3
  t25 := Tryz.underlying37
  a25 := Tryz.isAgg37
  z25 := Tryz.sizeOf37
  v25 := Tryz.zeroValue37
  t39 := Tryz.underlying116
  a39 := Tryz.isAgg116
  z39 := Tryz.sizeOf116
  v39 := Tryz.zeroValue116
  t45 := Tryz.underlying250
  a45 := Tryz.isAgg250
  z45 := Tryz.sizeOf250
  v45 := Tryz.zeroValue250
  t46 := Tryz.underlying251
  a46 := Tryz.isAgg251
  z46 := Tryz.sizeOf251
  v46 := Tryz.zeroValue251
  t50 := Tryz.underlying255
  a50 := Tryz.isAgg255
  z50 := Tryz.sizeOf255
  v50 := Tryz.zeroValue255
  t53 := Tryz.underlying258
  a53 := Tryz.isAgg258
  z53 := Tryz.sizeOf258
  v53 := Tryz.zeroValue258
  t55 := Tryz.underlying260
  a55 := Tryz.isAgg260
  z55 := Tryz.sizeOf260
  v55 := Tryz.zeroValue260
  t66 := Tryz.underlying283
  a66 := Tryz.isAgg283
  z66 := Tryz.sizeOf283
  v66 := Tryz.zeroValue283
  t70 := Tryz.underlying287
  a70 := Tryz.isAgg287
  z70 := Tryz.sizeOf287
  v70 := Tryz.zeroValue287
  t76 := Tryz.underlying296
  a76 := Tryz.isAgg296
  z76 := Tryz.sizeOf296
  v76 := Tryz.zeroValue296
  t77 := Tryz.underlying297
  a77 := Tryz.isAgg297
  z77 := Tryz.sizeOf297
  v77 := Tryz.zeroValue297 }
def Tryz.lays140_ren : Go.Shelf.Ren := ⟨fun | 20 => 140 | n => n, fun | 22 => 22 | 3 => 3 | 4 => 4 | 0 => 0 | n => n, fun | n => n⟩
theorem Tryz.lays140 : Go.Proofs.Lays2.n20 Tryz.prog Tryz.lays140_ren := {
  mixed := by kernel_rfl
  f20 := Tryz.func140.trans (congrArg some (by kernel_rfl))
  t0 := Tryz.underlying0
  a0 := Tryz.isAgg0
  z0 := Tryz.sizeOf0
  v0 := Tryz.zeroValue0
  t3 := Tryz.underlying3
  a3 := Tryz.isAgg3
  z3 := Tryz.sizeOf3
  v3 := Tryz.zeroValue3
  t4 := Tryz.underlying4
  a4 := Tryz.isAgg4
  z4 := Tryz.sizeOf4
  v4 := Tryz.zeroValue4
  t22 := Tryz.underlying22
  a22 := Tryz.isAgg22
  z22 := Tryz.sizeOf22
  v22 := Tryz.zeroValue22
  i3 := by kernel_rfl }
end Go.Proofs
namespace Go.Proofs
open Go Go.AM Go.CP Go.RowKit
set_option linter.unusedVariables false
set_option maxRecDepth 100000
def tmL : List (Nat × Ty) := [(22, (.i .i64)), (25, (.n .ApiZone)), (26, (.n .ApiCell)), (27, (.n .ApiTenant)), (28, (.n .ApiVersion)), (32, (.n .ApiTenantState)), (33, (.n .ApiCellState)), (53, (.n .ApiStep)), (61, (.l (.n .ApiStep))), (72, (.n .ApiEntry)), (141, (.n .EvacplanSeat)), (302, .s)]
def s_make_New : TSpec := { f := 69, ps := ⟨[(0, .c (.ty (.l (.i .i64))))], []⟩, rs := ⟨[(0, .c (.pb 0 0))], [.bs .MakeTape]⟩, β := MakeTape, F := fun v => make_New v.1.1, g := (fun r => (((), ()), (r, ()))), d := fun _ => default }
theorem make_New_ok [Fuel] : FnOk Tryz.prog s_make_New :=
  fnI 6 tmL [] [] Tryz.func69 (fun v => v.2.1) .z ok0 vZ
def s_make_Mod : TSpec := { f := 145, ps := ⟨[(0, .c (.ty (.i .i64))), (1, .c (.ty (.i .i64)))], []⟩, rs := ⟨[(0, .c (.ty (.i .i64)))], []⟩, β := Int, F := fun v => make_Mod v.1.1 v.1.2.1, g := (fun r => ((r, ()), ())), d := fun _ => default }
theorem make_Mod_ok [Fuel] : FnOk Tryz.prog s_make_Mod :=
  fnI 12 tmL [] [] Tryz.func145 (fun v => v.1.1) .z ok0 vZ
def s_make_Tape_Next : TSpec := { f := 71, ps := ⟨[(0, .c (.pb 0 0)), (1, .c (.ty (.i .i64)))], [.bs .MakeTape]⟩, rs := ⟨[(0, .c (.ty (.i .i64)))], [.bs .MakeTape]⟩, β := (Int × MakeTape), F := fun v => make_Tape_Next v.2.1 v.1.2.1, g := (fun r => ((r.1, ()), (r.2, ()))), d := fun v => (default, v.2.1), dk := true, hd := fun _ _ => rfl }
theorem make_Tape_Next_ok [Fuel] : FnOk Tryz.prog s_make_Tape_Next :=
  fnI 53 tmL [s_make_Mod] [] Tryz.func71 (fun v => (v.1.1, v.2.1)) .z (okC make_Mod_ok ok0) vZ
def s_make_Between : TSpec := { f := 70, ps := ⟨[(0, .c (.ty (.i .i64))), (1, .c (.ty (.i .i64))), (2, .c (.ty (.i .i64)))], []⟩, rs := ⟨[(0, .c (.ty (.i .i64)))], []⟩, β := Int, F := fun v => make_Between v.1.1 v.1.2.1 v.1.2.2.1, g := (fun r => ((r, ()), ())), d := fun _ => default }
theorem make_Between_ok [Fuel] : FnOk Tryz.prog s_make_Between :=
  fnI 15 tmL [s_make_Mod] [] Tryz.func70 (fun v => v.1.1) .z (okC make_Mod_ok ok0) vZ
def s_make_Tape_Range : TSpec := { f := 72, ps := ⟨[(0, .c (.pb 0 0)), (1, .c (.ty (.i .i64))), (2, .c (.ty (.i .i64)))], [.bs .MakeTape]⟩, rs := ⟨[(0, .c (.ty (.i .i64)))], [.bs .MakeTape]⟩, β := (Int × MakeTape), F := fun v => make_Tape_Range v.2.1 v.1.2.1 v.1.2.2.1, g := (fun r => ((r.1, ()), (r.2, ()))), d := fun v => (default, v.2.1), dk := true, hd := fun _ _ => rfl }
theorem make_Tape_Range_ok [Fuel] : FnOk Tryz.prog s_make_Tape_Range :=
  fnI 15 tmL [s_make_Tape_Next] [] Tryz.func72 (fun v => (v.1.1, v.2.1)) .z (okC make_Tape_Next_ok ok0) vZ
def s_make_Tape_Yes : TSpec := { f := 73, ps := ⟨[(0, .c (.pb 0 0)), (1, .c (.ty (.i .i64)))], [.bs .MakeTape]⟩, rs := ⟨[(0, .c (.ty .b))], [.bs .MakeTape]⟩, β := (Bool × MakeTape), F := fun v => make_Tape_Yes v.2.1 v.1.2.1, g := (fun r => ((r.1, ()), (r.2, ()))), d := fun v => (default, v.2.1), dk := true, hd := fun _ _ => rfl }
theorem make_Tape_Yes_ok [Fuel] : FnOk Tryz.prog s_make_Tape_Yes :=
  fnI 9 tmL [s_make_Tape_Next] [] Tryz.func73 (fun v => (v.1.1, v.2.1)) .z (okC make_Tape_Next_ok ok0) vZ
def s_make_Config [Fuel] : TSpec := { f := 17, ps := ⟨[(0, .c (.ty (.l (.i .i64))))], []⟩, rs := ⟨[(0, .st .ApiConfig)], []⟩, β := ApiConfig, F := fun v => make_Config v.1.1, g := (fun r => ((r, ()), ())), d := fun _ => default }
theorem make_Config_ok [Fuel] : FnOk Tryz.prog s_make_Config :=
  fnI 182 tmL [s_make_New, s_make_Tape_Next, s_make_Between, s_make_Tape_Range, s_make_Tape_Yes] [] Tryz.func17 (fun v => v.1.1) (.two .z (.two .z (.two .z (.two (.two .z (.one (.lp ⟨[(2, .c (.pb 0 0)), (3, .c (.pb 1 0)), (4, .c (.pb 2 0)), (5, .c (.ty (.i .i64)))], [.bw .ApiConfig [(1, .nl), (2, .nl), (3, .nl), (4, .nl), (5, .nl), (6, .nl)], .bs .MakeTape, .bw .ApiConfig [(1, .own 3), (2, .nl), (3, .nl), (4, .nl), (5, .nl), (6, .nl)], .ar (.n .ApiZone)]⟩ (fun n v => make_Config_l7 n v.2.2.1 { v.2.2.2.1.1 with Zones := v.2.2.2.2.1, Cells := [], Tenants := [], Versions := [], Replicas := [], Observers := [] } v.1.2.2.2.1) fun rc_make_Config_l7 => .z))) (.two (.two .z (.one (.lp ⟨[(2, .c (.pb 0 0)), (3, .c (.pb 1 0)), (4, .c (.pb 2 0)), (6, .c (.ty (.i .i64)))], [.bw .ApiConfig [(1, .nl), (2, .nl), (3, .nl), (4, .nl), (5, .nl), (6, .nl)], .bs .MakeTape, .bw .ApiConfig [(1, .own 3), (2, .own 4), (3, .nl), (4, .nl), (5, .nl), (6, .nl)], .ar (.n .ApiZone), .ar (.n .ApiCell)]⟩ (fun n v => make_Config_l6 n v.2.2.1 { v.2.2.2.1.1 with Zones := v.2.2.2.2.1, Cells := v.2.2.2.2.2.1, Tenants := [], Versions := [], Replicas := [], Observers := [] } v.1.2.2.2.1) fun rc_make_Config_l6 => .z))) (.two (.two .z (.one (.lp ⟨[(2, .c (.pb 0 0)), (3, .c (.pb 1 0)), (4, .c (.pb 2 0)), (7, .c (.ty (.i .i64)))], [.bw .ApiConfig [(1, .nl), (2, .nl), (3, .nl), (4, .nl), (5, .nl), (6, .nl)], .bs .MakeTape, .bw .ApiConfig [(1, .own 3), (2, .own 4), (3, .own 5), (4, .nl), (5, .nl), (6, .nl)], .ar (.n .ApiZone), .ar (.n .ApiCell), .ar (.n .ApiTenant)]⟩ (fun n v => make_Config_l5 n v.2.2.1 { v.2.2.2.1.1 with Zones := v.2.2.2.2.1, Cells := v.2.2.2.2.2.1, Tenants := v.2.2.2.2.2.2.1, Versions := [], Replicas := [], Observers := [] } v.1.2.2.2.1) fun rc_make_Config_l5 => (.two .z (.two (.one (.two .z (.two .z (.cut ⟨[(2, .c (.pb 0 0)), (3, .c (.pb 1 0)), (4, .c (.pb 2 0)), (7, .c (.ty (.i .i64))), (9, .c (.pb 6 0))], [.bw .ApiConfig [(1, .nl), (2, .nl), (3, .nl), (4, .nl), (5, .nl), (6, .nl)], .bs .MakeTape, .bw .ApiConfig [(1, .own 3), (2, .own 4), (3, .own 5), (4, .nl), (5, .nl), (6, .nl)], .ar (.n .ApiZone), .ar (.n .ApiCell), .ar (.n .ApiTenant), .bs .ApiTenant]⟩ (fun v => make_Config_k1 (fun y1 y2 y3 => rc_make_Config_l5 (((), ((), ((), (y3, ())))), (({ v.2.1.1 with Zones := [], Cells := [], Tenants := [], Versions := [], Replicas := [], Observers := [] }, ((), ((), ((), ((), ((), ((), ()))))))), (y1, ((y2, ((), ((), ((), ((), ((), ((), ()))))))), (y2.Zones, (y2.Cells, (y2.Tenants, ())))))))) { v.2.2.2.1.1 with Zones := v.2.2.2.2.1, Cells := v.2.2.2.2.2.1, Tenants := v.2.2.2.2.2.2.1, Versions := [], Replicas := [], Observers := [] } v.1.2.2.2.1 v.2.2.1 v.2.2.2.2.2.2.2.1) .z .z)))) .z))))) (.two .z (.two (.two .z (.one (.lp ⟨[(2, .c (.pb 0 0)), (3, .c (.pb 1 0)), (4, .c (.pb 2 0)), (10, .c (.ty (.i .i64)))], [.bw .ApiConfig [(1, .nl), (2, .nl), (3, .nl), (4, .nl), (5, .nl), (6, .nl)], .bs .MakeTape, .bw .ApiConfig [(1, .own 3), (2, .own 4), (3, .own 5), (4, .own 6), (5, .nl), (6, .nl)], .ar (.n .ApiZone), .ar (.n .ApiCell), .ar (.n .ApiTenant), .ar (.n .ApiVersion)]⟩ (fun n v => make_Config_l4 n v.2.2.1 { v.2.2.2.1.1 with Zones := v.2.2.2.2.1, Cells := v.2.2.2.2.2.1, Tenants := v.2.2.2.2.2.2.1, Versions := v.2.2.2.2.2.2.2.1, Replicas := [], Observers := [] } v.1.2.2.2.1) fun rc_make_Config_l4 => .z))) (.two (.two .z (.one (.lp ⟨[(2, .c (.pb 0 0)), (3, .c (.pb 1 0)), (4, .c (.pb 2 0)), (12, .c (.ty (.i .i64)))], [.bw .ApiConfig [(1, .nl), (2, .nl), (3, .nl), (4, .nl), (5, .nl), (6, .nl)], .bs .MakeTape, .bw .ApiConfig [(1, .own 3), (2, .own 4), (3, .own 5), (4, .own 6), (5, .own 7), (6, .nl)], .ar (.n .ApiZone), .ar (.n .ApiCell), .ar (.n .ApiTenant), .ar (.n .ApiVersion), .ar (.i .i64)]⟩ (fun n v => make_Config_l3 n v.2.2.1 { v.2.2.2.1.1 with Zones := v.2.2.2.2.1, Cells := v.2.2.2.2.2.1, Tenants := v.2.2.2.2.2.2.1, Versions := v.2.2.2.2.2.2.2.1, Replicas := v.2.2.2.2.2.2.2.2.1, Observers := [] } v.1.2.2.2.1) fun rc_make_Config_l3 => .z))) (.two (.two .z (.one (.lp ⟨[(2, .c (.pb 0 0)), (3, .c (.pb 1 0)), (4, .c (.pb 2 0)), (13, .c (.ty (.i .i64)))], [.bw .ApiConfig [(1, .nl), (2, .nl), (3, .nl), (4, .nl), (5, .nl), (6, .nl)], .bs .MakeTape, .bw .ApiConfig [(1, .own 3), (2, .own 4), (3, .own 5), (4, .own 6), (5, .own 7), (6, .own 8)], .ar (.n .ApiZone), .ar (.n .ApiCell), .ar (.n .ApiTenant), .ar (.n .ApiVersion), .ar (.i .i64), .ar (.i .i64)]⟩ (fun n v => make_Config_l2 n v.2.2.1 { v.2.2.2.1.1 with Zones := v.2.2.2.2.1, Cells := v.2.2.2.2.2.1, Tenants := v.2.2.2.2.2.2.1, Versions := v.2.2.2.2.2.2.2.1, Replicas := v.2.2.2.2.2.2.2.2.1, Observers := v.2.2.2.2.2.2.2.2.2.1 } v.1.2.2.2.1) fun rc_make_Config_l2 => .z))) .z)))))))))) (okC make_New_ok (okC make_Tape_Next_ok (okC make_Between_ok (okC make_Tape_Range_ok (okC make_Tape_Yes_ok ok0))))) (vS vZ (vS vZ (vS vZ (vS (vS vZ (vB (vL fun _ => vZ))) (vS (vS vZ (vB (vL fun _ => vZ))) (vS (vS vZ (vB (vL fun _ => (vS vZ (vS (vB (vS vZ (vS vZ (vC vZ vZ)))) vZ))))) (vS vZ (vS (vS vZ (vB (vL fun _ => vZ))) (vS (vS vZ (vB (vL fun _ => vZ))) (vS (vS vZ (vB (vL fun _ => vZ))) vZ))))))))))
def s_state_New_own0_2_0_3 [Fuel] : TSpec := { f := 81, ps := ⟨[(0, .st .ApiConfig)], []⟩, rs := ⟨[(0, .sw .ApiState [(2, .own 0), (3, .own 1)])], [.ar (.n .ApiTenantState), .ar (.n .ApiCellState)]⟩, β := ApiState, F := fun v => state_New v.1.1, g := (fun r => ((({ r with Tenants := ([] : List ApiTenantState), Cells := ([] : List ApiCellState) }, ((), ((), ()))), ()), (r.Tenants, (r.Cells, ())))), d := fun _ => default }
theorem state_New_ok_own0_2_0_3 [Fuel] : FnOk Tryz.prog s_state_New_own0_2_0_3 :=
  fnI 41 tmL [] [] Tryz.func81 (fun v => ({ v.1.1.1 with Tenants := v.2.1, Cells := v.2.2.1 })) (.two .z (.two .z (.two (.two .z (.one (.lp ⟨[(2, .c (.pb 0 0)), (3, .c (.pb 1 0)), (17, .c (.ty (.i .i64))), (18, .c (.ty (.i .i64)))], [.bw .ApiState [(2, .nl), (3, .nl)], .bw .ApiState [(2, .own 2), (3, .own 3)], .ar (.n .ApiTenantState), .ar (.n .ApiCellState)]⟩ (fun n v => state_New_l2 v.1.2.2.1 n { v.2.2.1.1 with Tenants := v.2.2.2.1, Cells := v.2.2.2.2.1 } v.1.2.2.2.1) fun rc_state_New_l2 => .z))) (.two (.two .z (.one (.lp ⟨[(2, .c (.pb 0 0)), (3, .c (.pb 1 0)), (30, .c (.ty (.i .i64))), (31, .c (.ty (.i .i64)))], [.bw .ApiState [(2, .nl), (3, .nl)], .bw .ApiState [(2, .own 2), (3, .own 3)], .ar (.n .ApiTenantState), .ar (.n .ApiCellState)]⟩ (fun n v => state_New_l1 v.1.2.2.1 n { v.2.2.1.1 with Tenants := v.2.2.2.1, Cells := v.2.2.2.2.1 } v.1.2.2.2.1) fun rc_state_New_l1 => .z))) .z)))) ok0 (vS vZ (vS vZ (vS (vS vZ (vB (vL fun _ => vZ))) (vS (vS vZ (vB (vL fun _ => vZ))) vZ))))
def s_load_count : TSpec := { f := 106, ps := ⟨[(0, .st .ApiConfig), (1, .st .ApiState)], []⟩, rs := ⟨[(0, .c (.ty (.i .i64)))], []⟩, β := Int, F := fun v => load_count v.1.1 v.1.2.1, g := (fun r => ((r, ()), ())), d := fun _ => default }
theorem load_count_ok [Fuel] : FnOk Tryz.prog s_load_count :=
  fnI 12 tmL [] [] Tryz.func106 (fun v => v.1.1) .z ok0 vZ
def s_load_active : TSpec := { f := 190, ps := ⟨[(0, .st .ApiTenantState)], []⟩, rs := ⟨[(0, .c (.ty .b))], []⟩, β := Bool, F := fun v => load_active v.1.1, g := (fun r => ((r, ()), ())), d := fun _ => default }
theorem load_active_ok [Fuel] : FnOk Tryz.prog s_load_active :=
  fnI 10 tmL [] [] Tryz.func190 (fun v => v.1.1) .z ok0 vZ
def s_load_add : TSpec := { f := 191, ps := ⟨[(0, .c (.own 0)), (1, .c (.ty (.i .i64))), (2, .c (.ty (.i .i64)))], [.ar (.i .i64)]⟩, rs := ⟨[], [.ar (.i .i64)]⟩, β := (List Int), F := fun v => load_add v.2.1 v.1.2.1 v.1.2.2.1, g := (fun r => ((), (r, ()))), d := fun v => v.2.1, dk := true, hd := fun _ _ => rfl }
theorem load_add_ok [Fuel] : FnOk Tryz.prog s_load_add :=
  fnI 21 tmL [] [] Tryz.func191 (fun v => v.2.1) .z ok0 vZ
def s_load_Booked_own0_0 [Fuel] : TSpec := { f := 104, ps := ⟨[(0, .st .ApiConfig), (1, .st .ApiState)], []⟩, rs := ⟨[(0, .c (.own 0))], [.ar (.i .i64)]⟩, β := (List Int), F := fun v => load_Booked v.1.1 v.1.2.1, g := (fun r => (((), ()), (r, ()))), d := fun _ => default }
theorem load_Booked_ok_own0_0 [Fuel] : FnOk Tryz.prog s_load_Booked_own0_0 :=
  fnI 60 tmL [s_load_count, s_load_active, s_load_add] [] Tryz.func104 (fun v => v.2.1) (.two .z (.two .z (.two (.two .z (.one (.lp ⟨[(2, .c (.pb 0 0)), (3, .c (.pb 1 0)), (5, .c (.own 2)), (15, .c (.ty (.i .i64))), (16, .c (.ty (.i .i64)))], [.bs .ApiConfig, .bs .ApiState, .ar (.i .i64)]⟩ (fun n v => load_Booked_l3 v.2.1 v.2.2.1 v.1.2.2.2.1 n v.2.2.2.1 v.1.2.2.2.2.1) fun rc_load_Booked_l3 => (.two .z (.two .z (.cut ⟨[(2, .c (.pb 0 0)), (3, .c (.pb 1 0)), (5, .c (.own 2)), (15, .c (.ty (.i .i64))), (16, .c (.ty (.i .i64)))], [.bs .ApiConfig, .bs .ApiState, .ar (.i .i64)]⟩ (fun v => load_Booked_k1 (fun y1 y2 => rc_load_Booked_l3 (((), ((), ((), (v.1.2.2.2.1, (y2, ()))))), (v.2.1, (v.2.2.1, (y1, ()))))) v.1.2.2.2.2.1 v.2.2.2.1) (.one (.two .z (.two .z (.two .z (.cut ⟨[(2, .c (.pb 0 0)), (3, .c (.pb 1 0)), (5, .c (.own 2)), (7, .c (.pb 3 0)), (8, .c (.pb 4 0)), (15, .c (.ty (.i .i64))), (16, .c (.ty (.i .i64)))], [.bs .ApiConfig, .bs .ApiState, .ar (.i .i64), .bs .ApiTenant, .bs .ApiTenantState]⟩ (fun v => load_Booked_k2 (fun y1 y2 => rc_load_Booked_l3 (((), ((), ((), (v.1.2.2.2.2.2.1, (y2, ()))))), (v.2.1, (v.2.2.1, (y1, ()))))) v.1.2.2.2.2.2.2.1 v.2.2.2.2.1 v.2.2.2.2.2.1 v.2.2.2.1) .z .z))))) .z)))))) .z))) (okC load_count_ok (okC load_active_ok (okC load_add_ok ok0))) (vS vZ (vS vZ (vS (vS vZ (vB (vL fun _ => (vS vZ (vS vZ (vC (vB (vS vZ (vS vZ (vS vZ (vC vZ vZ))))) vZ)))))) vZ)))
def s_evacplan_begin_own0_1018_0_1019 [Fuel] : TSpec := { f := 90, ps := ⟨[(0, .st .ApiConfig), (1, .st .ApiState)], []⟩, rs := ⟨[(0, .c (.pb 0 0))], [.bw .EvacplanSituation [(18, .own 1), (19, .own 2)], .ar (.n .EvacplanSeat), .ar (.i .i64)]⟩, β := EvacplanSituation, F := fun v => evacplan_begin v.1.1 v.1.2.1, g := (fun r => (((), ()), (({ r with seats := ([] : List EvacplanSeat), booked := ([] : List Int) }, ((), ((), ()))), (r.seats, (r.booked, ()))))), d := fun _ => default }
theorem evacplan_begin_ok_own0_1018_0_1019 [Fuel] : FnOk Tryz.prog s_evacplan_begin_own0_1018_0_1019 :=
  fnI 69 tmL [s_load_Booked_own0_0] [] Tryz.func90 (fun v => ({ v.2.1.1 with seats := v.2.2.1, booked := v.2.2.2.1 })) (.two .z (.two .z (.two (.two .z (.one (.lp ⟨[(2, .c (.pb 0 0)), (3, .c (.pb 1 0)), (5, .c (.pb 2 0)), (21, .c (.ty (.l (.n .ApiTenantState)))), (22, .c (.ty (.i .i64))), (23, .c (.ty (.i .i64)))], [.bs .ApiConfig, .bs .ApiState, .bw .EvacplanSituation [(18, .own 3), (19, .nl)], .ar (.n .EvacplanSeat)]⟩ (fun n v => evacplan_begin_l1 v.2.1 v.2.2.1 v.1.2.2.2.1 v.1.2.2.2.2.1 n { v.2.2.2.1.1 with seats := v.2.2.2.2.1, booked := [] } v.1.2.2.2.2.2.1) fun rc_evacplan_begin_l1 => .z))) .z))) (okC load_Booked_ok_own0_0 ok0) (vS vZ (vS vZ (vS (vS vZ (vB (vL fun _ => vZ))) vZ)))
def s_cmp_isNaN_int : TSpec := { f := 234, ps := ⟨[(0, .c (.ty (.i .i64)))], []⟩, rs := ⟨[(0, .c (.ty .b))], []⟩, β := Bool, F := fun v => cmp_isNaN_int v.1.1, g := (fun r => ((r, ()), ())), d := fun _ => default }
theorem cmp_isNaN_int_ok [Fuel] : FnOk Tryz.prog s_cmp_isNaN_int :=
  fnI 6 tmL [] [] Tryz.func234 (fun v => v.1.1) .z ok0 vZ
def s_cmp_Compare_int : TSpec := { f := 186, ps := ⟨[(0, .c (.ty (.i .i64))), (1, .c (.ty (.i .i64)))], []⟩, rs := ⟨[(0, .c (.ty (.i .i64)))], []⟩, β := Int, F := fun v => cmp_Compare_int v.1.1 v.1.2.1, g := (fun r => ((r, ()), ())), d := fun _ => default }
theorem cmp_Compare_int_ok [Fuel] : FnOk Tryz.prog s_cmp_Compare_int :=
  fnI 20 tmL [s_cmp_isNaN_int] [] Tryz.func186 (fun v => v.1.1) .z (okC cmp_isNaN_int_ok ok0) vZ
def s_cmp_Or_int [Fuel] : TSpec := { f := 185, ps := ⟨[(0, .c (.ty (.l (.i .i64))))], []⟩, rs := ⟨[(0, .c (.ty (.i .i64)))], []⟩, β := Int, F := fun v => cmp_Or_int v.1.1, g := (fun r => ((r, ()), ())), d := fun _ => default }
theorem cmp_Or_int_ok [Fuel] : FnOk Tryz.prog s_cmp_Or_int :=
  fnI 18 tmL [] [] Tryz.func185 (fun v => v.1.1) (.two .z (.two .z (.two (.two .z (.one (.lp ⟨[(3, .c (.ty (.i .i64))), (6, .c (.ty (.l (.i .i64)))), (7, .c (.ty (.i .i64))), (8, .c (.ty (.i .i64)))], []⟩ (fun n v => cmp_Or_int_l1 v.1.2.1 v.1.1 v.1.2.2.1 n v.1.2.2.2.1) fun rc_cmp_Or_int_l1 => .z))) .z))) ok0 (vS vZ (vS vZ (vS (vS vZ (vB (vL fun _ => vZ))) vZ)))
def s_tenant_Order_1 [Fuel] : TSpec := { f := 184, ps := ⟨[(0, .c (.ty (.i .i64))), (1, .c (.ty (.i .i64))), (2, .c (.rp (.n .ApiConfig)))], []⟩, rs := ⟨[(0, .c (.ty (.i .i64)))], []⟩, β := Int, F := fun v => tenant_Order_1 v.1.1 v.1.2.1 v.1.2.2.1, g := (fun r => ((r, ()), ())), d := fun _ => default }
theorem tenant_Order_1_ok [Fuel] : FnOk Tryz.prog s_tenant_Order_1 :=
  fnI 33 tmL [s_cmp_Compare_int, s_cmp_Or_int] [] Tryz.func184 (fun v => v.1.1) .z (okC cmp_Compare_int_ok (okC cmp_Or_int_ok ok0)) vZ
def s_sort_tenant_Order_1 [Fuel] : TSpec := { f := 183, ps := ⟨[(0, .c (.own 0)), (1, .c (.fn 184 [1]))], [.ar (.i .i64), .bs .ApiConfig]⟩, rs := ⟨[], [.ar (.i .i64), .bs .ApiConfig]⟩, β := ((List Int) × ApiConfig), F := fun v => sort_tenant_Order_1 v.2.1 v.2.2.1, g := (fun r => ((), (r.1, (r.2, ())))), d := fun v => (v.2.1, v.2.2.1), dk := true, hd := fun _ _ => rfl }
theorem sort_tenant_Order_1_ok [Fuel] : FnOk Tryz.prog s_sort_tenant_Order_1 :=
  sortI_ok (n := .ApiConfig) (cmp := fun c x y => tenant_Order_1 x y c) Tryz.lays183 rfl (by intro vs w; rfl) (by intro vs w; rfl) (fun c x y r h => tenant_Order_1_ok.2 ((x, (y, (c, ()))), ()) r h)
def s_tenant_Order [Fuel] : TSpec := { f := 99, ps := ⟨[(0, .st .ApiConfig)], []⟩, rs := ⟨[(0, .c (.ty (.l (.i .i64))))], []⟩, β := (List Int), F := fun v => tenant_Order v.1.1, g := (fun r => ((r, ()), ())), d := fun _ => default }
theorem tenant_Order_ok [Fuel] : FnOk Tryz.prog s_tenant_Order :=
  fnI 24 tmL [s_sort_tenant_Order_1] [] Tryz.func99 (fun v => v.1.1) (.two .z (.two .z (.two (.two .z (.one (.lp ⟨[(1, .c (.pb 0 0)), (3, .c (.own 1)), (11, .c (.ty (.i .i64))), (12, .c (.ty (.i .i64)))], [.bs .ApiConfig, .ar (.i .i64)]⟩ (fun n v => tenant_Order_l1 v.2.1 v.1.2.2.1 n v.2.2.1 v.1.2.2.2.1) fun rc_tenant_Order_l1 => .z))) .z))) (okC sort_tenant_Order_1_ok ok0) (vS vZ (vS vZ (vS (vS vZ (vB (vL fun _ => vZ))) vZ)))
def s_topo_within : TSpec := { f := 189, ps := ⟨[(0, .c (.ty (.i .i64))), (1, .c (.ty (.i .i64))), (2, .c (.ty (.i .i64)))], []⟩, rs := ⟨[(0, .c (.ty .b))], []⟩, β := Bool, F := fun v => topo_within v.1.1 v.1.2.1 v.1.2.2.1, g := (fun r => ((r, ()), ())), d := fun _ => default }
theorem topo_within_ok [Fuel] : FnOk Tryz.prog s_topo_within :=
  fnI 15 tmL [] [] Tryz.func189 (fun v => v.1.1) .z ok0 vZ
def s_topo_ZoneOf : TSpec := { f := 103, ps := ⟨[(0, .st .ApiConfig), (1, .c (.ty (.i .i64)))], []⟩, rs := ⟨[(0, .c (.ty (.i .i64)))], []⟩, β := Int, F := fun v => topo_ZoneOf v.1.1 v.1.2.1, g := (fun r => ((r, ()), ())), d := fun _ => default }
theorem topo_ZoneOf_ok [Fuel] : FnOk Tryz.prog s_topo_ZoneOf :=
  fnI 18 tmL [s_topo_within] [] Tryz.func103 (fun v => v.1.1) .z (okC topo_within_ok ok0) vZ
def s_topo_regionOfZone : TSpec := { f := 102, ps := ⟨[(0, .st .ApiConfig), (1, .c (.ty (.i .i64)))], []⟩, rs := ⟨[(0, .c (.ty (.i .i64)))], []⟩, β := Int, F := fun v => topo_regionOfZone v.1.1 v.1.2.1, g := (fun r => ((r, ()), ())), d := fun _ => default }
theorem topo_regionOfZone_ok [Fuel] : FnOk Tryz.prog s_topo_regionOfZone :=
  fnI 18 tmL [s_topo_within] [] Tryz.func102 (fun v => v.1.1) .z (okC topo_within_ok ok0) vZ
def s_topo_RegionOf : TSpec := { f := 42, ps := ⟨[(0, .st .ApiConfig), (1, .c (.ty (.i .i64)))], []⟩, rs := ⟨[(0, .c (.ty (.i .i64)))], []⟩, β := Int, F := fun v => topo_RegionOf v.1.1 v.1.2.1, g := (fun r => ((r, ()), ())), d := fun _ => default }
theorem topo_RegionOf_ok [Fuel] : FnOk Tryz.prog s_topo_RegionOf :=
  fnI 10 tmL [s_topo_ZoneOf, s_topo_regionOfZone] [] Tryz.func42 (fun v => v.1.1) .z (okC topo_ZoneOf_ok (okC topo_regionOfZone_ok ok0)) vZ
def s_evacplan_candidates [Fuel] : TSpec := { f := 93, ps := ⟨[(0, .st .ApiConfig), (1, .st .ApiState), (2, .c (.ty (.i .i64)))], []⟩, rs := ⟨[(0, .c (.ty (.l (.i .i64))))], []⟩, β := (List Int), F := fun v => evacplan_candidates v.1.1 v.1.2.1 v.1.2.2.1, g := (fun r => ((r, ()), ())), d := fun _ => default }
theorem evacplan_candidates_ok [Fuel] : FnOk Tryz.prog s_evacplan_candidates :=
  fnI 53 tmL [s_tenant_Order, s_topo_RegionOf] [] Tryz.func93 (fun v => v.1.1) (.two .z (.two .z (.two (.two .z (.one (.lp ⟨[(2, .c (.ty (.i .i64))), (3, .c (.pb 0 0)), (4, .c (.pb 1 0)), (7, .c (.own 2)), (12, .c (.ty (.l (.i .i64)))), (13, .c (.ty (.i .i64))), (14, .c (.ty (.i .i64)))], [.bs .ApiConfig, .bs .ApiState, .ar (.i .i64)]⟩ (fun n v => evacplan_candidates_l2 v.2.1 v.2.2.1 v.1.1 v.1.2.2.2.2.1 v.1.2.2.2.2.2.1 n v.2.2.2.1 v.1.2.2.2.2.2.2.1) fun rc_evacplan_candidates_l2 => (.two .z (.two .z (.cut ⟨[(2, .c (.ty (.i .i64))), (3, .c (.pb 0 0)), (4, .c (.pb 1 0)), (7, .c (.own 2)), (12, .c (.ty (.l (.i .i64)))), (13, .c (.ty (.i .i64))), (14, .c (.ty (.i .i64)))], [.bs .ApiConfig, .bs .ApiState, .ar (.i .i64)]⟩ (fun v => evacplan_candidates_k1 (fun y1 y2 => rc_evacplan_candidates_l2 ((v.1.1, ((), ((), ((), (v.1.2.2.2.2.1, (v.1.2.2.2.2.2.1, (y2, ()))))))), (v.2.1, (v.2.2.1, (y1, ()))))) v.1.2.2.2.2.2.2.1 v.2.2.2.1) .z .z)))))) .z))) (okC tenant_Order_ok (okC topo_RegionOf_ok ok0)) (vS vZ (vS vZ (vS (vS vZ (vB (vL fun _ => (vS vZ (vS vZ (vC vZ vZ)))))) vZ)))
def s_evacplan_usable : TSpec := { f := 180, ps := ⟨[(0, .st .ApiConfig), (1, .st .ApiState), (2, .c (.ty (.i .i64)))], []⟩, rs := ⟨[(0, .c (.ty .b))], []⟩, β := Bool, F := fun v => evacplan_usable v.1.1 v.1.2.1 v.1.2.2.1, g := (fun r => ((r, ()), ())), d := fun _ => default }
theorem evacplan_usable_ok [Fuel] : FnOk Tryz.prog s_evacplan_usable :=
  fnI 56 tmL [s_topo_RegionOf] [] Tryz.func180 (fun v => v.1.1) .z (okC topo_RegionOf_ok ok0) vZ
end Go.Proofs
