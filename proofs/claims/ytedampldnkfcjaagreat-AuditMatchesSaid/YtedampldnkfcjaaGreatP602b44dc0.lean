/-
  DERIVED: THE SHELF's CONTRACTS AT THIS DUMP, IN PLAIN WORDS (tools/lay-plain.mjs out of 'ZzLaysTryz.lean', which tools/lay-shelf.mjs wrote): THE SAME DECLARATIONS UNDER THE SAME NAMES: 'import', 'namespace', 'open', 'def', 'theorem' AND NOTHING ELSE: no command of the shelf's: FOR A HAND-IN. Each laying: the table of numbers ('.._ren') and one theorem, a field a fact of the dump's own or the kernel's comparison; each contract: ONE APPLICATION.
-/
import Derived.Shelf.SlSortCmp.NoneTotal
import Derived.Shelf.Slices.CompactI
import Derived.Shelf.Sort.Plain
import Derived.Shelf.Slices.In.SortNone
import Derived.Test.YtedampldnkfcjaaGreatProg
import Derived.Test.YtedampldnkfcjaaGreatP560c6d2de
namespace Go.Proofs
open Go.Shelf
def Tryz.lays96_ren : Go.Shelf.Ren := ⟨fun | 20 => 96 | n => n, fun | 22 => 22 | 3 => 3 | 4 => 4 | 0 => 0 | n => n, fun | n => n⟩
theorem Tryz.lays96 : Go.Proofs.Lays2.n20 Tryz.prog Tryz.lays96_ren := {
  mixed := by kernel_rfl
  f20 := Tryz.func96.trans (congrArg some (by kernel_rfl))
  t0 := Tryz.underlying0
  a0 := Tryz.isAgg0
  z0 := Tryz.sizeOf0
  v0 := Tryz.zeroValue0
  t3 := Tryz.underlying3
  a3 := Tryz.isAgg3
  z3 := Tryz.sizeOf3
  v3 := Tryz.zeroValue3
  t4 := Tryz.underlying4
  a4 := Tryz.isAgg4
  z4 := Tryz.sizeOf4
  v4 := Tryz.zeroValue4
  t22 := Tryz.underlying22
  a22 := Tryz.isAgg22
  z22 := Tryz.sizeOf22
  v22 := Tryz.zeroValue22
  i3 := by kernel_rfl }
end Go.Proofs
namespace Go.Proofs
open Go.Shelf
def Tryz.lays168_ren : Go.Shelf.Ren := ⟨fun | 6 => 168 | 15 => 179 | 14 => 204 | 28 => 215 | 29 => 216 | 20 => 233 | 21 => 234 | 22 => 235 | 23 => 236 | 24 => 237 | 25 => 238 | 26 => 239 | 27 => 240 | 46 => 252 | 47 => 242 | 48 => 243 | 49 => 253 | 50 => 254 | 57 => 259 | n => n, fun | 22 => 73 | 24 => 58 | 25 => 181 | 3 => 3 | 39 => 111 | 0 => 0 | 53 => 216 | 55 => 218 | 4 => 4 | 46 => 209 | 45 => 208 | 50 => 213 | 5 => 5 | 9 => 9 | 66 => 237 | 70 => 241 | 76 => 249 | 77 => 250 | n => n, fun | n => n⟩
theorem Tryz.lays168 : Go.Proofs.SlLaysF0.n6 Tryz.prog Tryz.lays168_ren := {
  mixed := by kernel_rfl
  f6 := ⟨Tryz.f168.name, by decide, Tryz.func168.trans (congrArg some (by kernel_rfl))⟩
  f14 := ⟨Tryz.f204.name, by decide, Tryz.func204.trans (congrArg some (by kernel_rfl))⟩
  f15 := Tryz.func179.trans (congrArg some (by kernel_rfl))
  f20 := ⟨Tryz.f233.name, by decide, Tryz.func233.trans (congrArg some (by kernel_rfl))⟩
  f21 := ⟨Tryz.f234.name, by decide, Tryz.func234.trans (congrArg some (by kernel_rfl))⟩
  f22 := ⟨Tryz.f235.name, by decide, Tryz.func235.trans (congrArg some (by kernel_rfl))⟩
  f23 := ⟨Tryz.f236.name, by decide, Tryz.func236.trans (congrArg some (by kernel_rfl))⟩
  f24 := ⟨Tryz.f237.name, by decide, Tryz.func237.trans (congrArg some (by kernel_rfl))⟩
  f25 := ⟨Tryz.f238.name, by decide, Tryz.func238.trans (congrArg some (by kernel_rfl))⟩
  f26 := ⟨Tryz.f239.name, by decide, Tryz.func239.trans (congrArg some (by kernel_rfl))⟩
  f27 := ⟨Tryz.f240.name, by decide, Tryz.func240.trans (congrArg some (by kernel_rfl))⟩
  f28 := Tryz.func215.trans (congrArg some (by kernel_rfl))
  f29 := Tryz.func216.trans (congrArg some (by kernel_rfl))
  f46 := ⟨Tryz.f252.name, by decide, Tryz.func252.trans (congrArg some (by kernel_rfl))⟩
  f47 := Tryz.func242.trans (congrArg some (by kernel_rfl))
  f48 := Tryz.func243.trans (congrArg some (by kernel_rfl))
  f49 := ⟨Tryz.f253.name, by decide, Tryz.func253.trans (congrArg some (by kernel_rfl))⟩
  f50 := ⟨Tryz.f254.name, by decide, Tryz.func254.trans (congrArg some (by kernel_rfl))⟩
  f57 := ⟨Tryz.f259.name, by decide, Tryz.func259.trans (congrArg some (by kernel_rfl))⟩
  t0 := Tryz.underlying0
  a0 := Tryz.isAgg0
  z0 := Tryz.sizeOf0
  v0 := Tryz.zeroValue0
  t3 := Tryz.underlying3
  a3 := Tryz.isAgg3
  z3 := Tryz.sizeOf3
  v3 := Tryz.zeroValue3
  t4 := Tryz.underlying4
  a4 := Tryz.isAgg4
  z4 := Tryz.sizeOf4
  v4 := Tryz.zeroValue4
  t5 := Tryz.underlying5
  a5 := Tryz.isAgg5
  z5 := Tryz.sizeOf5
  v5 := Tryz.zeroValue5
  t9 := Tryz.underlying9
  a9 := Tryz.isAgg9
  z9 := Tryz.sizeOf9
  v9 := Tryz.zeroValue9
  t22 := Tryz.underlying73
  a22 := Tryz.isAgg73
  z22 := Tryz.sizeOf73
  v22 := Tryz.zeroValue73
  t25 := Tryz.underlying181
  a25 := Tryz.isAgg181
  z25 := Tryz.sizeOf181
  v25 := Tryz.zeroValue181
  t39 := Tryz.underlying111
  a39 := Tryz.isAgg111
  z39 := Tryz.sizeOf111
  v39 := Tryz.zeroValue111
  t45 := Tryz.underlying208
  a45 := Tryz.isAgg208
  z45 := Tryz.sizeOf208
  v45 := Tryz.zeroValue208
  t46 := Tryz.underlying209
  a46 := Tryz.isAgg209
  z46 := Tryz.sizeOf209
  v46 := Tryz.zeroValue209
  t50 := Tryz.underlying213
  a50 := Tryz.isAgg213
  z50 := Tryz.sizeOf213
  v50 := Tryz.zeroValue213
  t53 := Tryz.underlying216
  a53 := Tryz.isAgg216
  z53 := Tryz.sizeOf216
  v53 := Tryz.zeroValue216
  t55 := Tryz.underlying218
  a55 := Tryz.isAgg218
  z55 := Tryz.sizeOf218
  v55 := Tryz.zeroValue218
  t66 := Tryz.underlying237
  a66 := Tryz.isAgg237
  z66 := Tryz.sizeOf237
  v66 := Tryz.zeroValue237
  t70 := Tryz.underlying241
  a70 := Tryz.isAgg241
  z70 := Tryz.sizeOf241
  v70 := Tryz.zeroValue241
  t76 := Tryz.underlying249
  a76 := Tryz.isAgg249
  z76 := Tryz.sizeOf249
  v76 := Tryz.zeroValue249
  t77 := Tryz.underlying250
  a77 := Tryz.isAgg250
  z77 := Tryz.sizeOf250
  v77 := Tryz.zeroValue250 }
end Go.Proofs
namespace Go.Proofs
open Go Go.AM Go.CP Go.RowKit
set_option linter.unusedVariables false
set_option maxRecDepth 100000
def tmL : List (Nat × Ty) := [(22, (.i .i64)), (25, (.n .ApiZone)), (26, (.n .ApiCell)), (27, (.n .ApiTenant)), (28, (.n .ApiVersion)), (32, (.n .ApiTenantState)), (33, (.n .ApiCellState)), (47, (.n .ApiEntry)), (71, (.n .Arr2Int)), (73, (.n .ApiSpan)), (83, (.n .ApiStep)), (184, (.n .EvacplanSeat)), (255, .s)]
def s_make_New : TSpec := { f := 54, ps := ⟨[(0, .c (.ty (.l (.i .i64))))], []⟩, rs := ⟨[(0, .c (.pb 0 0))], [.bs .MakeTape]⟩, β := MakeTape, F := fun v => make_New v.1.1, g := (fun r => (((), ()), (r, ()))), d := fun _ => default }
theorem make_New_ok [Fuel] : FnOk Tryz.prog s_make_New :=
  fnI 6 tmL [] [] Tryz.func54 (fun v => v.2.1) .z ok0 vZ
def s_make_Mod : TSpec := { f := 116, ps := ⟨[(0, .c (.ty (.i .i64))), (1, .c (.ty (.i .i64)))], []⟩, rs := ⟨[(0, .c (.ty (.i .i64)))], []⟩, β := Int, F := fun v => make_Mod v.1.1 v.1.2.1, g := (fun r => ((r, ()), ())), d := fun _ => default }
theorem make_Mod_ok [Fuel] : FnOk Tryz.prog s_make_Mod :=
  fnI 12 tmL [] [] Tryz.func116 (fun v => v.1.1) .z ok0 vZ
def s_make_Tape_Next : TSpec := { f := 62, ps := ⟨[(0, .c (.pb 0 0)), (1, .c (.ty (.i .i64)))], [.bs .MakeTape]⟩, rs := ⟨[(0, .c (.ty (.i .i64)))], [.bs .MakeTape]⟩, β := (Int × MakeTape), F := fun v => make_Tape_Next v.2.1 v.1.2.1, g := (fun r => ((r.1, ()), (r.2, ()))), d := fun v => (default, v.2.1), dk := true, hd := fun _ _ => rfl }
theorem make_Tape_Next_ok [Fuel] : FnOk Tryz.prog s_make_Tape_Next :=
  fnI 53 tmL [s_make_Mod] [] Tryz.func62 (fun v => (v.1.1, v.2.1)) .z (okC make_Mod_ok ok0) vZ
def s_make_Between : TSpec := { f := 61, ps := ⟨[(0, .c (.ty (.i .i64))), (1, .c (.ty (.i .i64))), (2, .c (.ty (.i .i64)))], []⟩, rs := ⟨[(0, .c (.ty (.i .i64)))], []⟩, β := Int, F := fun v => make_Between v.1.1 v.1.2.1 v.1.2.2.1, g := (fun r => ((r, ()), ())), d := fun _ => default }
theorem make_Between_ok [Fuel] : FnOk Tryz.prog s_make_Between :=
  fnI 15 tmL [s_make_Mod] [] Tryz.func61 (fun v => v.1.1) .z (okC make_Mod_ok ok0) vZ
def s_make_Tape_Range : TSpec := { f := 63, ps := ⟨[(0, .c (.pb 0 0)), (1, .c (.ty (.i .i64))), (2, .c (.ty (.i .i64)))], [.bs .MakeTape]⟩, rs := ⟨[(0, .c (.ty (.i .i64)))], [.bs .MakeTape]⟩, β := (Int × MakeTape), F := fun v => make_Tape_Range v.2.1 v.1.2.1 v.1.2.2.1, g := (fun r => ((r.1, ()), (r.2, ()))), d := fun v => (default, v.2.1), dk := true, hd := fun _ _ => rfl }
theorem make_Tape_Range_ok [Fuel] : FnOk Tryz.prog s_make_Tape_Range :=
  fnI 15 tmL [s_make_Tape_Next] [] Tryz.func63 (fun v => (v.1.1, v.2.1)) .z (okC make_Tape_Next_ok ok0) vZ
def s_make_Tape_Yes : TSpec := { f := 64, ps := ⟨[(0, .c (.pb 0 0)), (1, .c (.ty (.i .i64)))], [.bs .MakeTape]⟩, rs := ⟨[(0, .c (.ty .b))], [.bs .MakeTape]⟩, β := (Bool × MakeTape), F := fun v => make_Tape_Yes v.2.1 v.1.2.1, g := (fun r => ((r.1, ()), (r.2, ()))), d := fun v => (default, v.2.1), dk := true, hd := fun _ _ => rfl }
theorem make_Tape_Yes_ok [Fuel] : FnOk Tryz.prog s_make_Tape_Yes :=
  fnI 9 tmL [s_make_Tape_Next] [] Tryz.func64 (fun v => (v.1.1, v.2.1)) .z (okC make_Tape_Next_ok ok0) vZ
def s_make_Config [Fuel] : TSpec := { f := 15, ps := ⟨[(0, .c (.ty (.l (.i .i64))))], []⟩, rs := ⟨[(0, .st .ApiConfig)], []⟩, β := ApiConfig, F := fun v => make_Config v.1.1, g := (fun r => ((r, ()), ())), d := fun _ => default }
theorem make_Config_ok [Fuel] : FnOk Tryz.prog s_make_Config :=
  fnI 182 tmL [s_make_New, s_make_Tape_Next, s_make_Between, s_make_Tape_Range, s_make_Tape_Yes] [] Tryz.func15 (fun v => v.1.1) (.two .z (.two .z (.two .z (.two (.two .z (.one (.lp ⟨[(2, .c (.pb 0 0)), (3, .c (.pb 1 0)), (4, .c (.pb 2 0)), (5, .c (.ty (.i .i64)))], [.bw .ApiConfig [(1, .nl), (2, .nl), (3, .nl), (4, .nl), (5, .nl), (6, .nl)], .bs .MakeTape, .bw .ApiConfig [(1, .own 3), (2, .nl), (3, .nl), (4, .nl), (5, .nl), (6, .nl)], .ar (.n .ApiZone)]⟩ (fun n v => make_Config_l7 n v.2.2.1 { v.2.2.2.1.1 with Zones := v.2.2.2.2.1, Cells := [], Tenants := [], Versions := [], Replicas := [], Observers := [] } v.1.2.2.2.1) fun rc_make_Config_l7 => .z))) (.two (.two .z (.one (.lp ⟨[(2, .c (.pb 0 0)), (3, .c (.pb 1 0)), (4, .c (.pb 2 0)), (6, .c (.ty (.i .i64)))], [.bw .ApiConfig [(1, .nl), (2, .nl), (3, .nl), (4, .nl), (5, .nl), (6, .nl)], .bs .MakeTape, .bw .ApiConfig [(1, .own 3), (2, .own 4), (3, .nl), (4, .nl), (5, .nl), (6, .nl)], .ar (.n .ApiZone), .ar (.n .ApiCell)]⟩ (fun n v => make_Config_l6 n v.2.2.1 { v.2.2.2.1.1 with Zones := v.2.2.2.2.1, Cells := v.2.2.2.2.2.1, Tenants := [], Versions := [], Replicas := [], Observers := [] } v.1.2.2.2.1) fun rc_make_Config_l6 => .z))) (.two (.two .z (.one (.lp ⟨[(2, .c (.pb 0 0)), (3, .c (.pb 1 0)), (4, .c (.pb 2 0)), (7, .c (.ty (.i .i64)))], [.bw .ApiConfig [(1, .nl), (2, .nl), (3, .nl), (4, .nl), (5, .nl), (6, .nl)], .bs .MakeTape, .bw .ApiConfig [(1, .own 3), (2, .own 4), (3, .own 5), (4, .nl), (5, .nl), (6, .nl)], .ar (.n .ApiZone), .ar (.n .ApiCell), .ar (.n .ApiTenant)]⟩ (fun n v => make_Config_l5 n v.2.2.1 { v.2.2.2.1.1 with Zones := v.2.2.2.2.1, Cells := v.2.2.2.2.2.1, Tenants := v.2.2.2.2.2.2.1, Versions := [], Replicas := [], Observers := [] } v.1.2.2.2.1) fun rc_make_Config_l5 => (.two .z (.two (.one (.two .z (.two .z (.cut ⟨[(2, .c (.pb 0 0)), (3, .c (.pb 1 0)), (4, .c (.pb 2 0)), (7, .c (.ty (.i .i64))), (9, .c (.pb 6 0))], [.bw .ApiConfig [(1, .nl), (2, .nl), (3, .nl), (4, .nl), (5, .nl), (6, .nl)], .bs .MakeTape, .bw .ApiConfig [(1, .own 3), (2, .own 4), (3, .own 5), (4, .nl), (5, .nl), (6, .nl)], .ar (.n .ApiZone), .ar (.n .ApiCell), .ar (.n .ApiTenant), .bs .ApiTenant]⟩ (fun v => make_Config_k1 (fun y1 y2 y3 => rc_make_Config_l5 (((), ((), ((), (y3, ())))), (({ v.2.1.1 with Zones := [], Cells := [], Tenants := [], Versions := [], Replicas := [], Observers := [] }, ((), ((), ((), ((), ((), ((), ()))))))), (y1, ((y2, ((), ((), ((), ((), ((), ((), ()))))))), (y2.Zones, (y2.Cells, (y2.Tenants, ())))))))) { v.2.2.2.1.1 with Zones := v.2.2.2.2.1, Cells := v.2.2.2.2.2.1, Tenants := v.2.2.2.2.2.2.1, Versions := [], Replicas := [], Observers := [] } v.1.2.2.2.1 v.2.2.1 v.2.2.2.2.2.2.2.1) .z .z)))) .z))))) (.two .z (.two (.two .z (.one (.lp ⟨[(2, .c (.pb 0 0)), (3, .c (.pb 1 0)), (4, .c (.pb 2 0)), (10, .c (.ty (.i .i64)))], [.bw .ApiConfig [(1, .nl), (2, .nl), (3, .nl), (4, .nl), (5, .nl), (6, .nl)], .bs .MakeTape, .bw .ApiConfig [(1, .own 3), (2, .own 4), (3, .own 5), (4, .own 6), (5, .nl), (6, .nl)], .ar (.n .ApiZone), .ar (.n .ApiCell), .ar (.n .ApiTenant), .ar (.n .ApiVersion)]⟩ (fun n v => make_Config_l4 n v.2.2.1 { v.2.2.2.1.1 with Zones := v.2.2.2.2.1, Cells := v.2.2.2.2.2.1, Tenants := v.2.2.2.2.2.2.1, Versions := v.2.2.2.2.2.2.2.1, Replicas := [], Observers := [] } v.1.2.2.2.1) fun rc_make_Config_l4 => .z))) (.two (.two .z (.one (.lp ⟨[(2, .c (.pb 0 0)), (3, .c (.pb 1 0)), (4, .c (.pb 2 0)), (12, .c (.ty (.i .i64)))], [.bw .ApiConfig [(1, .nl), (2, .nl), (3, .nl), (4, .nl), (5, .nl), (6, .nl)], .bs .MakeTape, .bw .ApiConfig [(1, .own 3), (2, .own 4), (3, .own 5), (4, .own 6), (5, .own 7), (6, .nl)], .ar (.n .ApiZone), .ar (.n .ApiCell), .ar (.n .ApiTenant), .ar (.n .ApiVersion), .ar (.i .i64)]⟩ (fun n v => make_Config_l3 n v.2.2.1 { v.2.2.2.1.1 with Zones := v.2.2.2.2.1, Cells := v.2.2.2.2.2.1, Tenants := v.2.2.2.2.2.2.1, Versions := v.2.2.2.2.2.2.2.1, Replicas := v.2.2.2.2.2.2.2.2.1, Observers := [] } v.1.2.2.2.1) fun rc_make_Config_l3 => .z))) (.two (.two .z (.one (.lp ⟨[(2, .c (.pb 0 0)), (3, .c (.pb 1 0)), (4, .c (.pb 2 0)), (13, .c (.ty (.i .i64)))], [.bw .ApiConfig [(1, .nl), (2, .nl), (3, .nl), (4, .nl), (5, .nl), (6, .nl)], .bs .MakeTape, .bw .ApiConfig [(1, .own 3), (2, .own 4), (3, .own 5), (4, .own 6), (5, .own 7), (6, .own 8)], .ar (.n .ApiZone), .ar (.n .ApiCell), .ar (.n .ApiTenant), .ar (.n .ApiVersion), .ar (.i .i64), .ar (.i .i64)]⟩ (fun n v => make_Config_l2 n v.2.2.1 { v.2.2.2.1.1 with Zones := v.2.2.2.2.1, Cells := v.2.2.2.2.2.1, Tenants := v.2.2.2.2.2.2.1, Versions := v.2.2.2.2.2.2.2.1, Replicas := v.2.2.2.2.2.2.2.2.1, Observers := v.2.2.2.2.2.2.2.2.2.1 } v.1.2.2.2.1) fun rc_make_Config_l2 => .z))) .z)))))))))) (okC make_New_ok (okC make_Tape_Next_ok (okC make_Between_ok (okC make_Tape_Range_ok (okC make_Tape_Yes_ok ok0))))) (vS vZ (vS vZ (vS vZ (vS (vS vZ (vB (vL fun _ => vZ))) (vS (vS vZ (vB (vL fun _ => vZ))) (vS (vS vZ (vB (vL fun _ => (vS vZ (vS (vB (vS vZ (vS vZ (vC vZ vZ)))) vZ))))) (vS vZ (vS (vS vZ (vB (vL fun _ => vZ))) (vS (vS vZ (vB (vL fun _ => vZ))) (vS (vS vZ (vB (vL fun _ => vZ))) vZ))))))))))
def s_state_New_own0_2_0_3 [Fuel] : TSpec := { f := 56, ps := ⟨[(0, .st .ApiConfig)], []⟩, rs := ⟨[(0, .sw .ApiState [(2, .own 0), (3, .own 1)])], [.ar (.n .ApiTenantState), .ar (.n .ApiCellState)]⟩, β := ApiState, F := fun v => state_New v.1.1, g := (fun r => ((({ r with Tenants := ([] : List ApiTenantState), Cells := ([] : List ApiCellState) }, ((), ((), ()))), ()), (r.Tenants, (r.Cells, ())))), d := fun _ => default }
theorem state_New_ok_own0_2_0_3 [Fuel] : FnOk Tryz.prog s_state_New_own0_2_0_3 :=
  fnI 41 tmL [] [] Tryz.func56 (fun v => ({ v.1.1.1 with Tenants := v.2.1, Cells := v.2.2.1 })) (.two .z (.two .z (.two (.two .z (.one (.lp ⟨[(2, .c (.pb 0 0)), (3, .c (.pb 1 0)), (17, .c (.ty (.i .i64))), (18, .c (.ty (.i .i64)))], [.bw .ApiState [(2, .nl), (3, .nl)], .bw .ApiState [(2, .own 2), (3, .own 3)], .ar (.n .ApiTenantState), .ar (.n .ApiCellState)]⟩ (fun n v => state_New_l2 v.1.2.2.1 n { v.2.2.1.1 with Tenants := v.2.2.2.1, Cells := v.2.2.2.2.1 } v.1.2.2.2.1) fun rc_state_New_l2 => .z))) (.two (.two .z (.one (.lp ⟨[(2, .c (.pb 0 0)), (3, .c (.pb 1 0)), (30, .c (.ty (.i .i64))), (31, .c (.ty (.i .i64)))], [.bw .ApiState [(2, .nl), (3, .nl)], .bw .ApiState [(2, .own 2), (3, .own 3)], .ar (.n .ApiTenantState), .ar (.n .ApiCellState)]⟩ (fun n v => state_New_l1 v.1.2.2.1 n { v.2.2.1.1 with Tenants := v.2.2.2.1, Cells := v.2.2.2.2.1 } v.1.2.2.2.1) fun rc_state_New_l1 => .z))) .z)))) ok0 (vS vZ (vS vZ (vS (vS vZ (vB (vL fun _ => vZ))) (vS (vS vZ (vB (vL fun _ => vZ))) vZ))))
def s_load_count : TSpec := { f := 88, ps := ⟨[(0, .st .ApiConfig), (1, .st .ApiState)], []⟩, rs := ⟨[(0, .c (.ty (.i .i64)))], []⟩, β := Int, F := fun v => load_count v.1.1 v.1.2.1, g := (fun r => ((r, ()), ())), d := fun _ => default }
theorem load_count_ok [Fuel] : FnOk Tryz.prog s_load_count :=
  fnI 12 tmL [] [] Tryz.func88 (fun v => v.1.1) .z ok0 vZ
def s_load_active : TSpec := { f := 154, ps := ⟨[(0, .st .ApiTenantState)], []⟩, rs := ⟨[(0, .c (.ty .b))], []⟩, β := Bool, F := fun v => load_active v.1.1, g := (fun r => ((r, ()), ())), d := fun _ => default }
theorem load_active_ok [Fuel] : FnOk Tryz.prog s_load_active :=
  fnI 10 tmL [] [] Tryz.func154 (fun v => v.1.1) .z ok0 vZ
def s_load_add : TSpec := { f := 155, ps := ⟨[(0, .c (.own 0)), (1, .c (.ty (.i .i64))), (2, .c (.ty (.i .i64)))], [.ar (.i .i64)]⟩, rs := ⟨[], [.ar (.i .i64)]⟩, β := (List Int), F := fun v => load_add v.2.1 v.1.2.1 v.1.2.2.1, g := (fun r => ((), (r, ()))), d := fun v => v.2.1, dk := true, hd := fun _ _ => rfl }
theorem load_add_ok [Fuel] : FnOk Tryz.prog s_load_add :=
  fnI 21 tmL [] [] Tryz.func155 (fun v => v.2.1) .z ok0 vZ
def s_load_Booked_own0_0 [Fuel] : TSpec := { f := 73, ps := ⟨[(0, .st .ApiConfig), (1, .st .ApiState)], []⟩, rs := ⟨[(0, .c (.own 0))], [.ar (.i .i64)]⟩, β := (List Int), F := fun v => load_Booked v.1.1 v.1.2.1, g := (fun r => (((), ()), (r, ()))), d := fun _ => default }
theorem load_Booked_ok_own0_0 [Fuel] : FnOk Tryz.prog s_load_Booked_own0_0 :=
  fnI 60 tmL [s_load_count, s_load_active, s_load_add] [] Tryz.func73 (fun v => v.2.1) (.two .z (.two .z (.two (.two .z (.one (.lp ⟨[(2, .c (.pb 0 0)), (3, .c (.pb 1 0)), (5, .c (.own 2)), (15, .c (.ty (.i .i64))), (16, .c (.ty (.i .i64)))], [.bs .ApiConfig, .bs .ApiState, .ar (.i .i64)]⟩ (fun n v => load_Booked_l3 v.2.1 v.2.2.1 v.1.2.2.2.1 n v.2.2.2.1 v.1.2.2.2.2.1) fun rc_load_Booked_l3 => (.two .z (.two .z (.cut ⟨[(2, .c (.pb 0 0)), (3, .c (.pb 1 0)), (5, .c (.own 2)), (15, .c (.ty (.i .i64))), (16, .c (.ty (.i .i64)))], [.bs .ApiConfig, .bs .ApiState, .ar (.i .i64)]⟩ (fun v => load_Booked_k1 (fun y1 y2 => rc_load_Booked_l3 (((), ((), ((), (v.1.2.2.2.1, (y2, ()))))), (v.2.1, (v.2.2.1, (y1, ()))))) v.1.2.2.2.2.1 v.2.2.2.1) (.one (.two .z (.two .z (.two .z (.cut ⟨[(2, .c (.pb 0 0)), (3, .c (.pb 1 0)), (5, .c (.own 2)), (7, .c (.pb 3 0)), (8, .c (.pb 4 0)), (15, .c (.ty (.i .i64))), (16, .c (.ty (.i .i64)))], [.bs .ApiConfig, .bs .ApiState, .ar (.i .i64), .bs .ApiTenant, .bs .ApiTenantState]⟩ (fun v => load_Booked_k2 (fun y1 y2 => rc_load_Booked_l3 (((), ((), ((), (v.1.2.2.2.2.2.1, (y2, ()))))), (v.2.1, (v.2.2.1, (y1, ()))))) v.1.2.2.2.2.2.2.1 v.2.2.2.2.1 v.2.2.2.2.2.1 v.2.2.2.1) .z .z))))) .z)))))) .z))) (okC load_count_ok (okC load_active_ok (okC load_add_ok ok0))) (vS vZ (vS vZ (vS (vS vZ (vB (vL fun _ => (vS vZ (vS vZ (vC (vB (vS vZ (vS vZ (vS vZ (vC vZ vZ))))) vZ)))))) vZ)))
def s_cmp_isNaN_int : TSpec := { f := 183, ps := ⟨[(0, .c (.ty (.i .i64)))], []⟩, rs := ⟨[(0, .c (.ty .b))], []⟩, β := Bool, F := fun v => cmp_isNaN_int v.1.1, g := (fun r => ((r, ()), ())), d := fun _ => default }
theorem cmp_isNaN_int_ok [Fuel] : FnOk Tryz.prog s_cmp_isNaN_int :=
  fnI 6 tmL [] [] Tryz.func183 (fun v => v.1.1) .z ok0 vZ
def s_cmp_Compare_int : TSpec := { f := 114, ps := ⟨[(0, .c (.ty (.i .i64))), (1, .c (.ty (.i .i64)))], []⟩, rs := ⟨[(0, .c (.ty (.i .i64)))], []⟩, β := Int, F := fun v => cmp_Compare_int v.1.1 v.1.2.1, g := (fun r => ((r, ()), ())), d := fun _ => default }
theorem cmp_Compare_int_ok [Fuel] : FnOk Tryz.prog s_cmp_Compare_int :=
  fnI 20 tmL [s_cmp_isNaN_int] [] Tryz.func114 (fun v => v.1.1) .z (okC cmp_isNaN_int_ok ok0) vZ
def s_cmp_Or_int [Fuel] : TSpec := { f := 113, ps := ⟨[(0, .c (.ty (.l (.i .i64))))], []⟩, rs := ⟨[(0, .c (.ty (.i .i64)))], []⟩, β := Int, F := fun v => cmp_Or_int v.1.1, g := (fun r => ((r, ()), ())), d := fun _ => default }
theorem cmp_Or_int_ok [Fuel] : FnOk Tryz.prog s_cmp_Or_int :=
  fnI 18 tmL [] [] Tryz.func113 (fun v => v.1.1) (.two .z (.two .z (.two (.two .z (.one (.lp ⟨[(3, .c (.ty (.i .i64))), (6, .c (.ty (.l (.i .i64)))), (7, .c (.ty (.i .i64))), (8, .c (.ty (.i .i64)))], []⟩ (fun n v => cmp_Or_int_l1 v.1.2.1 v.1.1 v.1.2.2.1 n v.1.2.2.2.1) fun rc_cmp_Or_int_l1 => .z))) .z))) ok0 (vS vZ (vS vZ (vS (vS vZ (vB (vL fun _ => vZ))) vZ)))
def s_slices_Compact_int_int_own0_0 : TSpec := { f := 96, ps := ⟨[(0, .c (.own 0))], [.ar (.i .i64)]⟩, rs := ⟨[(0, .c (.own 1))], [.dd, .ar (.i .i64)]⟩, β := (List Int), F := fun v => slices_Compact_int_int v.2.1, g := (fun r => (((), ()), ((), (r, ())))), d := fun _ => default }
theorem slices_Compact_int_int_ok_own0_0 [Fuel] : FnOk Tryz.prog s_slices_Compact_int_int_own0_0 :=
  compI_ok Tryz.lays96 rfl (by intro vs w; rfl)
end Go.Proofs
namespace Go.Proofs
open Go Go.AM Go.CP Go.RowKit
set_option linter.unusedVariables false
set_option maxRecDepth 100000
def s_ref12_New_own0_2_0_3 [Fuel] : TSpec := { f := 100, ps := ⟨[(0, .st .ApiConfig)], []⟩, rs := ⟨[(0, .sw .ApiState [(2, .own 0), (3, .own 1)])], [.ar (.n .ApiTenantState), .ar (.n .ApiCellState)]⟩, β := ApiState, F := fun v => ref12_New v.1.1, g := (fun r => ((({ r with Tenants := ([] : List ApiTenantState), Cells := ([] : List ApiCellState) }, ((), ((), ()))), ()), (r.Tenants, (r.Cells, ())))), d := fun _ => default }
theorem ref12_New_ok_own0_2_0_3 [Fuel] : FnOk Tryz.prog s_ref12_New_own0_2_0_3 :=
  fnI 35 tmL [] [] Tryz.func100 (fun v => ({ v.1.1.1 with Tenants := v.2.1, Cells := v.2.2.1 })) (.two .z (.two .z (.two (.two .z (.one (.lp ⟨[(1, .c (.pb 0 0)), (2, .c (.pb 1 0)), (3, .c (.pb 2 0)), (4, .c (.ty (.i .i64)))], [.bs .ApiConfig, .bw .ApiState [(2, .nl), (3, .nl)], .bw .ApiState [(2, .own 3), (3, .nl)], .ar (.n .ApiTenantState)]⟩ (fun n v => ref12_New_l2 v.2.1 n { v.2.2.2.1.1 with Tenants := v.2.2.2.2.1, Cells := [] } v.1.2.2.2.1) fun rc_ref12_New_l2 => .z))) (.two (.two .z (.one (.lp ⟨[(1, .c (.pb 0 0)), (2, .c (.pb 1 0)), (3, .c (.pb 2 0)), (5, .c (.ty (.i .i64)))], [.bs .ApiConfig, .bw .ApiState [(2, .nl), (3, .nl)], .bw .ApiState [(2, .own 3), (3, .own 4)], .ar (.n .ApiTenantState), .ar (.n .ApiCellState)]⟩ (fun n v => ref12_New_l1 v.2.1 n { v.2.2.2.1.1 with Tenants := v.2.2.2.2.1, Cells := v.2.2.2.2.2.1 } v.1.2.2.2.1) fun rc_ref12_New_l1 => .z))) .z)))) ok0 (vS vZ (vS vZ (vS (vS vZ (vB (vL fun _ => vZ))) (vS (vS vZ (vB (vL fun _ => vZ))) vZ))))
def s_make_Tape_More : TSpec := { f := 117, ps := ⟨[(0, .c (.pb 0 0))], [.bs .MakeTape]⟩, rs := ⟨[(0, .c (.ty .b))], [.bs .MakeTape]⟩, β := (Bool × MakeTape), F := fun v => make_Tape_More v.2.1, g := (fun r => ((r.1, ()), (r.2, ()))), d := fun v => (default, v.2.1), dk := true, hd := fun _ _ => rfl }
theorem make_Tape_More_ok [Fuel] : FnOk Tryz.prog s_make_Tape_More :=
  fnI 13 tmL [] [] Tryz.func117 (fun v => (v.1.1, v.2.1)) .z ok0 vZ
def s_make_none : TSpec := { f := 104, ps := ⟨[(0, .c (.ty (.i .i64))), (1, .c (.ty (.i .i64)))], []⟩, rs := ⟨[(0, .st .ApiEntry)], []⟩, β := ApiEntry, F := fun v => make_none v.1.1 v.1.2.1, g := (fun r => ((r, ()), ())), d := fun _ => default }
theorem make_none_ok [Fuel] : FnOk Tryz.prog s_make_none :=
  fnI 8 tmL [] [] Tryz.func104 (fun v => v.1.1) .z ok0 vZ
def s_ref04_Has : TSpec := { f := 102, ps := ⟨[(0, .c (.ty (.i .i64))), (1, .c (.ty (.i .i64)))], []⟩, rs := ⟨[(0, .c (.ty .b))], []⟩, β := Bool, F := fun v => ref04_Has v.1.1 v.1.2.1, g := (fun r => ((r, ()), ())), d := fun _ => default }
theorem ref04_Has_ok [Fuel] : FnOk Tryz.prog s_ref04_Has :=
  fnI 19 tmL [] [] Tryz.func102 (fun v => v.1.1) .z ok0 vZ
def s_make_platform : TSpec := { f := 103, ps := ⟨[(0, .c (.pb 0 0)), (1, .st .ApiConfig), (2, .st .ApiState), (3, .c (.ty (.i .i64)))], [.bs .MakeTape]⟩, rs := ⟨[(0, .st .ApiEntry)], [.bs .MakeTape]⟩, β := (ApiEntry × MakeTape), F := fun v => make_platform v.2.1 v.1.2.1 v.1.2.2.1 v.1.2.2.2.1, g := (fun r => ((r.1, ()), (r.2, ()))), d := fun v => (default, v.2.1), dk := true, hd := fun _ _ => rfl }
theorem make_platform_ok [Fuel] : FnOk Tryz.prog s_make_platform :=
  fnI 112 tmL [s_make_none, s_make_Tape_Next, s_make_Tape_Range, s_ref04_Has] [] Tryz.func103 (fun v => (v.1.1, v.2.1)) (.two .z (.two .z (.two .z (.two .z (.cut ⟨[(8, .c (.pb 1 0)), (9, .c (.pb 2 0))], [.bs .MakeTape, .bs .ApiEntry, .bs .ApiEntry]⟩ (fun v => make_platform_k1 v.2.1 v.2.2.2.1) (.two .z (.one (.two .z (.two .z (.two .z (.two .z (.cut ⟨[(0, .c (.pb 0 0)), (3, .c (.ty (.i .i64))), (5, .c (.pb 1 0)), (6, .c (.pb 2 0)), (8, .c (.pb 3 0)), (9, .c (.pb 4 0)), (10, .c (.ty (.i .i64))), (11, .c (.pb 5 0)), (25, .c (.ty (.i .i64))), (43, .c (.ty .b))], [.bs .MakeTape, .bs .ApiConfig, .bs .ApiState, .bs .ApiEntry, .bs .ApiEntry, .bs .ApiCellState]⟩ (fun v => make_platform_k3 v.2.2.1 v.2.2.2.1 v.1.2.1 v.2.2.2.2.2.1 v.2.2.2.2.2.2.1 v.2.1 v.1.2.2.2.2.2.2.1 v.1.2.2.2.2.2.2.2.2.1 v.1.2.2.2.2.2.2.2.2.2.1) .z (.two .z (.cut ⟨[(0, .c (.pb 0 0)), (3, .c (.ty (.i .i64))), (5, .c (.pb 1 0)), (6, .c (.pb 2 0)), (8, .c (.pb 3 0)), (9, .c (.pb 4 0)), (10, .c (.ty (.i .i64))), (11, .c (.pb 5 0)), (25, .c (.ty (.i .i64))), (56, .c (.ty .b))], [.bs .MakeTape, .bs .ApiConfig, .bs .ApiState, .bs .ApiEntry, .bs .ApiEntry, .bs .ApiCellState]⟩ (fun v => make_platform_k2 v.2.2.1 v.2.2.2.1 v.1.2.1 v.2.2.2.2.2.1 v.2.2.2.2.2.2.1 v.2.1 v.1.2.2.2.2.2.2.1 v.1.2.2.2.2.2.2.2.2.1 v.1.2.2.2.2.2.2.2.2.2.1) .z .z))))))))) .z))))) (okC make_none_ok (okC make_Tape_Next_ok (okC make_Tape_Range_ok (okC ref04_Has_ok ok0)))) (vS vZ (vS vZ (vS vZ (vS vZ (vC (vS vZ (vB (vS vZ (vD vZ (vS vZ (vD vZ (vC vZ (vD vZ (vC vZ vZ))))))))) vZ)))))
def s_ref04_ZoneOf : TSpec := { f := 232, ps := ⟨[(0, .st .ApiConfig), (1, .c (.ty (.i .i64)))], []⟩, rs := ⟨[(0, .c (.ty (.i .i64)))], []⟩, β := Int, F := fun v => ref04_ZoneOf v.1.1 v.1.2.1, g := (fun r => ((r, ()), ())), d := fun _ => default }
theorem ref04_ZoneOf_ok [Fuel] : FnOk Tryz.prog s_ref04_ZoneOf :=
  fnI 20 tmL [] [] Tryz.func232 (fun v => v.1.1) .z ok0 vZ
def s_ref04_RegionOf : TSpec := { f := 202, ps := ⟨[(0, .st .ApiConfig), (1, .c (.ty (.i .i64)))], []⟩, rs := ⟨[(0, .c (.ty (.i .i64)))], []⟩, β := Int, F := fun v => ref04_RegionOf v.1.1 v.1.2.1, g := (fun r => ((r, ()), ())), d := fun _ => default }
theorem ref04_RegionOf_ok [Fuel] : FnOk Tryz.prog s_ref04_RegionOf :=
  fnI 17 tmL [s_ref04_ZoneOf] [] Tryz.func202 (fun v => v.1.1) .z (okC ref04_ZoneOf_ok ok0) vZ
def s_ref05_May : TSpec := { f := 180, ps := ⟨[(0, .st .ApiConfig), (1, .c (.ty (.i .i64))), (2, .c (.ty (.i .i64)))], []⟩, rs := ⟨[(0, .c (.ty .b))], []⟩, β := Bool, F := fun v => ref05_May v.1.1 v.1.2.1 v.1.2.2.1, g := (fun r => ((r, ()), ())), d := fun _ => default }
theorem ref05_May_ok [Fuel] : FnOk Tryz.prog s_ref05_May :=
  fnI 28 tmL [s_ref04_RegionOf, s_ref04_Has] [] Tryz.func180 (fun v => v.1.1) .z (okC ref04_RegionOf_ok (okC ref04_Has_ok ok0)) vZ
def s_ref05_Homes [Fuel] : TSpec := { f := 106, ps := ⟨[(0, .st .ApiConfig), (1, .c (.ty (.i .i64)))], []⟩, rs := ⟨[(0, .c (.ty (.l (.i .i64))))], []⟩, β := (List Int), F := fun v => ref05_Homes v.1.1 v.1.2.1, g := (fun r => ((r, ()), ())), d := fun _ => default }
theorem ref05_Homes_ok [Fuel] : FnOk Tryz.prog s_ref05_Homes :=
  fnI 23 tmL [s_ref05_May] [] Tryz.func106 (fun v => v.1.1) (.two .z (.two .z (.two (.two .z (.one (.lp ⟨[(1, .c (.ty (.i .i64))), (2, .c (.pb 0 0)), (5, .c (.own 1)), (6, .c (.ty (.i .i64)))], [.bs .ApiConfig, .ar (.i .i64)]⟩ (fun n v => ref05_Homes_l2 v.2.1 v.1.1 n v.2.2.1 v.1.2.2.2.1) fun rc_ref05_Homes_l2 => (.two .z (.cut ⟨[(1, .c (.ty (.i .i64))), (2, .c (.pb 0 0)), (5, .c (.own 1)), (6, .c (.ty (.i .i64)))], [.bs .ApiConfig, .ar (.i .i64)]⟩ (fun v => ref05_Homes_k1 (fun y1 y2 => rc_ref05_Homes_l2 ((v.1.1, ((), ((), (y2, ())))), (v.2.1, (y1, ())))) v.1.2.2.2.1 v.2.2.1) .z .z))))) .z))) (okC ref05_May_ok ok0) (vS vZ (vS vZ (vS (vS vZ (vB (vL fun _ => (vS vZ (vC vZ vZ))))) vZ)))
def s_make_pick : TSpec := { f := 105, ps := ⟨[(0, .c (.pb 0 0)), (1, .c (.ty (.l (.i .i64))))], [.bs .MakeTape]⟩, rs := ⟨[(0, .c (.ty (.i .i64)))], [.bs .MakeTape]⟩, β := (Int × MakeTape), F := fun v => make_pick v.2.1 v.1.2.1, g := (fun r => ((r.1, ()), (r.2, ()))), d := fun v => (default, v.2.1), dk := true, hd := fun _ _ => rfl }
theorem make_pick_ok [Fuel] : FnOk Tryz.prog s_make_pick :=
  fnI 15 tmL [s_make_Tape_Next] [] Tryz.func105 (fun v => (v.1.1, v.2.1)) .z (okC make_Tape_Next_ok ok0) vZ
def s_ref05_Apart : TSpec := { f := 181, ps := ⟨[(0, .st .ApiConfig), (1, .c (.ty (.i .i64))), (2, .c (.ty (.i .i64)))], []⟩, rs := ⟨[(0, .c (.ty .b))], []⟩, β := Bool, F := fun v => ref05_Apart v.1.1 v.1.2.1 v.1.2.2.1, g := (fun r => ((r, ()), ())), d := fun _ => default }
theorem ref05_Apart_ok [Fuel] : FnOk Tryz.prog s_ref05_Apart :=
  fnI 26 tmL [s_ref04_RegionOf] [] Tryz.func181 (fun v => v.1.1) .z (okC ref04_RegionOf_ok ok0) vZ
def s_ref05_Standbys [Fuel] : TSpec := { f := 107, ps := ⟨[(0, .st .ApiConfig), (1, .c (.ty (.i .i64))), (2, .c (.ty (.i .i64)))], []⟩, rs := ⟨[(0, .c (.ty (.l (.i .i64))))], []⟩, β := (List Int), F := fun v => ref05_Standbys v.1.1 v.1.2.1 v.1.2.2.1, g := (fun r => ((r, ()), ())), d := fun _ => default }
theorem ref05_Standbys_ok [Fuel] : FnOk Tryz.prog s_ref05_Standbys :=
  fnI 31 tmL [s_ref05_May, s_ref05_Apart] [] Tryz.func107 (fun v => v.1.1) (.two .z (.two .z (.two (.two .z (.one (.lp ⟨[(1, .c (.ty (.i .i64))), (2, .c (.ty (.i .i64))), (3, .c (.pb 0 0)), (7, .c (.own 1)), (8, .c (.ty (.i .i64)))], [.bs .ApiConfig, .ar (.i .i64)]⟩ (fun n v => ref05_Standbys_l2 v.2.1 v.1.1 v.1.2.1 n v.2.2.1 v.1.2.2.2.2.1) fun rc_ref05_Standbys_l2 => (.two .z (.cut ⟨[(1, .c (.ty (.i .i64))), (2, .c (.ty (.i .i64))), (3, .c (.pb 0 0)), (7, .c (.own 1)), (8, .c (.ty (.i .i64)))], [.bs .ApiConfig, .ar (.i .i64)]⟩ (fun v => ref05_Standbys_k1 (fun y1 y2 => rc_ref05_Standbys_l2 ((v.1.1, (v.1.2.1, ((), ((), (y2, ()))))), (v.2.1, (y1, ())))) v.1.2.2.2.2.1 v.2.2.1) .z .z))))) .z))) (okC ref05_May_ok (okC ref05_Apart_ok ok0)) (vS vZ (vS vZ (vS (vS vZ (vB (vL fun _ => (vS vZ (vC vZ vZ))))) vZ)))
def s_make_grant : TSpec := { f := 108, ps := ⟨[(0, .c (.pb 0 0)), (1, .st .ApiConfig), (2, .st .ApiState), (3, .st .ApiEntry)], [.bs .MakeTape]⟩, rs := ⟨[(0, .st .ApiEntry)], [.bs .MakeTape]⟩, β := (ApiEntry × MakeTape), F := fun v => make_grant v.2.1 v.1.2.1 v.1.2.2.1 v.1.2.2.2.1, g := (fun r => ((r.1, ()), (r.2, ()))), d := fun v => (default, v.2.1), dk := true, hd := fun _ _ => rfl }
theorem make_grant_ok [Fuel] : FnOk Tryz.prog s_make_grant :=
  fnI 129 tmL [s_make_Tape_Yes, s_make_Tape_Next, s_make_Tape_Range] [] Tryz.func108 (fun v => (v.1.1, v.2.1)) (.two .z (.two .z (.two .z (.cut ⟨[(0, .c (.pb 0 0)), (5, .c (.pb 1 0)), (6, .c (.pb 2 0)), (7, .c (.pb 3 0)), (8, .c (.pb 4 0)), (9, .c (.pb 5 0))], [.bs .MakeTape, .bs .ApiConfig, .bs .ApiState, .bs .ApiEntry, .bs .ApiEntry, .bs .ApiTenantState]⟩ (fun v => make_grant_k5 v.2.2.1 v.2.2.2.1 v.2.2.2.2.2.2.1 v.2.1 v.2.2.2.2.1) .z (.two .z (.cut ⟨[(0, .c (.pb 0 0)), (5, .c (.pb 1 0)), (6, .c (.pb 2 0)), (7, .c (.pb 3 0)), (8, .c (.pb 4 0)), (9, .c (.pb 5 0))], [.bs .MakeTape, .bs .ApiConfig, .bs .ApiState, .bs .ApiEntry, .bs .ApiEntry, .bs .ApiTenantState]⟩ (fun v => make_grant_k4 v.2.2.1 v.2.2.2.1 v.2.2.2.2.2.2.1 v.2.1 v.2.2.2.2.1) .z (.cut ⟨[(0, .c (.pb 0 0)), (5, .c (.pb 1 0)), (6, .c (.pb 2 0)), (7, .c (.pb 3 0)), (8, .c (.pb 4 0)), (9, .c (.pb 5 0))], [.bs .MakeTape, .bs .ApiConfig, .bs .ApiState, .bs .ApiEntry, .bs .ApiEntry, .bs .ApiTenantState]⟩ (fun v => make_grant_k3 v.2.2.1 v.2.2.2.1 v.2.2.2.2.2.2.1 v.2.1 v.2.2.2.2.1) .z (.two .z (.cut ⟨[(0, .c (.pb 0 0)), (5, .c (.pb 1 0)), (6, .c (.pb 2 0)), (7, .c (.pb 3 0)), (8, .c (.pb 4 0))], [.bs .MakeTape, .bs .ApiConfig, .bs .ApiState, .bs .ApiEntry, .bs .ApiEntry]⟩ (fun v => make_grant_k2 v.2.2.1 v.2.2.2.1 v.2.1 v.2.2.2.2.1) .z (.two .z (.two .z (.cut ⟨[(7, .c (.pb 1 0)), (8, .c (.pb 2 0))], [.bs .MakeTape, .bs .ApiEntry, .bs .ApiEntry]⟩ (fun v => make_grant_k1 v.2.1 v.2.2.1) .z .z)))))))))))) (okC make_Tape_Yes_ok (okC make_Tape_Next_ok (okC make_Tape_Range_ok ok0))) (vS vZ (vS vZ (vS vZ (vC vZ (vS vZ (vC vZ (vC vZ (vS vZ (vC vZ (vS vZ (vS vZ (vC vZ vZ))))))))))))
def s_make_Entry [Fuel] : TSpec := { f := 53, ps := ⟨[(0, .c (.pb 0 0)), (1, .st .ApiConfig), (2, .st .ApiState)], [.bs .MakeTape]⟩, rs := ⟨[(0, .st .ApiEntry)], [.bs .MakeTape]⟩, β := (ApiEntry × MakeTape), F := fun v => make_Entry v.2.1 v.1.2.1 v.1.2.2.1, g := (fun r => ((r.1, ()), (r.2, ()))), d := fun v => (default, v.2.1), dk := true, hd := fun _ _ => rfl }
theorem make_Entry_ok [Fuel] : FnOk Tryz.prog s_make_Entry :=
  fnI 126 tmL [s_make_Tape_Next, s_make_Tape_Yes, s_make_platform, s_make_none, s_ref05_Homes, s_make_pick, s_ref05_Standbys, s_make_grant] [] Tryz.func53 (fun v => (v.1.1, v.2.1)) (.two .z (.two .z (.cut ⟨[(0, .c (.pb 0 0)), (4, .c (.pb 1 0)), (5, .c (.pb 2 0)), (6, .c (.pb 3 0)), (7, .c (.ty (.i .i64)))], [.bs .MakeTape, .bs .ApiConfig, .bs .ApiState, .bs .ApiEntry]⟩ (fun v => make_Entry_k2 v.2.2.1 v.2.2.2.1 v.2.1 v.1.2.2.2.2.1) .z (.two .z (.two .z (.two .z (.two .z (.two .z (.two .z (.cut ⟨[(6, .c (.pb 1 0)), (11, .c (.pb 2 0))], [.bs .MakeTape, .bs .ApiEntry, .bs .ApiEntry]⟩ (fun v => make_Entry_k1 v.2.1 v.2.2.2.1) .z .z)))))))))) (okC make_Tape_Next_ok (okC make_Tape_Yes_ok (okC make_platform_ok (okC make_none_ok (okC ref05_Homes_ok (okC make_pick_ok (okC ref05_Standbys_ok (okC make_grant_ok ok0)))))))) (vS vZ (vS vZ (vC vZ (vS vZ (vS vZ (vS vZ (vS vZ (vS vZ (vS vZ (vC vZ vZ))))))))))
def s_ref06_in : TSpec := { f := 225, ps := ⟨[(0, .c (.ty (.i .i64))), (1, .c (.ty (.i .i64))), (2, .c (.ty (.i .i64)))], []⟩, rs := ⟨[(0, .c (.ty .b))], []⟩, β := Bool, F := fun v => ref06_in v.1.1 v.1.2.1 v.1.2.2.1, g := (fun r => ((r, ()), ())), d := fun _ => default }
theorem ref06_in_ok [Fuel] : FnOk Tryz.prog s_ref06_in :=
  fnI 15 tmL [] [] Tryz.func225 (fun v => v.1.1) .z ok0 vZ
def s_ref06_uses : TSpec := { f := 257, ps := ⟨[(0, .c (.ty (.i .i64)))], []⟩, rs := ⟨[(0, .c (.ty .s))], []⟩, β := ByteArray, F := fun v => ref06_uses v.1.1, g := (fun r => ((r, ()), ())), d := fun _ => default }
theorem ref06_uses_ok [Fuel] : FnOk Tryz.prog s_ref06_uses :=
  fnI 17 tmL [] [] Tryz.func257 (fun v => v.1.1) .z ok0 vZ
def s_ref06_has [Fuel] : TSpec := { f := 249, ps := ⟨[(0, .c (.ty (.i .i64))), (1, .c (.ty (.i .u8)))], []⟩, rs := ⟨[(0, .c (.ty .b))], []⟩, β := Bool, F := fun v => ref06_has v.1.1 v.1.2.1, g := (fun r => ((r, ()), ())), d := fun _ => default }
theorem ref06_has_ok [Fuel] : FnOk Tryz.prog s_ref06_has :=
  fnI 20 tmL [s_ref06_uses] [] Tryz.func249 (fun v => v.1.1) (.two .z (.two .z (.two (.two .z (.one (.lp ⟨[(1, .c (.ty (.i .u8))), (5, .c (.ty .s)), (6, .c (.ty (.i .i64)))], []⟩ (fun n v => ref06_has_l1 v.1.1 v.1.2.1 n v.1.2.2.1) fun rc_ref06_has_l1 => .z))) .z))) (okC ref06_uses_ok ok0) (vS vZ (vS vZ (vS (vS vZ (vB (vL fun _ => vZ))) vZ)))
def s_ref06_places [Fuel] : TSpec := { f := 226, ps := ⟨[(0, .st .ApiEntry), (1, .c (.ty (.i .i64))), (2, .c (.ty (.i .i64))), (3, .c (.ty (.i .i64)))], []⟩, rs := ⟨[(0, .c (.ty .b))], []⟩, β := Bool, F := fun v => ref06_places v.1.1 v.1.2.1 v.1.2.2.1 v.1.2.2.2.1, g := (fun r => ((r, ()), ())), d := fun _ => default }
theorem ref06_places_ok [Fuel] : FnOk Tryz.prog s_ref06_places :=
  fnI 105 tmL [s_ref06_has, s_ref06_in] [] Tryz.func226 (fun v => v.1.1) (.two .z (.two .z (.two .z (.two (.one (.cut ⟨[(2, .c (.ty (.i .i64))), (3, .c (.ty (.i .i64))), (4, .c (.pb 0 0)), (9, .c (.ty (.i .i64))), (30, .c (.ty .b))], [.bs .ApiEntry]⟩ (fun v => ref06_places_k2 v.2.1 v.1.1 v.1.2.1 v.1.2.2.2.1 v.1.2.2.2.2.1) .z (.two .z (.cut ⟨[(64, .c (.ty .b))], []⟩ (fun v => ref06_places_k1 v.1.1) .z .z)))) .z)))) (okC ref06_has_ok (okC ref06_in_ok ok0)) (vS vZ (vS vZ (vS vZ (vS (vB (vC vZ (vD vZ (vC vZ vZ)))) vZ))))
def s_ref06_numbers [Fuel] : TSpec := { f := 227, ps := ⟨[(0, .st .ApiEntry), (1, .c (.ty (.i .i64)))], []⟩, rs := ⟨[(0, .c (.ty .b))], []⟩, β := Bool, F := fun v => ref06_numbers v.1.1 v.1.2.1, g := (fun r => ((r, ()), ())), d := fun _ => default }
theorem ref06_numbers_ok [Fuel] : FnOk Tryz.prog s_ref06_numbers :=
  fnI 82 tmL [s_ref06_has, s_ref06_in] [] Tryz.func227 (fun v => v.1.1) (.two .z (.two .z (.two (.one (.cut ⟨[(1, .c (.ty (.i .i64))), (2, .c (.pb 0 0)), (5, .c (.ty (.i .i64))), (8, .c (.ty .b))], [.bs .ApiEntry]⟩ (fun v => ref06_numbers_k2 v.2.1 v.1.1 v.1.2.2.1 v.1.2.2.2.1) .z (.two .z (.cut ⟨[(1, .c (.ty (.i .i64))), (2, .c (.pb 0 0)), (5, .c (.ty (.i .i64))), (25, .c (.ty .b))], [.bs .ApiEntry]⟩ (fun v => ref06_numbers_k1 v.2.1 v.1.1 v.1.2.2.1 v.1.2.2.2.1) .z .z)))) .z))) (okC ref06_has_ok (okC ref06_in_ok ok0)) (vS vZ (vS vZ (vS (vB (vC vZ (vD vZ (vC vZ vZ)))) vZ)))
def s_ref06_right [Fuel] : TSpec := { f := 184, ps := ⟨[(0, .st .ApiEntry), (1, .c (.ty (.i .i64))), (2, .c (.ty (.i .i64))), (3, .c (.ty (.i .i64))), (4, .c (.ty (.i .i64)))], []⟩, rs := ⟨[(0, .c (.ty .b))], []⟩, β := Bool, F := fun v => ref06_right v.1.1 v.1.2.1 v.1.2.2.1 v.1.2.2.2.1 v.1.2.2.2.2.1, g := (fun r => ((r, ()), ())), d := fun _ => default }
theorem ref06_right_ok [Fuel] : FnOk Tryz.prog s_ref06_right :=
  fnI 31 tmL [s_ref06_in, s_ref06_places, s_ref06_numbers] [] Tryz.func184 (fun v => v.1.1) .z (okC ref06_in_ok (okC ref06_places_ok (okC ref06_numbers_ok ok0))) vZ
def s_ref06_Valid [Fuel] : TSpec := { f := 120, ps := ⟨[(0, .st .ApiConfig), (1, .st .ApiEntry)], []⟩, rs := ⟨[(0, .c (.ty .b))], []⟩, β := Bool, F := fun v => ref06_Valid v.1.1 v.1.2.1, g := (fun r => ((r, ()), ())), d := fun _ => default }
theorem ref06_Valid_ok [Fuel] : FnOk Tryz.prog s_ref06_Valid :=
  fnI 22 tmL [s_ref06_right] [] Tryz.func120 (fun v => v.1.1) .z (okC ref06_right_ok ok0) vZ
def s_ref12_no_own0_2_0_3 : TSpec := { f := 121, ps := ⟨[(0, .c (.ty (.i .i64)))], []⟩, rs := ⟨[(0, .sw .ApiState [(2, .own 0), (3, .own 1)]), (1, .c (.ty (.i .i64)))], [.ar (.n .ApiTenantState), .ar (.n .ApiCellState)]⟩, β := (ApiState × Int), F := fun v => ref12_no v.1.1, g := (fun r => ((({ r.1 with Tenants := ([] : List ApiTenantState), Cells := ([] : List ApiCellState) }, ((), ((), ()))), (r.2, ())), (r.1.Tenants, (r.1.Cells, ())))), d := fun _ => default }
theorem ref12_no_ok_own0_2_0_3 [Fuel] : FnOk Tryz.prog s_ref12_no_own0_2_0_3 :=
  fnI 6 tmL [] [] Tryz.func121 (fun v => (({ v.1.1.1 with Tenants := v.2.1, Cells := v.2.2.1 }), v.1.2.1)) .z ok0 vZ
end Go.Proofs
