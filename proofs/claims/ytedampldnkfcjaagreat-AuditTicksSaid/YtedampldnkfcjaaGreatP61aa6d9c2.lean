/-
  DERIVED: THE SHELF's CONTRACTS AT THIS DUMP, IN PLAIN WORDS (tools/lay-plain.mjs out of 'ZzLaysTryz.lean', which tools/lay-shelf.mjs wrote): THE SAME DECLARATIONS UNDER THE SAME NAMES: 'import', 'namespace', 'open', 'def', 'theorem' AND NOTHING ELSE: no command of the shelf's: FOR A HAND-IN. Each laying: the table of numbers ('.._ren') and one theorem, a field a fact of the dump's own or the kernel's comparison; each contract: ONE APPLICATION.
-/
import Derived.Shelf.SlSortCmp.NoneTotal
import Derived.Shelf.Slices.CompactI
import Derived.Shelf.Sort.Plain
import Derived.Shelf.Slices.In.SortNone
import Derived.Test.YtedampldnkfcjaaGreatProg
import Derived.Test.YtedampldnkfcjaaGreatP5b211327a
namespace Go.Proofs
open Go.Shelf
def Tryz.lays96_ren : Go.Shelf.Ren := ⟨fun | 20 => 96 | n => n, fun | 22 => 22 | 3 => 3 | 4 => 4 | 0 => 0 | n => n, fun | n => n⟩
theorem Tryz.lays96 : Go.Proofs.Lays2.n20 Tryz.prog Tryz.lays96_ren := {
  mixed := by kernel_rfl
  f20 := Tryz.func96.trans (congrArg some (by kernel_rfl))
  t0 := Tryz.underlying0
  a0 := Tryz.isAgg0
  z0 := Tryz.sizeOf0
  v0 := Tryz.zeroValue0
  t3 := Tryz.underlying3
  a3 := Tryz.isAgg3
  z3 := Tryz.sizeOf3
  v3 := Tryz.zeroValue3
  t4 := Tryz.underlying4
  a4 := Tryz.isAgg4
  z4 := Tryz.sizeOf4
  v4 := Tryz.zeroValue4
  t22 := Tryz.underlying22
  a22 := Tryz.isAgg22
  z22 := Tryz.sizeOf22
  v22 := Tryz.zeroValue22
  i3 := by kernel_rfl }
end Go.Proofs
namespace Go.Proofs
open Go.Shelf
def Tryz.lays168_ren : Go.Shelf.Ren := ⟨fun | 6 => 168 | 15 => 179 | 14 => 204 | 28 => 215 | 29 => 216 | 20 => 233 | 21 => 234 | 22 => 235 | 23 => 236 | 24 => 237 | 25 => 238 | 26 => 239 | 27 => 240 | 46 => 252 | 47 => 242 | 48 => 243 | 49 => 253 | 50 => 254 | 57 => 259 | n => n, fun | 22 => 73 | 24 => 58 | 25 => 181 | 3 => 3 | 39 => 111 | 0 => 0 | 53 => 216 | 55 => 218 | 4 => 4 | 46 => 209 | 45 => 208 | 50 => 213 | 5 => 5 | 9 => 9 | 66 => 237 | 70 => 241 | 76 => 249 | 77 => 250 | n => n, fun | n => n⟩
theorem Tryz.lays168 : Go.Proofs.SlLaysF0.n6 Tryz.prog Tryz.lays168_ren := {
  mixed := by kernel_rfl
  f6 := ⟨Tryz.f168.name, by decide, Tryz.func168.trans (congrArg some (by kernel_rfl))⟩
  f14 := ⟨Tryz.f204.name, by decide, Tryz.func204.trans (congrArg some (by kernel_rfl))⟩
  f15 := Tryz.func179.trans (congrArg some (by kernel_rfl))
  f20 := ⟨Tryz.f233.name, by decide, Tryz.func233.trans (congrArg some (by kernel_rfl))⟩
  f21 := ⟨Tryz.f234.name, by decide, Tryz.func234.trans (congrArg some (by kernel_rfl))⟩
  f22 := ⟨Tryz.f235.name, by decide, Tryz.func235.trans (congrArg some (by kernel_rfl))⟩
  f23 := ⟨Tryz.f236.name, by decide, Tryz.func236.trans (congrArg some (by kernel_rfl))⟩
  f24 := ⟨Tryz.f237.name, by decide, Tryz.func237.trans (congrArg some (by kernel_rfl))⟩
  f25 := ⟨Tryz.f238.name, by decide, Tryz.func238.trans (congrArg some (by kernel_rfl))⟩
  f26 := ⟨Tryz.f239.name, by decide, Tryz.func239.trans (congrArg some (by kernel_rfl))⟩
  f27 := ⟨Tryz.f240.name, by decide, Tryz.func240.trans (congrArg some (by kernel_rfl))⟩
  f28 := Tryz.func215.trans (congrArg some (by kernel_rfl))
  f29 := Tryz.func216.trans (congrArg some (by kernel_rfl))
  f46 := ⟨Tryz.f252.name, by decide, Tryz.func252.trans (congrArg some (by kernel_rfl))⟩
  f47 := Tryz.func242.trans (congrArg some (by kernel_rfl))
  f48 := Tryz.func243.trans (congrArg some (by kernel_rfl))
  f49 := ⟨Tryz.f253.name, by decide, Tryz.func253.trans (congrArg some (by kernel_rfl))⟩
  f50 := ⟨Tryz.f254.name, by decide, Tryz.func254.trans (congrArg some (by kernel_rfl))⟩
  f57 := ⟨Tryz.f259.name, by decide, Tryz.func259.trans (congrArg some (by kernel_rfl))⟩
  t0 := Tryz.underlying0
  a0 := Tryz.isAgg0
  z0 := Tryz.sizeOf0
  v0 := Tryz.zeroValue0
  t3 := Tryz.underlying3
  a3 := Tryz.isAgg3
  z3 := Tryz.sizeOf3
  v3 := Tryz.zeroValue3
  t4 := Tryz.underlying4
  a4 := Tryz.isAgg4
  z4 := Tryz.sizeOf4
  v4 := Tryz.zeroValue4
  t5 := Tryz.underlying5
  a5 := Tryz.isAgg5
  z5 := Tryz.sizeOf5
  v5 := Tryz.zeroValue5
  t9 := Tryz.underlying9
  a9 := Tryz.isAgg9
  z9 := Tryz.sizeOf9
  v9 := Tryz.zeroValue9
  t22 := Tryz.underlying73
  a22 := Tryz.isAgg73
  z22 := Tryz.sizeOf73
  v22 := Tryz.zeroValue73
  t25 := Tryz.underlying181
  a25 := Tryz.isAgg181
  z25 := Tryz.sizeOf181
  v25 := Tryz.zeroValue181
  t39 := Tryz.underlying111
  a39 := Tryz.isAgg111
  z39 := Tryz.sizeOf111
  v39 := Tryz.zeroValue111
  t45 := Tryz.underlying208
  a45 := Tryz.isAgg208
  z45 := Tryz.sizeOf208
  v45 := Tryz.zeroValue208
  t46 := Tryz.underlying209
  a46 := Tryz.isAgg209
  z46 := Tryz.sizeOf209
  v46 := Tryz.zeroValue209
  t50 := Tryz.underlying213
  a50 := Tryz.isAgg213
  z50 := Tryz.sizeOf213
  v50 := Tryz.zeroValue213
  t53 := Tryz.underlying216
  a53 := Tryz.isAgg216
  z53 := Tryz.sizeOf216
  v53 := Tryz.zeroValue216
  t55 := Tryz.underlying218
  a55 := Tryz.isAgg218
  z55 := Tryz.sizeOf218
  v55 := Tryz.zeroValue218
  t66 := Tryz.underlying237
  a66 := Tryz.isAgg237
  z66 := Tryz.sizeOf237
  v66 := Tryz.zeroValue237
  t70 := Tryz.underlying241
  a70 := Tryz.isAgg241
  z70 := Tryz.sizeOf241
  v70 := Tryz.zeroValue241
  t76 := Tryz.underlying249
  a76 := Tryz.isAgg249
  z76 := Tryz.sizeOf249
  v76 := Tryz.zeroValue249
  t77 := Tryz.underlying250
  a77 := Tryz.isAgg250
  z77 := Tryz.sizeOf250
  v77 := Tryz.zeroValue250 }
end Go.Proofs
namespace Go.Proofs
open Go Go.AM Go.CP Go.RowKit
set_option linter.unusedVariables false
set_option maxRecDepth 100000
def tmL : List (Nat × Ty) := [(22, (.i .i64)), (25, (.n .ApiZone)), (26, (.n .ApiCell)), (27, (.n .ApiTenant)), (28, (.n .ApiVersion)), (32, (.n .ApiTenantState)), (33, (.n .ApiCellState)), (47, (.n .ApiEntry)), (71, (.n .Arr2Int)), (73, (.n .ApiSpan)), (255, .s)]
def s_make_New : TSpec := { f := 54, ps := ⟨[(0, .c (.ty (.l (.i .i64))))], []⟩, rs := ⟨[(0, .c (.pb 0 0))], [.bs .MakeTape]⟩, β := MakeTape, F := fun v => make_New v.1.1, g := (fun r => (((), ()), (r, ()))), d := fun _ => default }
theorem make_New_ok [Fuel] : FnOk Tryz.prog s_make_New :=
  fnI 6 tmL [] [] Tryz.func54 (fun v => v.2.1) .z ok0 vZ
def s_make_Mod : TSpec := { f := 116, ps := ⟨[(0, .c (.ty (.i .i64))), (1, .c (.ty (.i .i64)))], []⟩, rs := ⟨[(0, .c (.ty (.i .i64)))], []⟩, β := Int, F := fun v => make_Mod v.1.1 v.1.2.1, g := (fun r => ((r, ()), ())), d := fun _ => default }
theorem make_Mod_ok [Fuel] : FnOk Tryz.prog s_make_Mod :=
  fnI 12 tmL [] [] Tryz.func116 (fun v => v.1.1) .z ok0 vZ
def s_make_Tape_Next : TSpec := { f := 62, ps := ⟨[(0, .c (.pb 0 0)), (1, .c (.ty (.i .i64)))], [.bs .MakeTape]⟩, rs := ⟨[(0, .c (.ty (.i .i64)))], [.bs .MakeTape]⟩, β := (Int × MakeTape), F := fun v => make_Tape_Next v.2.1 v.1.2.1, g := (fun r => ((r.1, ()), (r.2, ()))), d := fun v => (default, v.2.1), dk := true, hd := fun _ _ => rfl }
theorem make_Tape_Next_ok [Fuel] : FnOk Tryz.prog s_make_Tape_Next :=
  fnI 53 tmL [s_make_Mod] [] Tryz.func62 (fun v => (v.1.1, v.2.1)) .z (okC make_Mod_ok ok0) vZ
def s_make_Between : TSpec := { f := 61, ps := ⟨[(0, .c (.ty (.i .i64))), (1, .c (.ty (.i .i64))), (2, .c (.ty (.i .i64)))], []⟩, rs := ⟨[(0, .c (.ty (.i .i64)))], []⟩, β := Int, F := fun v => make_Between v.1.1 v.1.2.1 v.1.2.2.1, g := (fun r => ((r, ()), ())), d := fun _ => default }
theorem make_Between_ok [Fuel] : FnOk Tryz.prog s_make_Between :=
  fnI 15 tmL [s_make_Mod] [] Tryz.func61 (fun v => v.1.1) .z (okC make_Mod_ok ok0) vZ
def s_make_Tape_Range : TSpec := { f := 63, ps := ⟨[(0, .c (.pb 0 0)), (1, .c (.ty (.i .i64))), (2, .c (.ty (.i .i64)))], [.bs .MakeTape]⟩, rs := ⟨[(0, .c (.ty (.i .i64)))], [.bs .MakeTape]⟩, β := (Int × MakeTape), F := fun v => make_Tape_Range v.2.1 v.1.2.1 v.1.2.2.1, g := (fun r => ((r.1, ()), (r.2, ()))), d := fun v => (default, v.2.1), dk := true, hd := fun _ _ => rfl }
theorem make_Tape_Range_ok [Fuel] : FnOk Tryz.prog s_make_Tape_Range :=
  fnI 15 tmL [s_make_Tape_Next] [] Tryz.func63 (fun v => (v.1.1, v.2.1)) .z (okC make_Tape_Next_ok ok0) vZ
def s_make_Tape_Yes : TSpec := { f := 64, ps := ⟨[(0, .c (.pb 0 0)), (1, .c (.ty (.i .i64)))], [.bs .MakeTape]⟩, rs := ⟨[(0, .c (.ty .b))], [.bs .MakeTape]⟩, β := (Bool × MakeTape), F := fun v => make_Tape_Yes v.2.1 v.1.2.1, g := (fun r => ((r.1, ()), (r.2, ()))), d := fun v => (default, v.2.1), dk := true, hd := fun _ _ => rfl }
theorem make_Tape_Yes_ok [Fuel] : FnOk Tryz.prog s_make_Tape_Yes :=
  fnI 9 tmL [s_make_Tape_Next] [] Tryz.func64 (fun v => (v.1.1, v.2.1)) .z (okC make_Tape_Next_ok ok0) vZ
def s_make_Config [Fuel] : TSpec := { f := 15, ps := ⟨[(0, .c (.ty (.l (.i .i64))))], []⟩, rs := ⟨[(0, .st .ApiConfig)], []⟩, β := ApiConfig, F := fun v => make_Config v.1.1, g := (fun r => ((r, ()), ())), d := fun _ => default }
theorem make_Config_ok [Fuel] : FnOk Tryz.prog s_make_Config :=
  fnI 182 tmL [s_make_New, s_make_Tape_Next, s_make_Between, s_make_Tape_Range, s_make_Tape_Yes] [] Tryz.func15 (fun v => v.1.1) (.two .z (.two .z (.two .z (.two (.two .z (.one (.lp ⟨[(2, .c (.pb 0 0)), (3, .c (.pb 1 0)), (4, .c (.pb 2 0)), (5, .c (.ty (.i .i64)))], [.bw .ApiConfig [(1, .nl), (2, .nl), (3, .nl), (4, .nl), (5, .nl), (6, .nl)], .bs .MakeTape, .bw .ApiConfig [(1, .own 3), (2, .nl), (3, .nl), (4, .nl), (5, .nl), (6, .nl)], .ar (.n .ApiZone)]⟩ (fun n v => make_Config_l7 n v.2.2.1 { v.2.2.2.1.1 with Zones := v.2.2.2.2.1, Cells := [], Tenants := [], Versions := [], Replicas := [], Observers := [] } v.1.2.2.2.1) fun rc_make_Config_l7 => .z))) (.two (.two .z (.one (.lp ⟨[(2, .c (.pb 0 0)), (3, .c (.pb 1 0)), (4, .c (.pb 2 0)), (6, .c (.ty (.i .i64)))], [.bw .ApiConfig [(1, .nl), (2, .nl), (3, .nl), (4, .nl), (5, .nl), (6, .nl)], .bs .MakeTape, .bw .ApiConfig [(1, .own 3), (2, .own 4), (3, .nl), (4, .nl), (5, .nl), (6, .nl)], .ar (.n .ApiZone), .ar (.n .ApiCell)]⟩ (fun n v => make_Config_l6 n v.2.2.1 { v.2.2.2.1.1 with Zones := v.2.2.2.2.1, Cells := v.2.2.2.2.2.1, Tenants := [], Versions := [], Replicas := [], Observers := [] } v.1.2.2.2.1) fun rc_make_Config_l6 => .z))) (.two (.two .z (.one (.lp ⟨[(2, .c (.pb 0 0)), (3, .c (.pb 1 0)), (4, .c (.pb 2 0)), (7, .c (.ty (.i .i64)))], [.bw .ApiConfig [(1, .nl), (2, .nl), (3, .nl), (4, .nl), (5, .nl), (6, .nl)], .bs .MakeTape, .bw .ApiConfig [(1, .own 3), (2, .own 4), (3, .own 5), (4, .nl), (5, .nl), (6, .nl)], .ar (.n .ApiZone), .ar (.n .ApiCell), .ar (.n .ApiTenant)]⟩ (fun n v => make_Config_l5 n v.2.2.1 { v.2.2.2.1.1 with Zones := v.2.2.2.2.1, Cells := v.2.2.2.2.2.1, Tenants := v.2.2.2.2.2.2.1, Versions := [], Replicas := [], Observers := [] } v.1.2.2.2.1) fun rc_make_Config_l5 => (.two .z (.two (.one (.two .z (.two .z (.cut ⟨[(2, .c (.pb 0 0)), (3, .c (.pb 1 0)), (4, .c (.pb 2 0)), (7, .c (.ty (.i .i64))), (9, .c (.pb 6 0))], [.bw .ApiConfig [(1, .nl), (2, .nl), (3, .nl), (4, .nl), (5, .nl), (6, .nl)], .bs .MakeTape, .bw .ApiConfig [(1, .own 3), (2, .own 4), (3, .own 5), (4, .nl), (5, .nl), (6, .nl)], .ar (.n .ApiZone), .ar (.n .ApiCell), .ar (.n .ApiTenant), .bs .ApiTenant]⟩ (fun v => make_Config_k1 (fun y1 y2 y3 => rc_make_Config_l5 (((), ((), ((), (y3, ())))), (({ v.2.1.1 with Zones := [], Cells := [], Tenants := [], Versions := [], Replicas := [], Observers := [] }, ((), ((), ((), ((), ((), ((), ()))))))), (y1, ((y2, ((), ((), ((), ((), ((), ((), ()))))))), (y2.Zones, (y2.Cells, (y2.Tenants, ())))))))) { v.2.2.2.1.1 with Zones := v.2.2.2.2.1, Cells := v.2.2.2.2.2.1, Tenants := v.2.2.2.2.2.2.1, Versions := [], Replicas := [], Observers := [] } v.1.2.2.2.1 v.2.2.1 v.2.2.2.2.2.2.2.1) .z .z)))) .z))))) (.two .z (.two (.two .z (.one (.lp ⟨[(2, .c (.pb 0 0)), (3, .c (.pb 1 0)), (4, .c (.pb 2 0)), (10, .c (.ty (.i .i64)))], [.bw .ApiConfig [(1, .nl), (2, .nl), (3, .nl), (4, .nl), (5, .nl), (6, .nl)], .bs .MakeTape, .bw .ApiConfig [(1, .own 3), (2, .own 4), (3, .own 5), (4, .own 6), (5, .nl), (6, .nl)], .ar (.n .ApiZone), .ar (.n .ApiCell), .ar (.n .ApiTenant), .ar (.n .ApiVersion)]⟩ (fun n v => make_Config_l4 n v.2.2.1 { v.2.2.2.1.1 with Zones := v.2.2.2.2.1, Cells := v.2.2.2.2.2.1, Tenants := v.2.2.2.2.2.2.1, Versions := v.2.2.2.2.2.2.2.1, Replicas := [], Observers := [] } v.1.2.2.2.1) fun rc_make_Config_l4 => .z))) (.two (.two .z (.one (.lp ⟨[(2, .c (.pb 0 0)), (3, .c (.pb 1 0)), (4, .c (.pb 2 0)), (12, .c (.ty (.i .i64)))], [.bw .ApiConfig [(1, .nl), (2, .nl), (3, .nl), (4, .nl), (5, .nl), (6, .nl)], .bs .MakeTape, .bw .ApiConfig [(1, .own 3), (2, .own 4), (3, .own 5), (4, .own 6), (5, .own 7), (6, .nl)], .ar (.n .ApiZone), .ar (.n .ApiCell), .ar (.n .ApiTenant), .ar (.n .ApiVersion), .ar (.i .i64)]⟩ (fun n v => make_Config_l3 n v.2.2.1 { v.2.2.2.1.1 with Zones := v.2.2.2.2.1, Cells := v.2.2.2.2.2.1, Tenants := v.2.2.2.2.2.2.1, Versions := v.2.2.2.2.2.2.2.1, Replicas := v.2.2.2.2.2.2.2.2.1, Observers := [] } v.1.2.2.2.1) fun rc_make_Config_l3 => .z))) (.two (.two .z (.one (.lp ⟨[(2, .c (.pb 0 0)), (3, .c (.pb 1 0)), (4, .c (.pb 2 0)), (13, .c (.ty (.i .i64)))], [.bw .ApiConfig [(1, .nl), (2, .nl), (3, .nl), (4, .nl), (5, .nl), (6, .nl)], .bs .MakeTape, .bw .ApiConfig [(1, .own 3), (2, .own 4), (3, .own 5), (4, .own 6), (5, .own 7), (6, .own 8)], .ar (.n .ApiZone), .ar (.n .ApiCell), .ar (.n .ApiTenant), .ar (.n .ApiVersion), .ar (.i .i64), .ar (.i .i64)]⟩ (fun n v => make_Config_l2 n v.2.2.1 { v.2.2.2.1.1 with Zones := v.2.2.2.2.1, Cells := v.2.2.2.2.2.1, Tenants := v.2.2.2.2.2.2.1, Versions := v.2.2.2.2.2.2.2.1, Replicas := v.2.2.2.2.2.2.2.2.1, Observers := v.2.2.2.2.2.2.2.2.2.1 } v.1.2.2.2.1) fun rc_make_Config_l2 => .z))) .z)))))))))) (okC make_New_ok (okC make_Tape_Next_ok (okC make_Between_ok (okC make_Tape_Range_ok (okC make_Tape_Yes_ok ok0))))) (vS vZ (vS vZ (vS vZ (vS (vS vZ (vB (vL fun _ => vZ))) (vS (vS vZ (vB (vL fun _ => vZ))) (vS (vS vZ (vB (vL fun _ => (vS vZ (vS (vB (vS vZ (vS vZ (vC vZ vZ)))) vZ))))) (vS vZ (vS (vS vZ (vB (vL fun _ => vZ))) (vS (vS vZ (vB (vL fun _ => vZ))) (vS (vS vZ (vB (vL fun _ => vZ))) vZ))))))))))
def s_state_New_own0_2_0_3 [Fuel] : TSpec := { f := 56, ps := ⟨[(0, .st .ApiConfig)], []⟩, rs := ⟨[(0, .sw .ApiState [(2, .own 0), (3, .own 1)])], [.ar (.n .ApiTenantState), .ar (.n .ApiCellState)]⟩, β := ApiState, F := fun v => state_New v.1.1, g := (fun r => ((({ r with Tenants := ([] : List ApiTenantState), Cells := ([] : List ApiCellState) }, ((), ((), ()))), ()), (r.Tenants, (r.Cells, ())))), d := fun _ => default }
theorem state_New_ok_own0_2_0_3 [Fuel] : FnOk Tryz.prog s_state_New_own0_2_0_3 :=
  fnI 41 tmL [] [] Tryz.func56 (fun v => ({ v.1.1.1 with Tenants := v.2.1, Cells := v.2.2.1 })) (.two .z (.two .z (.two (.two .z (.one (.lp ⟨[(2, .c (.pb 0 0)), (3, .c (.pb 1 0)), (17, .c (.ty (.i .i64))), (18, .c (.ty (.i .i64)))], [.bw .ApiState [(2, .nl), (3, .nl)], .bw .ApiState [(2, .own 2), (3, .own 3)], .ar (.n .ApiTenantState), .ar (.n .ApiCellState)]⟩ (fun n v => state_New_l2 v.1.2.2.1 n { v.2.2.1.1 with Tenants := v.2.2.2.1, Cells := v.2.2.2.2.1 } v.1.2.2.2.1) fun rc_state_New_l2 => .z))) (.two (.two .z (.one (.lp ⟨[(2, .c (.pb 0 0)), (3, .c (.pb 1 0)), (30, .c (.ty (.i .i64))), (31, .c (.ty (.i .i64)))], [.bw .ApiState [(2, .nl), (3, .nl)], .bw .ApiState [(2, .own 2), (3, .own 3)], .ar (.n .ApiTenantState), .ar (.n .ApiCellState)]⟩ (fun n v => state_New_l1 v.1.2.2.1 n { v.2.2.1.1 with Tenants := v.2.2.2.1, Cells := v.2.2.2.2.1 } v.1.2.2.2.1) fun rc_state_New_l1 => .z))) .z)))) ok0 (vS vZ (vS vZ (vS (vS vZ (vB (vL fun _ => vZ))) (vS (vS vZ (vB (vL fun _ => vZ))) vZ))))
def s_entry_below : TSpec := { f := 251, ps := ⟨[(0, .c (.ty (.i .i64)))], []⟩, rs := ⟨[(0, .st .EntrySpan)], []⟩, β := EntrySpan, F := fun v => entry_below v.1.1, g := (fun r => ((r, ()), ())), d := fun _ => default }
theorem entry_below_ok [Fuel] : FnOk Tryz.prog s_entry_below :=
  fnI 6 tmL [] [] Tryz.func251 (fun v => v.1.1) .z ok0 vZ
def s_entry_formOf : TSpec := { f := 229, ps := ⟨[(0, .c (.ty (.i .i64))), (1, .st .EntryBounds)], []⟩, rs := ⟨[(0, .st .EntryForm), (1, .c (.ty .b))], []⟩, β := (EntryForm × Bool), F := fun v => entry_formOf v.1.1 v.1.2.1, g := (fun r => ((r.1, (r.2, ())), ())), d := fun _ => default }
theorem entry_formOf_ok [Fuel] : FnOk Tryz.prog s_entry_formOf :=
  fnI 120 tmL [s_entry_below] [] Tryz.func229 (fun v => (v.1.1, v.1.2.1)) (.two .z (.two .z (.two .z (.two .z (.two .z (.two .z (.cut ⟨[(4, .c (.pb 0 0)), (14, .c (.pb 1 0))], [.bs .EntryForm, .bs .EntryForm]⟩ (fun v => entry_formOf_k1 v.2.2.1) (.two .z (.one (.two .z (.two .z (.two .z (.two .z (.two .z (.two .z (.two .z (.two .z (.cut ⟨[(3, .c (.pb 0 0)), (4, .c (.pb 1 0)), (7, .c (.pb 2 0)), (8, .c (.pb 3 0)), (10, .c (.pb 4 0)), (11, .c (.pb 5 0)), (13, .c (.pb 6 0)), (14, .c (.pb 7 0)), (36, .c (.ty (.i .i64))), (70, .c (.ty .b))], [.bs .EntryBounds, .bs .EntryForm, .bs .EntrySpan, .bs .EntrySpan, .bs .EntrySpan, .bs .EntrySpan, .bs .EntrySpan, .bs .EntryForm]⟩ (fun v => entry_formOf_k4 v.1.2.2.2.2.2.2.2.2.1 v.2.1 v.2.2.2.1 v.2.2.2.2.1 v.2.2.2.2.2.1 v.2.2.2.2.2.2.1 v.2.2.2.2.2.2.2.1 v.2.2.2.2.2.2.2.2.1 v.1.2.2.2.2.2.2.2.2.2.1) .z (.two .z (.two .z (.two .z (.two .z (.two .z (.two .z (.two .z (.cut ⟨[(3, .c (.pb 0 0)), (4, .c (.pb 1 0)), (8, .c (.pb 2 0)), (10, .c (.pb 3 0)), (11, .c (.pb 4 0)), (13, .c (.pb 5 0)), (14, .c (.pb 6 0)), (36, .c (.ty (.i .i64))), (93, .c (.ty .b))], [.bs .EntryBounds, .bs .EntryForm, .bs .EntrySpan, .bs .EntrySpan, .bs .EntrySpan, .bs .EntrySpan, .bs .EntryForm]⟩ (fun v => entry_formOf_k3 v.1.2.2.2.2.2.2.2.1 v.2.1 v.2.2.2.1 v.2.2.2.2.1 v.2.2.2.2.2.1 v.2.2.2.2.2.2.1 v.2.2.2.2.2.2.2.1 v.1.2.2.2.2.2.2.2.2.1) .z (.two .z (.two .z (.two .z (.two .z (.two .z (.cut ⟨[(4, .c (.pb 0 0)), (13, .c (.pb 1 0)), (14, .c (.pb 2 0)), (36, .c (.ty (.i .i64))), (112, .c (.ty .b))], [.bs .EntryForm, .bs .EntrySpan, .bs .EntryForm]⟩ (fun v => entry_formOf_k2 v.1.2.2.2.1 v.2.2.1 v.2.2.2.1 v.1.2.2.2.2.1) .z .z))))))))))))))))))))))))) .z))))))) (okC entry_below_ok ok0) (vS vZ (vS vZ (vS vZ (vS vZ (vS vZ (vS vZ (vC (vS vZ (vB (vS vZ (vD vZ (vS vZ (vD vZ (vS vZ (vD vZ (vS vZ (vD vZ (vC vZ (vD vZ (vS vZ (vD vZ (vS vZ (vD vZ (vS vZ (vD vZ (vC vZ (vD vZ (vS vZ (vD vZ (vS vZ (vD vZ (vC vZ vZ))))))))))))))))))))))))) vZ)))))))
end Go.Proofs
namespace Go.Proofs
open Go Go.AM Go.CP Go.RowKit
set_option linter.unusedVariables false
set_option maxRecDepth 100000
def s_entry_span_has : TSpec := { f := 230, ps := ⟨[(0, .st .EntrySpan), (1, .c (.ty (.i .i64)))], []⟩, rs := ⟨[(0, .c (.ty .b))], []⟩, β := Bool, F := fun v => entry_span_has v.1.1 v.1.2.1, g := (fun r => ((r, ()), ())), d := fun _ => default }
theorem entry_span_has_ok [Fuel] : FnOk Tryz.prog s_entry_span_has :=
  fnI 15 tmL [] [] Tryz.func230 (fun v => v.1.1) .z ok0 vZ
def s_entry_fits : TSpec := { f := 193, ps := ⟨[(0, .st .ApiEntry), (1, .st .EntryBounds)], []⟩, rs := ⟨[(0, .c (.ty .b))], []⟩, β := Bool, F := fun v => entry_fits v.1.1 v.1.2.1, g := (fun r => ((r, ()), ())), d := fun _ => default }
theorem entry_fits_ok [Fuel] : FnOk Tryz.prog s_entry_fits :=
  fnI 85 tmL [s_entry_formOf, s_entry_span_has] [] Tryz.func193 (fun v => v.1.1) .z (okC entry_formOf_ok (okC entry_span_has_ok ok0)) vZ
def s_entry_Shape : TSpec := { f := 192, ps := ⟨[(0, .st .ApiEntry)], []⟩, rs := ⟨[(0, .c (.ty .b))], []⟩, β := Bool, F := fun v => entry_Shape v.1.1, g := (fun r => ((r, ()), ())), d := fun _ => default }
theorem entry_Shape_ok [Fuel] : FnOk Tryz.prog s_entry_Shape :=
  fnI 6 tmL [s_entry_fits] [] Tryz.func192 (fun v => v.1.1) .z (okC entry_fits_ok ok0) vZ
def s_entry_Valid : TSpec := { f := 135, ps := ⟨[(0, .st .ApiConfig), (1, .st .ApiEntry)], []⟩, rs := ⟨[(0, .c (.ty .b))], []⟩, β := Bool, F := fun v => entry_Valid v.1.1 v.1.2.1, g := (fun r => ((r, ()), ())), d := fun _ => default }
theorem entry_Valid_ok [Fuel] : FnOk Tryz.prog s_entry_Valid :=
  fnI 23 tmL [s_entry_Shape, s_entry_fits] [] Tryz.func135 (fun v => v.1.1) .z (okC entry_Shape_ok (okC entry_fits_ok ok0)) vZ
def s_state_modeOf : TSpec := { f := 194, ps := ⟨[(0, .st .ApiState), (1, .c (.ty (.i .i64)))], []⟩, rs := ⟨[(0, .c (.ty (.i .i64)))], []⟩, β := Int, F := fun v => state_modeOf v.1.1 v.1.2.1, g := (fun r => ((r, ()), ())), d := fun _ => default }
theorem state_modeOf_ok [Fuel] : FnOk Tryz.prog s_state_modeOf :=
  fnI 20 tmL [] [] Tryz.func194 (fun v => v.1.1) .z ok0 vZ
def s_topo_within : TSpec := { f := 205, ps := ⟨[(0, .c (.ty (.i .i64))), (1, .c (.ty (.i .i64))), (2, .c (.ty (.i .i64)))], []⟩, rs := ⟨[(0, .c (.ty .b))], []⟩, β := Bool, F := fun v => topo_within v.1.1 v.1.2.1 v.1.2.2.1, g := (fun r => ((r, ()), ())), d := fun _ => default }
theorem topo_within_ok [Fuel] : FnOk Tryz.prog s_topo_within :=
  fnI 15 tmL [] [] Tryz.func205 (fun v => v.1.1) .z ok0 vZ
def s_topo_ZoneOf : TSpec := { f := 173, ps := ⟨[(0, .st .ApiConfig), (1, .c (.ty (.i .i64)))], []⟩, rs := ⟨[(0, .c (.ty (.i .i64)))], []⟩, β := Int, F := fun v => topo_ZoneOf v.1.1 v.1.2.1, g := (fun r => ((r, ()), ())), d := fun _ => default }
theorem topo_ZoneOf_ok [Fuel] : FnOk Tryz.prog s_topo_ZoneOf :=
  fnI 18 tmL [s_topo_within] [] Tryz.func173 (fun v => v.1.1) .z (okC topo_within_ok ok0) vZ
def s_topo_regionOfZone : TSpec := { f := 172, ps := ⟨[(0, .st .ApiConfig), (1, .c (.ty (.i .i64)))], []⟩, rs := ⟨[(0, .c (.ty (.i .i64)))], []⟩, β := Int, F := fun v => topo_regionOfZone v.1.1 v.1.2.1, g := (fun r => ((r, ()), ())), d := fun _ => default }
theorem topo_regionOfZone_ok [Fuel] : FnOk Tryz.prog s_topo_regionOfZone :=
  fnI 18 tmL [s_topo_within] [] Tryz.func172 (fun v => v.1.1) .z (okC topo_within_ok ok0) vZ
def s_topo_RegionOf : TSpec := { f := 86, ps := ⟨[(0, .st .ApiConfig), (1, .c (.ty (.i .i64)))], []⟩, rs := ⟨[(0, .c (.ty (.i .i64)))], []⟩, β := Int, F := fun v => topo_RegionOf v.1.1 v.1.2.1, g := (fun r => ((r, ()), ())), d := fun _ => default }
theorem topo_RegionOf_ok [Fuel] : FnOk Tryz.prog s_topo_RegionOf :=
  fnI 10 tmL [s_topo_ZoneOf, s_topo_regionOfZone] [] Tryz.func86 (fun v => v.1.1) .z (okC topo_ZoneOf_ok (okC topo_regionOfZone_ok ok0)) vZ
def s_state_has : TSpec := { f := 199, ps := ⟨[(0, .c (.ty (.i .i64))), (1, .c (.ty (.i .i64)))], []⟩, rs := ⟨[(0, .c (.ty .b))], []⟩, β := Bool, F := fun v => state_has v.1.1 v.1.2.1, g := (fun r => ((r, ()), ())), d := fun _ => default }
theorem state_has_ok [Fuel] : FnOk Tryz.prog s_state_has :=
  fnI 18 tmL [] [] Tryz.func199 (fun v => v.1.1) .z ok0 vZ
end Go.Proofs
namespace Go.Proofs
open Go Go.AM Go.CP Go.RowKit
set_option linter.unusedVariables false
set_option maxRecDepth 100000
def s_state_frozen : TSpec := { f := 195, ps := ⟨[(0, .st .ApiConfig), (1, .st .ApiState), (2, .c (.ty (.i .i64)))], []⟩, rs := ⟨[(0, .c (.ty .b))], []⟩, β := Bool, F := fun v => state_frozen v.1.1 v.1.2.1 v.1.2.2.1, g := (fun r => ((r, ()), ())), d := fun _ => default }
theorem state_frozen_ok [Fuel] : FnOk Tryz.prog s_state_frozen :=
  fnI 13 tmL [s_topo_RegionOf, s_state_has] [] Tryz.func195 (fun v => v.1.1) .z (okC topo_RegionOf_ok (okC state_has_ok ok0)) vZ
def s_tenant_within : TSpec := { f := 231, ps := ⟨[(0, .c (.ty (.i .i64))), (1, .c (.ty (.i .i64))), (2, .c (.ty (.i .i64)))], []⟩, rs := ⟨[(0, .c (.ty .b))], []⟩, β := Bool, F := fun v => tenant_within v.1.1 v.1.2.1 v.1.2.2.1, g := (fun r => ((r, ()), ())), d := fun _ => default }
theorem tenant_within_ok [Fuel] : FnOk Tryz.prog s_tenant_within :=
  fnI 15 tmL [] [] Tryz.func231 (fun v => v.1.1) .z ok0 vZ
def s_tenant_May : TSpec := { f := 196, ps := ⟨[(0, .st .ApiConfig), (1, .c (.ty (.i .i64))), (2, .c (.ty (.i .i64)))], []⟩, rs := ⟨[(0, .c (.ty .b))], []⟩, β := Bool, F := fun v => tenant_May v.1.1 v.1.2.1 v.1.2.2.1, g := (fun r => ((r, ()), ())), d := fun _ => default }
theorem tenant_May_ok [Fuel] : FnOk Tryz.prog s_tenant_May :=
  fnI 34 tmL [s_topo_RegionOf, s_tenant_within] [] Tryz.func196 (fun v => v.1.1) .z (okC topo_RegionOf_ok (okC tenant_within_ok ok0)) vZ
def s_tenant_Apart : TSpec := { f := 174, ps := ⟨[(0, .st .ApiConfig), (1, .c (.ty (.i .i64))), (2, .c (.ty (.i .i64)))], []⟩, rs := ⟨[(0, .c (.ty .b))], []⟩, β := Bool, F := fun v => tenant_Apart v.1.1 v.1.2.1 v.1.2.2.1, g := (fun r => ((r, ()), ())), d := fun _ => default }
theorem tenant_Apart_ok [Fuel] : FnOk Tryz.prog s_tenant_Apart :=
  fnI 26 tmL [s_topo_RegionOf] [] Tryz.func174 (fun v => v.1.1) .z (okC topo_RegionOf_ok ok0) vZ
def s_state_near : TSpec := { f := 197, ps := ⟨[(0, .st .ApiConfig), (1, .c (.ty (.i .i64))), (2, .c (.ty (.i .i64)))], []⟩, rs := ⟨[(0, .c (.ty .b))], []⟩, β := Bool, F := fun v => state_near v.1.1 v.1.2.1 v.1.2.2.1, g := (fun r => ((r, ()), ())), d := fun _ => default }
theorem state_near_ok [Fuel] : FnOk Tryz.prog s_state_near :=
  fnI 16 tmL [s_tenant_Apart] [] Tryz.func197 (fun v => v.1.1) .z (okC tenant_Apart_ok ok0) vZ
def s_state_place : TSpec := { f := 136, ps := ⟨[(0, .st .ApiConfig), (1, .st .ApiState), (2, .st .ApiEntry)], []⟩, rs := ⟨[(0, .c (.ty (.i .i64)))], []⟩, β := Int, F := fun v => state_place v.1.1 v.1.2.1 v.1.2.2.1, g := (fun r => ((r, ()), ())), d := fun _ => default }
theorem state_place_ok [Fuel] : FnOk Tryz.prog s_state_place :=
  fnI 72 tmL [s_state_modeOf, s_state_frozen, s_tenant_May, s_state_near] [] Tryz.func136 (fun v => v.1.1) (.two .z (.two .z (.two (.one (.two .z (.two .z (.cut ⟨[(3, .c (.pb 0 0)), (4, .c (.pb 1 0)), (5, .c (.pb 2 0)), (7, .c (.ty .b)), (19, .c (.ty .b))], [.bs .ApiConfig, .bs .ApiState, .bs .ApiEntry]⟩ (fun v => state_place_k3 v.2.1 v.2.2.1 v.2.2.2.1 v.1.2.2.2.1 v.1.2.2.2.2.1) .z (.two .z (.cut ⟨[(3, .c (.pb 0 0)), (5, .c (.pb 1 0)), (7, .c (.ty .b)), (33, .c (.ty .b))], [.bs .ApiConfig, .bs .ApiEntry]⟩ (fun v => state_place_k2 v.2.1 v.2.2.1 v.1.2.2.1 v.1.2.2.2.1) .z (.two .z (.two .z (.two .z (.cut ⟨[(55, .c (.ty .b))], []⟩ (fun v => state_place_k1 v.1.1) .z .z)))))))))) .z))) (okC state_modeOf_ok (okC state_frozen_ok (okC tenant_May_ok (okC state_near_ok ok0)))) (vS vZ (vS vZ (vS (vB (vS vZ (vD vZ (vC vZ (vD vZ (vC vZ (vD vZ (vS vZ (vD vZ (vC vZ vZ)))))))))) vZ)))
def s_state_standby : TSpec := { f := 137, ps := ⟨[(0, .st .ApiConfig), (1, .st .ApiState), (2, .st .ApiEntry)], []⟩, rs := ⟨[(0, .c (.ty (.i .i64)))], []⟩, β := Int, F := fun v => state_standby v.1.1 v.1.2.1 v.1.2.2.1, g := (fun r => ((r, ()), ())), d := fun _ => default }
theorem state_standby_ok [Fuel] : FnOk Tryz.prog s_state_standby :=
  fnI 69 tmL [s_state_modeOf, s_state_frozen, s_tenant_May, s_tenant_Apart, s_state_near] [] Tryz.func137 (fun v => v.1.1) (.two .z (.two .z (.two .z (.two .z (.two (.one (.cut ⟨[(3, .c (.pb 0 0)), (4, .c (.pb 1 0)), (5, .c (.pb 2 0)), (7, .c (.pb 3 0)), (20, .c (.ty .b))], [.bs .ApiConfig, .bs .ApiState, .bs .ApiEntry, .bs .ApiTenantState]⟩ (fun v => state_standby_k2 v.2.1 v.2.2.1 v.2.2.2.1 v.2.2.2.2.1 v.1.2.2.2.2.1) .z (.two .z (.two .z (.two .z (.two .z (.two .z (.cut ⟨[(48, .c (.ty .b))], []⟩ (fun v => state_standby_k1 v.1.1) .z .z)))))))) .z))))) (okC state_modeOf_ok (okC state_frozen_ok (okC tenant_May_ok (okC tenant_Apart_ok (okC state_near_ok ok0))))) (vS vZ (vS vZ (vS vZ (vS vZ (vS (vB (vC vZ (vD vZ (vS vZ (vD vZ (vS vZ (vD vZ (vC vZ vZ)))))))) vZ)))))
def s_state_ready : TSpec := { f := 138, ps := ⟨[(0, .st .ApiState), (1, .st .ApiEntry)], []⟩, rs := ⟨[(0, .c (.ty (.i .i64)))], []⟩, β := Int, F := fun v => state_ready v.1.1 v.1.2.1, g := (fun r => ((r, ()), ())), d := fun _ => default }
theorem state_ready_ok [Fuel] : FnOk Tryz.prog s_state_ready :=
  fnI 28 tmL [s_state_modeOf] [] Tryz.func138 (fun v => v.1.1) .z (okC state_modeOf_ok ok0) vZ
def s_state_migrate : TSpec := { f := 139, ps := ⟨[(0, .st .ApiConfig), (1, .st .ApiState), (2, .st .ApiEntry)], []⟩, rs := ⟨[(0, .c (.ty (.i .i64)))], []⟩, β := Int, F := fun v => state_migrate v.1.1 v.1.2.1 v.1.2.2.1, g := (fun r => ((r, ()), ())), d := fun _ => default }
theorem state_migrate_ok [Fuel] : FnOk Tryz.prog s_state_migrate :=
  fnI 71 tmL [s_state_modeOf, s_state_frozen, s_tenant_May, s_state_near] [] Tryz.func139 (fun v => v.1.1) (.two .z (.two .z (.two (.one (.cut ⟨[(3, .c (.pb 0 0)), (4, .c (.pb 1 0)), (5, .c (.pb 2 0)), (7, .c (.pb 3 0)), (14, .c (.ty .b))], [.bs .ApiConfig, .bs .ApiState, .bs .ApiEntry, .bs .ApiTenantState]⟩ (fun v => state_migrate_k3 v.2.1 v.2.2.1 v.2.2.2.1 v.2.2.2.2.1 v.1.2.2.2.2.1) .z (.two .z (.cut ⟨[(3, .c (.pb 0 0)), (4, .c (.pb 1 0)), (5, .c (.pb 2 0)), (7, .c (.pb 3 0)), (23, .c (.ty .b))], [.bs .ApiConfig, .bs .ApiState, .bs .ApiEntry, .bs .ApiTenantState]⟩ (fun v => state_migrate_k2 v.2.1 v.2.2.1 v.2.2.2.1 v.2.2.2.2.1 v.1.2.2.2.2.1) .z (.two .z (.two .z (.two .z (.two .z (.two .z (.cut ⟨[(51, .c (.ty .b))], []⟩ (fun v => state_migrate_k1 v.1.1) .z .z)))))))))) .z))) (okC state_modeOf_ok (okC state_frozen_ok (okC tenant_May_ok (okC state_near_ok ok0)))) (vS vZ (vS vZ (vS (vB (vC vZ (vD vZ (vC vZ (vD vZ (vS vZ (vD vZ (vS vZ (vD vZ (vC vZ vZ)))))))))) vZ)))
def s_state_abandon : TSpec := { f := 140, ps := ⟨[(0, .st .ApiState), (1, .st .ApiEntry)], []⟩, rs := ⟨[(0, .c (.ty (.i .i64)))], []⟩, β := Int, F := fun v => state_abandon v.1.1 v.1.2.1, g := (fun r => ((r, ()), ())), d := fun _ => default }
theorem state_abandon_ok [Fuel] : FnOk Tryz.prog s_state_abandon :=
  fnI 20 tmL [] [] Tryz.func140 (fun v => v.1.1) .z ok0 vZ
end Go.Proofs
namespace Go.Proofs
open Go Go.AM Go.CP Go.RowKit
set_option linter.unusedVariables false
set_option maxRecDepth 100000
def s_state_shed : TSpec := { f := 141, ps := ⟨[(0, .st .ApiState), (1, .st .ApiEntry)], []⟩, rs := ⟨[(0, .c (.ty (.i .i64)))], []⟩, β := Int, F := fun v => state_shed v.1.1 v.1.2.1, g := (fun r => ((r, ()), ())), d := fun _ => default }
theorem state_shed_ok [Fuel] : FnOk Tryz.prog s_state_shed :=
  fnI 38 tmL [s_state_modeOf] [] Tryz.func141 (fun v => v.1.1) (.two .z (.two .z (.two .z (.two (.one (.cut ⟨[(3, .c (.pb 0 0)), (5, .c (.pb 1 0)), (25, .c (.ty .b))], [.bs .ApiEntry, .bs .ApiTenantState]⟩ (fun v => state_shed_k1 v.2.1 v.2.2.1 v.1.2.2.1) .z .z)) .z)))) (okC state_modeOf_ok ok0) (vS vZ (vS vZ (vS vZ (vS (vB (vC vZ vZ)) vZ))))
def s_state_grant : TSpec := { f := 142, ps := ⟨[(0, .st .ApiConfig), (1, .st .ApiState), (2, .st .ApiEntry)], []⟩, rs := ⟨[(0, .c (.ty (.i .i64)))], []⟩, β := Int, F := fun v => state_grant v.1.1 v.1.2.1 v.1.2.2.1, g := (fun r => ((r, ()), ())), d := fun _ => default }
theorem state_grant_ok [Fuel] : FnOk Tryz.prog s_state_grant :=
  fnI 141 tmL [] [] Tryz.func142 (fun v => v.1.1) (.two .z (.two .z (.two .z (.two (.one (.cut ⟨[(3, .c (.pb 0 0)), (5, .c (.pb 1 0)), (7, .c (.pb 2 0)), (8, .c (.pb 3 0)), (9, .c (.ty .b)), (27, .c (.ty .b))], [.bs .ApiConfig, .bs .ApiEntry, .bs .ApiTenantState, .bs .ApiCellState]⟩ (fun v => state_grant_k5 v.2.1 v.2.2.1 v.2.2.2.1 v.2.2.2.2.1 v.1.2.2.2.2.1 v.1.2.2.2.2.2.1) .z (.two .z (.two .z (.two .z (.cut ⟨[(3, .c (.pb 0 0)), (5, .c (.pb 1 0)), (7, .c (.pb 2 0)), (8, .c (.pb 3 0)), (9, .c (.ty .b)), (57, .c (.ty .b))], [.bs .ApiConfig, .bs .ApiEntry, .bs .ApiTenantState, .bs .ApiCellState]⟩ (fun v => state_grant_k4 v.2.1 v.2.2.1 v.2.2.2.1 v.2.2.2.2.1 v.1.2.2.2.2.1 v.1.2.2.2.2.2.1) .z (.two .z (.two .z (.two .z (.cut ⟨[(3, .c (.pb 0 0)), (5, .c (.pb 1 0)), (7, .c (.pb 2 0)), (9, .c (.ty .b)), (86, .c (.ty .b))], [.bs .ApiConfig, .bs .ApiEntry, .bs .ApiTenantState]⟩ (fun v => state_grant_k3 v.2.1 v.2.2.1 v.2.2.2.1 v.1.2.2.2.1 v.1.2.2.2.2.1) .z (.two .z (.cut ⟨[(5, .c (.pb 0 0)), (7, .c (.pb 1 0)), (9, .c (.ty .b)), (97, .c (.ty .b))], [.bs .ApiEntry, .bs .ApiTenantState]⟩ (fun v => state_grant_k2 v.2.1 v.2.2.1 v.1.2.2.1 v.1.2.2.2.1) .z (.two .z (.cut ⟨[(124, .c (.ty .b))], []⟩ (fun v => state_grant_k1 v.1.1) .z .z)))))))))))))) .z)))) ok0 (vS vZ (vS vZ (vS vZ (vS (vB (vC vZ (vD vZ (vS vZ (vD vZ (vC vZ (vD vZ (vS vZ (vD vZ (vC vZ (vD vZ (vC vZ (vD vZ (vC vZ vZ)))))))))))))) vZ))))
def s_state_cut : TSpec := { f := 143, ps := ⟨[(0, .st .ApiState), (1, .st .ApiEntry)], []⟩, rs := ⟨[(0, .c (.ty (.i .i64)))], []⟩, β := Int, F := fun v => state_cut v.1.1 v.1.2.1, g := (fun r => ((r, ()), ())), d := fun _ => default }
theorem state_cut_ok [Fuel] : FnOk Tryz.prog s_state_cut :=
  fnI 22 tmL [] [] Tryz.func143 (fun v => v.1.1) .z ok0 vZ
def s_state_mode : TSpec := { f := 144, ps := ⟨[(0, .st .ApiState), (1, .st .ApiEntry)], []⟩, rs := ⟨[(0, .c (.ty (.i .i64)))], []⟩, β := Int, F := fun v => state_mode v.1.1 v.1.2.1, g := (fun r => ((r, ()), ())), d := fun _ => default }
theorem state_mode_ok [Fuel] : FnOk Tryz.prog s_state_mode :=
  fnI 15 tmL [] [] Tryz.func144 (fun v => v.1.1) .z ok0 vZ
def s_state_versionOf : TSpec := { f := 198, ps := ⟨[(0, .st .ApiConfig), (1, .c (.ty (.i .i64)))], []⟩, rs := ⟨[(0, .st .ApiVersion)], []⟩, β := ApiVersion, F := fun v => state_versionOf v.1.1 v.1.2.1, g := (fun r => ((r, ()), ())), d := fun _ => default }
theorem state_versionOf_ok [Fuel] : FnOk Tryz.prog s_state_versionOf :=
  fnI 20 tmL [] [] Tryz.func198 (fun v => v.1.1) .z ok0 vZ
def s_state_Unproven [Fuel] : TSpec := { f := 200, ps := ⟨[(0, .st .ApiState)], []⟩, rs := ⟨[(0, .c (.ty (.l (.i .i64))))], []⟩, β := (List Int), F := fun v => state_Unproven v.1.1, g := (fun r => ((r, ()), ())), d := fun _ => default }
theorem state_Unproven_ok [Fuel] : FnOk Tryz.prog s_state_Unproven :=
  fnI 34 tmL [s_state_has] [] Tryz.func200 (fun v => v.1.1) (.two .z (.two .z (.two (.two .z (.one (.lp ⟨[(1, .c (.pb 0 0)), (3, .c (.own 1)), (7, .c (.ty (.l (.n .ApiCellState)))), (8, .c (.ty (.i .i64))), (9, .c (.ty (.i .i64)))], [.bs .ApiState, .ar (.i .i64)]⟩ (fun n v => state_Unproven_l2 v.2.1 v.1.2.2.1 v.1.2.2.2.1 n v.2.2.1 v.1.2.2.2.2.1) fun rc_state_Unproven_l2 => (.two .z (.two .z (.cut ⟨[(1, .c (.pb 0 0)), (3, .c (.own 1)), (7, .c (.ty (.l (.n .ApiCellState)))), (8, .c (.ty (.i .i64))), (9, .c (.ty (.i .i64)))], [.bs .ApiState, .ar (.i .i64)]⟩ (fun v => state_Unproven_k1 (fun y1 y2 => rc_state_Unproven_l2 (((), ((), (v.1.2.2.1, (v.1.2.2.2.1, (y2, ()))))), (v.2.1, (y1, ())))) v.1.2.2.2.2.1 v.2.2.1) .z .z)))))) .z))) (okC state_has_ok ok0) (vS vZ (vS vZ (vS (vS vZ (vB (vL fun _ => (vS vZ (vS vZ (vC vZ vZ)))))) vZ)))
def s_state_want [Fuel] : TSpec := { f := 145, ps := ⟨[(0, .st .ApiConfig), (1, .st .ApiState), (2, .st .ApiEntry)], []⟩, rs := ⟨[(0, .c (.ty (.i .i64)))], []⟩, β := Int, F := fun v => state_want v.1.1 v.1.2.1 v.1.2.2.1, g := (fun r => ((r, ()), ())), d := fun _ => default }
theorem state_want_ok [Fuel] : FnOk Tryz.prog s_state_want :=
  fnI 72 tmL [s_state_versionOf, s_state_has, s_state_Unproven] [] Tryz.func145 (fun v => v.1.1) (.two .z (.two .z (.two (.one (.two .z (.two .z (.cut ⟨[(3, .c (.pb 0 0)), (4, .c (.pb 1 0)), (5, .c (.pb 2 0)), (7, .c (.pb 3 0)), (28, .c (.ty .b))], [.bs .ApiConfig, .bs .ApiState, .bs .ApiEntry, .bs .ApiCellState]⟩ (fun v => state_want_k4 v.2.1 v.2.2.1 v.2.2.2.1 v.2.2.2.2.1 v.1.2.2.2.2.1) .z (.two .z (.cut ⟨[(3, .c (.pb 0 0)), (4, .c (.pb 1 0)), (5, .c (.pb 2 0)), (39, .c (.ty .b))], [.bs .ApiConfig, .bs .ApiState, .bs .ApiEntry]⟩ (fun v => state_want_k3 v.2.1 v.2.2.1 v.2.2.2.1 v.1.2.2.2.1) .z .z)))))) (.two .z (.two (.two .z (.one (.lp ⟨[(3, .c (.pb 0 0)), (5, .c (.pb 1 0)), (9, .c (.ty (.i .i64))), (55, .c (.ty (.l (.i .i64)))), (56, .c (.ty (.i .i64))), (57, .c (.ty (.i .i64)))], [.bs .ApiConfig, .bs .ApiEntry]⟩ (fun n v => state_want_l2 v.2.1 v.2.2.1 v.1.2.2.2.1 v.1.2.2.2.2.1 n v.1.2.2.1 v.1.2.2.2.2.2.1) fun rc_state_want_l2 => (.two .z (.two .z (.cut ⟨[(3, .c (.pb 0 0)), (5, .c (.pb 1 0)), (9, .c (.ty (.i .i64))), (55, .c (.ty (.l (.i .i64)))), (56, .c (.ty (.i .i64))), (57, .c (.ty (.i .i64)))], [.bs .ApiConfig, .bs .ApiEntry]⟩ (fun v => state_want_k1 (fun y1 y2 => rc_state_want_l2 (((), ((), (y1, (v.1.2.2.2.1, (v.1.2.2.2.2.1, (y2, ())))))), (v.2.1, (v.2.2.1, ())))) v.1.2.2.2.2.2.1 v.1.2.2.1) .z .z)))))) .z))))) (okC state_versionOf_ok (okC state_has_ok (okC state_Unproven_ok ok0))) (vS vZ (vS vZ (vS (vB (vS vZ (vD vZ (vC vZ (vD vZ (vC vZ vZ)))))) (vS vZ (vS (vS vZ (vB (vL fun _ => (vS vZ (vS vZ (vC vZ vZ)))))) vZ)))))
def s_state_runs [Fuel] : TSpec := { f := 146, ps := ⟨[(0, .st .ApiState), (1, .st .ApiEntry)], []⟩, rs := ⟨[(0, .c (.ty (.i .i64)))], []⟩, β := Int, F := fun v => state_runs v.1.1 v.1.2.1, g := (fun r => ((r, ()), ())), d := fun _ => default }
theorem state_runs_ok [Fuel] : FnOk Tryz.prog s_state_runs :=
  fnI 59 tmL [s_state_has] [] Tryz.func146 (fun v => v.1.1) (.two .z (.two .z (.two (.one (.cut ⟨[(2, .c (.pb 0 0)), (3, .c (.pb 1 0)), (14, .c (.ty .b))], [.bs .ApiState, .bs .ApiEntry]⟩ (fun v => state_runs_k2 v.2.1 v.2.2.1 v.1.2.2.1) .z .z)) (.two (.two .z (.one (.lp ⟨[(3, .c (.pb 0 0)), (38, .c (.ty (.l (.n .ApiTenantState)))), (39, .c (.ty (.i .i64))), (40, .c (.ty (.i .i64)))], [.bs .ApiEntry]⟩ (fun n v => state_runs_l1 v.2.1 v.1.2.1 v.1.2.2.1 n v.1.2.2.2.1) fun rc_state_runs_l1 => .z))) .z)))) (okC state_has_ok ok0) (vS vZ (vS vZ (vS (vB (vC vZ vZ)) (vS (vS vZ (vB (vL fun _ => vZ))) vZ))))
def s_state_prove [Fuel] : TSpec := { f := 147, ps := ⟨[(0, .st .ApiConfig), (1, .st .ApiState), (2, .st .ApiEntry)], []⟩, rs := ⟨[(0, .c (.ty (.i .i64)))], []⟩, β := Int, F := fun v => state_prove v.1.1 v.1.2.1 v.1.2.2.1, g := (fun r => ((r, ()), ())), d := fun _ => default }
theorem state_prove_ok [Fuel] : FnOk Tryz.prog s_state_prove :=
  fnI 49 tmL [s_state_has] [] Tryz.func147 (fun v => v.1.1) (.two .z (.two .z (.two (.two .z (.one (.lp ⟨[(3, .c (.pb 0 0)), (5, .c (.pb 1 0)), (15, .c (.ty (.l (.n .ApiCellState)))), (16, .c (.ty (.i .i64))), (17, .c (.ty (.i .i64)))], [.bs .ApiConfig, .bs .ApiEntry]⟩ (fun n v => state_prove_l1 v.2.1 v.2.2.1 v.1.2.2.1 v.1.2.2.2.1 n v.1.2.2.2.2.1) fun rc_state_prove_l1 => .z))) .z))) (okC state_has_ok ok0) (vS vZ (vS vZ (vS (vS vZ (vB (vL fun _ => vZ))) vZ)))
def s_state_evacuate : TSpec := { f := 148, ps := ⟨[(0, .st .ApiState), (1, .st .ApiEntry)], []⟩, rs := ⟨[(0, .c (.ty (.i .i64)))], []⟩, β := Int, F := fun v => state_evacuate v.1.1 v.1.2.1, g := (fun r => ((r, ()), ())), d := fun _ => default }
theorem state_evacuate_ok [Fuel] : FnOk Tryz.prog s_state_evacuate :=
  fnI 14 tmL [s_state_has] [] Tryz.func148 (fun v => v.1.1) .z (okC state_has_ok ok0) vZ
end Go.Proofs
