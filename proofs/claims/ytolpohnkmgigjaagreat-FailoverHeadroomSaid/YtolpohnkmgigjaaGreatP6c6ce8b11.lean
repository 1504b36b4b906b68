/-
  DERIVED: THE SHELF's CONTRACTS AT THIS DUMP, IN PLAIN WORDS (tools/lay-plain.mjs out of 'ZzLaysTryz.lean', which tools/lay-shelf.mjs wrote): THE SAME DECLARATIONS UNDER THE SAME NAMES: 'import', 'namespace', 'open', 'def', 'theorem' AND NOTHING ELSE: no command of the shelf's: FOR A HAND-IN. Each laying: the table of numbers ('.._ren') and one theorem, a field a fact of the dump's own or the kernel's comparison; each contract: ONE APPLICATION.
-/
import Derived.Shelf.SlSortCmp.NoneTotal
import Derived.Shelf.Slices.CompactI
import Derived.Test.YtolpohnkmgigjaaGreatProg
import Derived.Test.YtolpohnkmgigjaaGreatP5c0b60059
namespace Go.Proofs
open Go.Shelf
def Tryz.lays183_ren : Go.Shelf.Ren := ⟨fun | 6 => 183 | 15 => 209 | 14 => 233 | 28 => 250 | 29 => 251 | 20 => 265 | 21 => 266 | 22 => 267 | 23 => 268 | 24 => 269 | 25 => 270 | 26 => 271 | 27 => 272 | 46 => 288 | 47 => 277 | 48 => 278 | 49 => 289 | 50 => 290 | 57 => 293 | n => n, fun | 22 => 22 | 24 => 3 | 25 => 37 | 3 => 3 | 39 => 116 | 0 => 0 | 53 => 258 | 55 => 260 | 4 => 4 | 46 => 251 | 45 => 250 | 50 => 255 | 5 => 5 | 9 => 9 | 66 => 283 | 70 => 287 | 76 => 296 | 77 => 297 | n => n, fun | n => n⟩
theorem Tryz.lays183 : Go.Proofs.SlLaysF.n6 Tryz.prog Tryz.lays183_ren := {
  mixed := by kernel_rfl
  f6 := ⟨Tryz.f183.name, by decide, Tryz.func183.trans (congrArg some (by kernel_rfl))⟩
  f14 := ⟨Tryz.f233.name, by decide, Tryz.func233.trans (congrArg some (by kernel_rfl))⟩
  f15 := Tryz.func209.trans (congrArg some (by kernel_rfl))
  f20 := ⟨Tryz.f265.name, by decide, Tryz.func265.trans (congrArg some (by kernel_rfl))⟩
  f21 := ⟨Tryz.f266.name, by decide, Tryz.func266.trans (congrArg some (by kernel_rfl))⟩
  f22 := ⟨Tryz.f267.name, by decide, Tryz.func267.trans (congrArg some (by kernel_rfl))⟩
  f23 := ⟨Tryz.f268.name, by decide, Tryz.func268.trans (congrArg some (by kernel_rfl))⟩
  f24 := ⟨Tryz.f269.name, by decide, Tryz.func269.trans (congrArg some (by kernel_rfl))⟩
  f25 := ⟨Tryz.f270.name, by decide, Tryz.func270.trans (congrArg some (by kernel_rfl))⟩
  f26 := ⟨Tryz.f271.name, by decide, Tryz.func271.trans (congrArg some (by kernel_rfl))⟩
  f27 := ⟨Tryz.f272.name, by decide, Tryz.func272.trans (congrArg some (by kernel_rfl))⟩
  f28 := Tryz.func250.trans (congrArg some (by kernel_rfl))
  f29 := Tryz.func251.trans (congrArg some (by kernel_rfl))
  f46 := ⟨Tryz.f288.name, by decide, Tryz.func288.trans (congrArg some (by kernel_rfl))⟩
  f47 := Tryz.func277.trans (congrArg some (by kernel_rfl))
  f48 := Tryz.func278.trans (congrArg some (by kernel_rfl))
  f49 := ⟨Tryz.f289.name, by decide, Tryz.func289.trans (congrArg some (by kernel_rfl))⟩
  f50 := ⟨Tryz.f290.name, by decide, Tryz.func290.trans (congrArg some (by kernel_rfl))⟩
  f57 := ⟨Tryz.f293.name, by decide, Tryz.func293.trans (congrArg some (by kernel_rfl))⟩
  t0 := Tryz.underlying0
  a0 := Tryz.isAgg0
  z0 := Tryz.sizeOf0
  v0 := Tryz.zeroValue0
  t3 := Tryz.underlying3
  a3 := Tryz.isAgg3
  z3 := Tryz.sizeOf3
  v3 := Tryz.zeroValue3
  t4 := Tryz.underlying4
  a4 := Tryz.isAgg4
  z4 := Tryz.sizeOf4
  v4 := Tryz.zeroValue4
  t5 := Tryz.underlying5
  a5 := Tryz.isAgg5
  z5 := Tryz.sizeOf5
  v5 := Tryz.zeroValue5
  t9 := Tryz.underlying9
  a9 := Tryz.isAgg9
  z9 := Tryz.sizeOf9
  v9 := Tryz.zeroValue9
  t22 := Tryz.underlying22
  a22 := Tryz.isAgg22
  z22 := Tryz.sizeOf22
  v22 := Tryz.zeroValue22
  a24 := Tryz.isAgg3
  z24 := Tryz.sizeOf3
  t25 := Tryz.underlying37
  a25 := Tryz.isAgg37
  z25 := Tryz.sizeOf37
  v25 := Tryz.zeroValue37
  t39 := Tryz.underlying116
  a39 := Tryz.isAgg116
  z39 := Tryz.sizeOf116
  v39 := Tryz.zeroValue116
  t45 := Tryz.underlying250
  a45 := Tryz.isAgg250
  z45 := Tryz.sizeOf250
  v45 := Tryz.zeroValue250
  t46 := Tryz.underlying251
  a46 := Tryz.isAgg251
  z46 := Tryz.sizeOf251
  v46 := Tryz.zeroValue251
  t50 := Tryz.underlying255
  a50 := Tryz.isAgg255
  z50 := Tryz.sizeOf255
  v50 := Tryz.zeroValue255
  t53 := Tryz.underlying258
  a53 := Tryz.isAgg258
  z53 := Tryz.sizeOf258
  v53 := Tryz.zeroValue258
  t55 := Tryz.underlying260
  a55 := Tryz.isAgg260
  z55 := Tryz.sizeOf260
  v55 := Tryz.zeroValue260
  t66 := Tryz.underlying283
  a66 := Tryz.isAgg283
  z66 := Tryz.sizeOf283
  v66 := Tryz.zeroValue283
  t70 := Tryz.underlying287
  a70 := Tryz.isAgg287
  z70 := Tryz.sizeOf287
  v70 := Tryz.zeroValue287
  t76 := Tryz.underlying296
  a76 := Tryz.isAgg296
  z76 := Tryz.sizeOf296
  v76 := Tryz.zeroValue296
  t77 := Tryz.underlying297
  a77 := Tryz.isAgg297
  z77 := Tryz.sizeOf297
  v77 := Tryz.zeroValue297 }
end Go.Proofs
namespace Go.Proofs
open Go Go.AM Go.CP Go.RowKit
set_option linter.unusedVariables false
set_option maxRecDepth 100000
def tmL : List (Nat × Ty) := [(22, (.i .i64)), (25, (.n .ApiZone)), (26, (.n .ApiCell)), (27, (.n .ApiTenant)), (28, (.n .ApiVersion)), (32, (.n .ApiTenantState)), (33, (.n .ApiCellState)), (53, (.n .ApiStep)), (72, (.n .ApiEntry)), (99, (.n .ApiChange)), (141, (.n .EvacplanSeat)), (150, .b), (218, (.n .Ref24Cell)), (221, (.n .ApiItem)), (222, (.n .ApiLease)), (264, (.i .i64)), (291, (.i .u8)), (302, .s)]
def s_ref28_New : TSpec := { f := 142, ps := ⟨[(0, .c (.ty (.i .i64))), (1, .c (.ty (.i .i64)))], []⟩, rs := ⟨[(0, .c (.pb 0 0))], [.bx [.ty (.i .i64), .ty (.i .i64), .ty (.l (.n .ApiChange)), .pb 1 0, .pb 2 0, .pb 3 0, .pb 4 0], .bs .Ref24Store, .bs .Ref25Queue, .bs .Ref26Table, .bs .Ref27Gate]⟩, β := Ref28Copy, F := fun v => ref28_New v.1.1 v.1.2.1, g := (fun r => (((), ()), ((r.Cell, (r.Tenant, (r.H, ((), ((), ((), ((), ()))))))), (r.S, (r.Q, (r.T, (r.G, ()))))))), d := fun _ => default }
theorem ref28_New_ok [Fuel] : FnOk Tryz.prog s_ref28_New :=
  fnI 18 tmL [] [] Tryz.func142 (fun v => { Cell := v.2.1.1, Tenant := v.2.1.2.1, H := v.2.1.2.2.1, S := v.2.2.1, Q := v.2.2.2.1, T := v.2.2.2.2.1, G := v.2.2.2.2.2.1 : Ref28Copy }) .z ok0 vZ
def s_mill_New : TSpec := { f := 86, ps := ⟨[(0, .c (.ty (.l (.i .i64))))], []⟩, rs := ⟨[(0, .c (.pb 0 0))], [.bs .MillTape]⟩, β := MillTape, F := fun v => mill_New v.1.1, g := (fun r => (((), ()), (r, ()))), d := fun _ => default }
theorem mill_New_ok [Fuel] : FnOk Tryz.prog s_mill_New :=
  fnI 6 tmL [] [] Tryz.func86 (fun v => v.2.1) .z ok0 vZ
def s_mill_Tape_More : TSpec := { f := 87, ps := ⟨[(0, .c (.pb 0 0))], [.bs .MillTape]⟩, rs := ⟨[(0, .c (.ty .b))], [.bs .MillTape]⟩, β := (Bool × MillTape), F := fun v => mill_Tape_More v.2.1, g := (fun r => ((r.1, ()), (r.2, ()))), d := fun v => (default, v.2.1), dk := true, hd := fun _ _ => rfl }
theorem mill_Tape_More_ok [Fuel] : FnOk Tryz.prog s_mill_Tape_More :=
  fnI 13 tmL [] [] Tryz.func87 (fun v => (v.1.1, v.2.1)) .z ok0 vZ
def s_mill_Mod : TSpec := { f := 19, ps := ⟨[(0, .c (.ty (.i .i64))), (1, .c (.ty (.i .i64)))], []⟩, rs := ⟨[(0, .c (.ty (.i .i64)))], []⟩, β := Int, F := fun v => mill_Mod v.1.1 v.1.2.1, g := (fun r => ((r, ()), ())), d := fun _ => default }
theorem mill_Mod_ok [Fuel] : FnOk Tryz.prog s_mill_Mod :=
  fnI 15 tmL [] [] Tryz.func19 (fun v => v.1.1) (.two .z (.two .z (.cut ⟨[(5, .c (.ty (.i .i64)))], []⟩ (fun v => mill_Mod_k1 v.1.1) .z .z))) ok0 (vS vZ (vS vZ (vC vZ vZ)))
def s_mill_Tape_Next : TSpec := { f := 89, ps := ⟨[(0, .c (.pb 0 0)), (1, .c (.ty (.i .i64)))], [.bs .MillTape]⟩, rs := ⟨[(0, .c (.ty (.i .i64)))], [.bs .MillTape]⟩, β := (Int × MillTape), F := fun v => mill_Tape_Next v.2.1 v.1.2.1, g := (fun r => ((r.1, ()), (r.2, ()))), d := fun v => (default, v.2.1), dk := true, hd := fun _ _ => rfl }
theorem mill_Tape_Next_ok [Fuel] : FnOk Tryz.prog s_mill_Tape_Next :=
  fnI 35 tmL [s_mill_Mod] [] Tryz.func89 (fun v => (v.1.1, v.2.1)) .z (okC mill_Mod_ok ok0) vZ
def s_mill_Tape_Range : TSpec := { f := 88, ps := ⟨[(0, .c (.pb 0 0)), (1, .c (.ty (.i .i64))), (2, .c (.ty (.i .i64)))], [.bs .MillTape]⟩, rs := ⟨[(0, .c (.ty (.i .i64)))], [.bs .MillTape]⟩, β := (Int × MillTape), F := fun v => mill_Tape_Range v.2.1 v.1.2.1 v.1.2.2.1, g := (fun r => ((r.1, ()), (r.2, ()))), d := fun v => (default, v.2.1), dk := true, hd := fun _ _ => rfl }
theorem mill_Tape_Range_ok [Fuel] : FnOk Tryz.prog s_mill_Tape_Range :=
  fnI 15 tmL [s_mill_Tape_Next] [] Tryz.func88 (fun v => (v.1.1, v.2.1)) .z (okC mill_Tape_Next_ok ok0) vZ
def s_ref26_Table_Last : TSpec := { f := 258, ps := ⟨[(0, .c (.pb 0 0)), (1, .c (.ty (.i .i64)))], [.bs .Ref26Table]⟩, rs := ⟨[(0, .c (.ty (.i .i64)))], [.bs .Ref26Table]⟩, β := (Int × Ref26Table), F := fun v => ref26_Table_Last v.2.1 v.1.2.1, g := (fun r => ((r.1, ()), (r.2, ()))), d := fun v => (default, v.2.1), dk := true, hd := fun _ _ => rfl }
theorem ref26_Table_Last_ok [Fuel] : FnOk Tryz.prog s_ref26_Table_Last :=
  fnI 18 tmL [] [] Tryz.func258 (fun v => (v.1.1, v.2.1)) (.two .z (.two .z (.cut ⟨[(4, .c (.ty (.i .i64)))], [.bs .Ref26Table]⟩ (fun v => ref26_Table_Last_k1 v.2.1 v.1.1) (.sp 1 9) .z))) ok0 (vS vZ (vS vZ (vC vP vZ)))
def s_mill_Tape_Text [Fuel] : TSpec := { f := 259, ps := ⟨[(0, .c (.pb 0 0)), (1, .c (.ty (.i .i64))), (2, .c (.ty (.i .i64)))], [.bs .MillTape]⟩, rs := ⟨[(0, .c (.ty .s))], [.bs .MillTape]⟩, β := (ByteArray × MillTape), F := fun v => mill_Tape_Text v.2.1 v.1.2.1 v.1.2.2.1, g := (fun r => ((r.1, ()), (r.2, ()))), d := fun v => (default, v.2.1), dk := true, hd := fun _ _ => rfl }
theorem mill_Tape_Text_ok [Fuel] : FnOk Tryz.prog s_mill_Tape_Text :=
  fnI 38 tmL [s_mill_Tape_Range, s_mill_Tape_Next] [] Tryz.func259 (fun v => (v.1.1, v.2.1)) (.two .z (.two .z (.cut ⟨[(0, .c (.pb 0 0)), (7, .c (.ty (.i .i64)))], [.bs .MillTape]⟩ (fun v => mill_Tape_Text_k2 v.2.1 v.1.2.1) .z (.two .z (.two (.two .z (.one (.lp ⟨[(0, .c (.pb 0 0)), (8, .c (.own 1)), (24, .c (.ty (.i .i64))), (25, .c (.ty (.i .i64)))], [.bs .MillTape, .ar (.i .u8)]⟩ (fun n v => mill_Tape_Text_l1 v.1.2.2.1 n v.2.1 v.2.2.1 v.1.2.2.2.1) fun rc_mill_Tape_Text_l1 => .z))) .z))))) (okC mill_Tape_Range_ok (okC mill_Tape_Next_ok ok0)) (vS vZ (vS vZ (vC vZ (vS vZ (vS (vS vZ (vB (vL fun _ => vZ))) vZ)))))
def s_mill_Change [Fuel] : TSpec := { f := 211, ps := ⟨[(0, .c (.pb 0 0)), (1, .c (.pb 1 0)), (2, .c (.ty (.i .i64)))], [.bs .MillTape, .bx [.ty (.i .i64), .ty (.i .i64), .ty (.l (.n .ApiChange)), .pb 2 0, .pb 3 0, .pb 4 0, .pb 5 0], .bs .Ref24Store, .bs .Ref25Queue, .bs .Ref26Table, .bs .Ref27Gate]⟩, rs := ⟨[(0, .st .ApiChange)], [.bs .MillTape, .bx [.ty (.i .i64), .ty (.i .i64), .ty (.l (.n .ApiChange)), .pb 2 0, .pb 3 0, .pb 4 0, .pb 5 0], .bs .Ref24Store, .bs .Ref25Queue, .bs .Ref26Table, .bs .Ref27Gate]⟩, β := (ApiChange × MillTape × Ref28Copy), F := fun v => mill_Change v.2.1 { Cell := v.2.2.1.1, Tenant := v.2.2.1.2.1, H := v.2.2.1.2.2.1, S := v.2.2.2.1, Q := v.2.2.2.2.1, T := v.2.2.2.2.2.1, G := v.2.2.2.2.2.2.1 : Ref28Copy } v.1.2.2.1, g := (fun r => ((r.1, ()), (r.2.1, ((r.2.2.Cell, (r.2.2.Tenant, (r.2.2.H, ((), ((), ((), ((), ()))))))), (r.2.2.S, (r.2.2.Q, (r.2.2.T, (r.2.2.G, ())))))))), d := fun v => (default, v.2.1, { Cell := v.2.2.1.1, Tenant := v.2.2.1.2.1, H := v.2.2.1.2.2.1, S := v.2.2.2.1, Q := v.2.2.2.2.1, T := v.2.2.2.2.2.1, G := v.2.2.2.2.2.2.1 : Ref28Copy }), dk := true, hd := fun _ _ => rfl }
theorem mill_Change_ok [Fuel] : FnOk Tryz.prog s_mill_Change :=
  fnI 121 tmL [s_mill_Tape_Range, s_ref26_Table_Last, s_mill_Tape_Text, s_mill_Tape_Next] [] Tryz.func211 (fun v => (v.1.1, v.2.1, { Cell := v.2.2.1.1, Tenant := v.2.2.1.2.1, H := v.2.2.1.2.2.1, S := v.2.2.2.1, Q := v.2.2.2.2.1, T := v.2.2.2.2.2.1, G := v.2.2.2.2.2.2.1 : Ref28Copy })) (.two .z (.two .z (.two .z (.cut ⟨[(0, .c (.pb 0 0)), (1, .c (.pb 1 0)), (6, .c (.pb 6 0)), (7, .c (.pb 7 0))], [.bs .MillTape, .bx [.ty (.i .i64), .ty (.i .i64), .ty (.l (.n .ApiChange)), .pb 2 0, .pb 3 0, .pb 4 0, .pb 5 0], .bs .Ref24Store, .bs .Ref25Queue, .bs .Ref26Table, .bs .Ref27Gate, .bs .ApiChange, .bs .ApiChange]⟩ (fun v => mill_Change_k3 v.2.1 v.2.2.1.1 v.2.2.1.2.1 v.2.2.1.2.2.1 v.2.2.2.1 v.2.2.2.2.1 v.2.2.2.2.2.1 v.2.2.2.2.2.2.1 v.2.2.2.2.2.2.2.2.1) .z (.cut ⟨[(0, .c (.pb 0 0)), (1, .c (.pb 1 0)), (6, .c (.pb 6 0)), (7, .c (.pb 7 0))], [.bs .MillTape, .bx [.ty (.i .i64), .ty (.i .i64), .ty (.l (.n .ApiChange)), .pb 2 0, .pb 3 0, .pb 4 0, .pb 5 0], .bs .Ref24Store, .bs .Ref25Queue, .bs .Ref26Table, .bs .Ref27Gate, .bs .ApiChange, .bs .ApiChange]⟩ (fun v => mill_Change_k2 v.2.1 v.2.2.1.1 v.2.2.1.2.1 v.2.2.1.2.2.1 v.2.2.2.1 v.2.2.2.2.1 v.2.2.2.2.2.1 v.2.2.2.2.2.2.1 v.2.2.2.2.2.2.2.2.1) .z (.cut ⟨[(6, .c (.pb 6 0)), (7, .c (.pb 7 0))], [.bs .MillTape, .bx [.ty (.i .i64), .ty (.i .i64), .ty (.l (.n .ApiChange)), .pb 2 0, .pb 3 0, .pb 4 0, .pb 5 0], .bs .Ref24Store, .bs .Ref25Queue, .bs .Ref26Table, .bs .Ref27Gate, .bs .ApiChange, .bs .ApiChange]⟩ (fun v => mill_Change_k1 v.2.2.1.1 v.2.2.1.2.1 v.2.2.1.2.2.1 v.2.2.2.1 v.2.2.2.2.1 v.2.2.2.2.2.1 v.2.2.2.2.2.2.1 v.2.1 v.2.2.2.2.2.2.2.2.1) .z .z)))))) (okC mill_Tape_Range_ok (okC ref26_Table_Last_ok (okC mill_Tape_Text_ok (okC mill_Tape_Next_ok ok0)))) (vS vZ (vS vZ (vS vZ (vC vZ (vC vZ (vC vZ vZ))))))
def s_ref24_in : TSpec := { f := 281, ps := ⟨[(0, .c (.ty (.i .i64))), (1, .c (.ty (.i .i64))), (2, .c (.ty (.i .i64)))], []⟩, rs := ⟨[(0, .c (.ty .b))], []⟩, β := Bool, F := fun v => ref24_in v.1.1 v.1.2.1 v.1.2.2.1, g := (fun r => ((r, ()), ())), d := fun _ => default }
theorem ref24_in_ok [Fuel] : FnOk Tryz.prog s_ref24_in :=
  fnI 15 tmL [] [] Tryz.func281 (fun v => v.1.1) .z ok0 vZ
def s_ref24_Key : TSpec := { f := 282, ps := ⟨[(0, .c (.ty .s))], []⟩, rs := ⟨[(0, .c (.ty .b))], []⟩, β := Bool, F := fun v => ref24_Key v.1.1, g := (fun r => ((r, ()), ())), d := fun _ => default }
theorem ref24_Key_ok [Fuel] : FnOk Tryz.prog s_ref24_Key :=
  fnI 6 tmL [s_ref24_in] [] Tryz.func282 (fun v => v.1.1) .z (okC ref24_in_ok ok0) vZ
def s_ref24_Value : TSpec := { f := 283, ps := ⟨[(0, .c (.ty .s))], []⟩, rs := ⟨[(0, .c (.ty .b))], []⟩, β := Bool, F := fun v => ref24_Value v.1.1, g := (fun r => ((r, ()), ())), d := fun _ => default }
theorem ref24_Value_ok [Fuel] : FnOk Tryz.prog s_ref24_Value :=
  fnI 6 tmL [] [] Tryz.func283 (fun v => v.1.1) .z ok0 vZ
def s_ref24_Valid : TSpec := { f := 252, ps := ⟨[(0, .st .ApiChange)], []⟩, rs := ⟨[(0, .c (.ty .b))], []⟩, β := Bool, F := fun v => ref24_Valid v.1.1, g := (fun r => ((r, ()), ())), d := fun _ => default }
theorem ref24_Valid_ok [Fuel] : FnOk Tryz.prog s_ref24_Valid :=
  fnI 90 tmL [s_ref24_in, s_ref24_Key, s_ref24_Value] [] Tryz.func252 (fun v => v.1.1) .z (okC ref24_in_ok (okC ref24_Key_ok (okC ref24_Value_ok ok0))) vZ
def s_ref28_Copy_Epoch : TSpec := { f := 253, ps := ⟨[(0, .c (.pb 0 0))], [.bx [.ty (.i .i64), .ty (.i .i64), .ty (.l (.n .ApiChange)), .pb 1 0, .pb 2 0, .pb 3 0, .pb 4 0], .bs .Ref24Store, .bs .Ref25Queue, .bs .Ref26Table, .bs .Ref27Gate]⟩, rs := ⟨[(0, .c (.ty (.i .i64)))], [.bx [.ty (.i .i64), .ty (.i .i64), .ty (.l (.n .ApiChange)), .pb 1 0, .pb 2 0, .pb 3 0, .pb 4 0], .bs .Ref24Store, .bs .Ref25Queue, .bs .Ref26Table, .bs .Ref27Gate]⟩, β := (Int × Ref28Copy), F := fun v => ref28_Copy_Epoch { Cell := v.2.1.1, Tenant := v.2.1.2.1, H := v.2.1.2.2.1, S := v.2.2.1, Q := v.2.2.2.1, T := v.2.2.2.2.1, G := v.2.2.2.2.2.1 : Ref28Copy }, g := (fun r => ((r.1, ()), ((r.2.Cell, (r.2.Tenant, (r.2.H, ((), ((), ((), ((), ()))))))), (r.2.S, (r.2.Q, (r.2.T, (r.2.G, ()))))))), d := fun v => (default, { Cell := v.2.1.1, Tenant := v.2.1.2.1, H := v.2.1.2.2.1, S := v.2.2.1, Q := v.2.2.2.1, T := v.2.2.2.2.1, G := v.2.2.2.2.2.1 : Ref28Copy }), dk := true, hd := fun _ _ => rfl }
theorem ref28_Copy_Epoch_ok [Fuel] : FnOk Tryz.prog s_ref28_Copy_Epoch :=
  fnI 22 tmL [] [] Tryz.func253 (fun v => (v.1.1, { Cell := v.2.1.1, Tenant := v.2.1.2.1, H := v.2.1.2.2.1, S := v.2.2.1, Q := v.2.2.2.1, T := v.2.2.2.2.1, G := v.2.2.2.2.2.1 : Ref28Copy })) .z ok0 vZ
def s_ref25_Queue_Copy : TSpec := { f := 254, ps := ⟨[(0, .c (.pb 0 0))], [.bs .Ref25Queue]⟩, rs := ⟨[(0, .c (.pb 1 0))], [.bs .Ref25Queue, .bs .Ref25Queue]⟩, β := (Ref25Queue × Ref25Queue), F := fun v => ref25_Queue_Copy v.2.1, g := (fun r => (((), ()), (r.2, (r.1, ())))), d := fun v => (default, v.2.1), dk := true, hd := fun _ _ => rfl }
theorem ref25_Queue_Copy_ok [Fuel] : FnOk Tryz.prog s_ref25_Queue_Copy :=
  fnI 21 tmL [] [] Tryz.func254 (fun v => (v.2.2.1, v.2.1)) .z ok0 vZ
def s_ref26_Table_Apply : TSpec := { f := 255, ps := ⟨[(0, .c (.pb 0 0)), (1, .st .ApiChange)], [.bs .Ref26Table]⟩, rs := ⟨[(0, .c (.ty (.i .i64)))], [.bs .Ref26Table]⟩, β := (Int × Ref26Table), F := fun v => ref26_Table_Apply v.2.1 v.1.2.1, g := (fun r => ((r.1, ()), (r.2, ()))), d := fun v => (default, v.2.1), dk := true, hd := fun _ _ => rfl }
theorem ref26_Table_Apply_ok [Fuel] : FnOk Tryz.prog s_ref26_Table_Apply :=
  fnI 50 tmL [s_ref24_Valid] [] Tryz.func255 (fun v => (v.1.1, v.2.1)) (.two .z (.two .z (.two .z (.two (.cut ⟨[(0, .c (.pb 0 0)), (3, .c (.pb 1 0)), (5, .c (.ty (.i .i64))), (21, .c (.ty .b))], [.bs .Ref26Table, .bs .ApiChange]⟩ (fun v => ref26_Table_Apply_k4 v.2.1 v.2.2.1 v.1.2.2.1 v.1.2.2.2.1) (.sp 5 8) .z) (.cut ⟨[(0, .c (.pb 0 0)), (3, .c (.pb 1 0)), (5, .c (.ty (.i .i64)))], [.bs .Ref26Table, .bs .ApiChange]⟩ (fun v => ref26_Table_Apply_k3 v.2.2.1 v.2.1 v.1.2.2.1) (.sp 5 8) (.cut ⟨[(0, .c (.pb 0 0)), (3, .c (.pb 1 0)), (5, .c (.ty (.i .i64)))], [.bs .Ref26Table, .bs .ApiChange]⟩ (fun v => ref26_Table_Apply_k2 v.2.2.1 v.2.1 v.1.2.2.1) (.sp 5 8) (.cut ⟨[], [.bs .Ref26Table]⟩ (fun v => ref26_Table_Apply_k1 v.2.1) (.two .z (.two (.sp 5 8) .z)) .z))))))) (okC ref24_Valid_ok ok0) (vS vZ (vS vZ (vS vZ (vS (vC vP vZ) (vC vP (vC vP (vC (vS vZ (vD vP vZ)) vZ)))))))
def s_ref24_Store_find [Fuel] : TSpec := { f := 284, ps := ⟨[(0, .c (.pb 0 0)), (1, .c (.ty .s))], [.bs .Ref24Store]⟩, rs := ⟨[(0, .c (.ty (.i .i64))), (1, .c (.ty .b))], [.bs .Ref24Store]⟩, β := (Int × Bool × Ref24Store), F := fun v => ref24_Store_find v.2.1 v.1.2.1, g := (fun r => ((r.1, (r.2.1, ())), (r.2.2, ()))), d := fun v => (default, default, v.2.1), dk := true, hd := fun _ _ => rfl }
theorem ref24_Store_find_ok [Fuel] : FnOk Tryz.prog s_ref24_Store_find :=
  fnI 48 tmL [] [] Tryz.func284 (fun v => (v.1.1, v.1.2.1, v.2.1)) (.two .z (.two .z (.two (.one (.lp ⟨[(0, .c (.pb 0 0)), (1, .c (.ty .s)), (6, .c (.ty (.i .i64)))], [.bs .Ref24Store]⟩ (fun n v => ref24_Store_find_l1 v.2.1 v.1.2.1 n v.1.2.2.1) fun rc_ref24_Store_find_l1 => .z)) .z))) ok0 (vS vZ (vS vZ (vS (vB (vL fun _ => vZ)) vZ)))
def s_ref24_Store_Apply [Fuel] : TSpec := { f := 256, ps := ⟨[(0, .c (.pb 0 0)), (1, .st .ApiChange)], [.bs .Ref24Store]⟩, rs := ⟨[(0, .c (.ty (.i .i64)))], [.bs .Ref24Store]⟩, β := (Int × Ref24Store), F := fun v => ref24_Store_Apply v.2.1 v.1.2.1, g := (fun r => ((r.1, ()), (r.2, ()))), d := fun v => (default, v.2.1), dk := true, hd := fun _ _ => rfl }
theorem ref24_Store_Apply_ok [Fuel] : FnOk Tryz.prog s_ref24_Store_Apply :=
  fnI 108 tmL [s_ref24_Valid, s_ref24_Store_find] [] Tryz.func256 (fun v => (v.1.1, v.2.1)) (.two .z (.two .z (.two .z (.cut ⟨[], [.bs .Ref24Store]⟩ (fun v => ref24_Store_Apply_k1 v.2.1) .z .z)))) (okC ref24_Valid_ok (okC ref24_Store_find_ok ok0)) (vS vZ (vS vZ (vS vZ (vC vZ vZ))))
def s_ref25_Queue_at [Fuel] : TSpec := { f := 285, ps := ⟨[(0, .c (.pb 0 0)), (1, .c (.ty (.i .i64)))], [.bs .Ref25Queue]⟩, rs := ⟨[(0, .c (.ty (.i .i64)))], [.bs .Ref25Queue]⟩, β := (Int × Ref25Queue), F := fun v => ref25_Queue_at v.2.1 v.1.2.1, g := (fun r => ((r.1, ()), (r.2, ()))), d := fun v => (default, v.2.1), dk := true, hd := fun _ _ => rfl }
theorem ref25_Queue_at_ok [Fuel] : FnOk Tryz.prog s_ref25_Queue_at :=
  fnI 23 tmL [] [] Tryz.func285 (fun v => (v.1.1, v.2.1)) (.two .z (.two (.two .z (.one (.lp ⟨[(1, .c (.ty (.i .i64))), (10, .c (.ty (.l (.n .ApiItem)))), (11, .c (.ty (.i .i64))), (12, .c (.ty (.i .i64)))], [.bs .Ref25Queue]⟩ (fun n v => ref25_Queue_at_l1 v.2.1 v.1.1 v.1.2.1 v.1.2.2.1 n v.1.2.2.2.1) fun rc_ref25_Queue_at_l1 => .z))) .z)) ok0 (vS vZ (vS (vS vZ (vB (vL fun _ => vZ))) vZ))
def s_ref25_Queue_drop [Fuel] : TSpec := { f := 286, ps := ⟨[(0, .c (.pb 0 0)), (1, .c (.ty (.i .i64)))], [.bw .Ref25Queue [(0, .own 1)], .ar (.n .ApiItem)]⟩, rs := ⟨[], [.bw .Ref25Queue [(0, .own 1)], .ar (.n .ApiItem)]⟩, β := Ref25Queue, F := fun v => ref25_Queue_drop ({ v.2.1.1 with L := v.2.2.1 }) v.1.2.1, g := (fun r => ((), (({ r with L := ([] : List ApiItem) }, ((), ())), (r.L, ())))), d := fun _ => default }
theorem ref25_Queue_drop_ok [Fuel] : FnOk Tryz.prog s_ref25_Queue_drop :=
  fnI 29 tmL [] [] Tryz.func286 (fun v => ({ v.2.1.1 with L := v.2.2.1 })) (.two .z (.two (.two .z (.one (.lp ⟨[(0, .c (.pb 0 0)), (1, .c (.ty (.i .i64))), (4, .c (.own 2)), (10, .c (.ty (.l (.n .ApiLease)))), (11, .c (.ty (.i .i64))), (12, .c (.ty (.i .i64)))], [.bw .Ref25Queue [(0, .own 1)], .ar (.n .ApiItem), .ar (.n .ApiLease)]⟩ (fun n v => ref25_Queue_drop_l2 { v.2.1.1 with L := v.2.2.1 } v.1.2.1 v.1.2.2.2.1 v.1.2.2.2.2.1 n v.2.2.2.1 v.1.2.2.2.2.2.1) fun rc_ref25_Queue_drop_l2 => (.two .z (.two .z (.cut ⟨[(0, .c (.pb 0 0)), (1, .c (.ty (.i .i64))), (4, .c (.own 2)), (10, .c (.ty (.l (.n .ApiLease)))), (11, .c (.ty (.i .i64))), (12, .c (.ty (.i .i64)))], [.bw .Ref25Queue [(0, .own 1)], .ar (.n .ApiItem), .ar (.n .ApiLease)]⟩ (fun v => ref25_Queue_drop_k1 (fun y1 y2 => rc_ref25_Queue_drop_l2 (((), (v.1.2.1, ((), (v.1.2.2.2.1, (v.1.2.2.2.2.1, (y2, ())))))), (({ v.2.1.1 with L := v.2.2.1 }, ((), ())), ({ v.2.1.1 with L := v.2.2.1 }.L, (y1, ()))))) v.1.2.2.2.2.2.1 v.2.2.2.1) .z .z)))))) .z)) ok0 (vS vZ (vS (vS vZ (vB (vL fun _ => (vS vZ (vS vZ (vC vZ vZ)))))) vZ))
def s_ref25_Queue_Apply [Fuel] : TSpec := { f := 257, ps := ⟨[(0, .c (.pb 0 0)), (1, .st .ApiChange)], [.bs .Ref25Queue]⟩, rs := ⟨[(0, .c (.ty (.i .i64)))], [.bs .Ref25Queue]⟩, β := (Int × Ref25Queue), F := fun v => ref25_Queue_Apply v.2.1 v.1.2.1, g := (fun r => ((r.1, ()), (r.2, ()))), d := fun v => (default, v.2.1), dk := true, hd := fun _ _ => rfl }
theorem ref25_Queue_Apply_ok [Fuel] : FnOk Tryz.prog s_ref25_Queue_Apply :=
  fnI 78 tmL [s_ref24_Valid, s_ref25_Queue_at, s_ref25_Queue_drop] [] Tryz.func257 (fun v => (v.1.1, v.2.1)) (.two .z (.two .z (.cut ⟨[], [.bs .Ref25Queue]⟩ (fun v => ref25_Queue_Apply_k1 v.2.1) .z .z))) (okC ref24_Valid_ok (okC ref25_Queue_at_ok (okC ref25_Queue_drop_ok ok0))) (vS vZ (vS vZ (vC vZ vZ)))
def s_ref28_Copy_Apply [Fuel] : TSpec := { f := 210, ps := ⟨[(0, .c (.pb 0 0)), (1, .st .ApiChange)], [.bx [.ty (.i .i64), .ty (.i .i64), .ty (.l (.n .ApiChange)), .pb 1 0, .pb 2 0, .pb 3 0, .pb 4 0], .bs .Ref24Store, .bs .Ref25Queue, .bs .Ref26Table, .bs .Ref27Gate]⟩, rs := ⟨[(0, .c (.ty (.i .i64)))], [.bx [.ty (.i .i64), .ty (.i .i64), .ty (.l (.n .ApiChange)), .pb 5 0, .pb 6 0, .pb 7 0, .pb 4 0], .dd, .dd, .dd, .bs .Ref27Gate, .bs .Ref24Store, .bs .Ref25Queue, .bs .Ref26Table]⟩, β := (Int × Ref28Copy), F := fun v => ref28_Copy_Apply { Cell := v.2.1.1, Tenant := v.2.1.2.1, H := v.2.1.2.2.1, S := v.2.2.1, Q := v.2.2.2.1, T := v.2.2.2.2.1, G := v.2.2.2.2.2.1 : Ref28Copy } v.1.2.1, g := (fun r => ((r.1, ()), ((r.2.Cell, (r.2.Tenant, (r.2.H, ((), ((), ((), ((), ()))))))), ((), ((), ((), (r.2.G, (r.2.S, (r.2.Q, (r.2.T, ())))))))))), d := fun _ => default }
theorem ref28_Copy_Apply_ok [Fuel] : FnOk Tryz.prog s_ref28_Copy_Apply :=
  fnI 90 tmL [s_ref24_Valid, s_ref28_Copy_Epoch, s_ref25_Queue_Copy, s_ref26_Table_Apply, s_ref24_Store_Apply, s_ref25_Queue_Apply] [] Tryz.func210 (fun v => (v.1.1, { Cell := v.2.1.1, Tenant := v.2.1.2.1, H := v.2.1.2.2.1, S := v.2.2.2.2.2.2.1, Q := v.2.2.2.2.2.2.2.1, T := v.2.2.2.2.2.2.2.2.1, G := v.2.2.2.2.2.1 : Ref28Copy })) (.two .z (.two .z (.two .z (.two .z (.two (.two .z (.one (.lp ⟨[(0, .c (.pb 0 0)), (3, .c (.pb 5 0)), (5, .c (.pb 6 0)), (6, .c (.pb 7 0)), (7, .c (.pb 8 0)), (57, .c (.own 9)), (58, .c (.ty (.i .i64))), (59, .c (.ty (.i .i64)))], [.bx [.ty (.i .i64), .ty (.i .i64), .ty (.l (.n .ApiChange)), .pb 1 0, .pb 2 0, .pb 3 0, .pb 4 0], .bs .Ref24Store, .bs .Ref25Queue, .bs .Ref26Table, .bs .Ref27Gate, .bs .ApiChange, .bs .Ref26Table, .bs .Ref24Store, .bs .Ref25Queue, .ar (.i .i64)]⟩ (fun n v => ref28_Copy_Apply_l1 v.2.2.2.2.2.2.1 v.2.1.1 v.2.1.2.1 v.2.1.2.2.1 v.2.2.1 v.2.2.2.1 v.2.2.2.2.1 v.2.2.2.2.2.1 v.2.2.2.2.2.2.2.1 v.2.2.2.2.2.2.2.2.1 v.2.2.2.2.2.2.2.2.2.1 v.2.2.2.2.2.2.2.2.2.2.1 v.1.2.2.2.2.2.2.1 n v.1.2.2.2.2.2.2.2.1) fun rc_ref28_Copy_Apply_l1 => .z))) .z))))) (okC ref24_Valid_ok (okC ref28_Copy_Epoch_ok (okC ref25_Queue_Copy_ok (okC ref26_Table_Apply_ok (okC ref24_Store_Apply_ok (okC ref25_Queue_Apply_ok ok0)))))) (vS vZ (vS vZ (vS vZ (vS vZ (vS (vS vZ (vB (vL fun _ => vZ))) vZ)))))
def s_mill_Grow [Fuel] : TSpec := { f := 143, ps := ⟨[(0, .c (.pb 0 0)), (1, .c (.pb 1 0)), (2, .c (.ty (.i .i64))), (3, .c (.ty (.i .i64)))], [.bs .MillTape, .bx [.ty (.i .i64), .ty (.i .i64), .ty (.l (.n .ApiChange)), .pb 2 0, .pb 3 0, .pb 4 0, .pb 5 0], .bs .Ref24Store, .bs .Ref25Queue, .bs .Ref26Table, .bs .Ref27Gate]⟩, rs := ⟨[], [.bs .MillTape, .bx [.ty (.i .i64), .ty (.i .i64), .ty (.l (.n .ApiChange)), .pb 6 0, .pb 7 0, .pb 8 0, .pb 5 0], .dd, .dd, .dd, .bs .Ref27Gate, .bs .Ref24Store, .bs .Ref25Queue, .bs .Ref26Table]⟩, β := (MillTape × Ref28Copy), F := fun v => mill_Grow v.2.1 { Cell := v.2.2.1.1, Tenant := v.2.2.1.2.1, H := v.2.2.1.2.2.1, S := v.2.2.2.1, Q := v.2.2.2.2.1, T := v.2.2.2.2.2.1, G := v.2.2.2.2.2.2.1 : Ref28Copy } v.1.2.2.1 v.1.2.2.2.1, g := (fun r => ((), (r.1, ((r.2.Cell, (r.2.Tenant, (r.2.H, ((), ((), ((), ((), ()))))))), ((), ((), ((), (r.2.G, (r.2.S, (r.2.Q, (r.2.T, ()))))))))))), d := fun _ => default }
theorem mill_Grow_ok [Fuel] : FnOk Tryz.prog s_mill_Grow :=
  fnI 29 tmL [s_mill_Tape_More, s_mill_Tape_Next, s_mill_Change, s_ref28_Copy_Apply] [] Tryz.func143 (fun v => (v.2.1, { Cell := v.2.2.1.1, Tenant := v.2.2.1.2.1, H := v.2.2.1.2.2.1, S := v.2.2.2.2.2.2.2.1, Q := v.2.2.2.2.2.2.2.2.1, T := v.2.2.2.2.2.2.2.2.2.1, G := v.2.2.2.2.2.2.1 : Ref28Copy })) (.two .z (.one (.lp ⟨[(0, .c (.pb 0 0)), (1, .c (.pb 1 0)), (2, .c (.ty (.i .i64))), (3, .c (.ty (.i .i64))), (8, .c (.ty (.i .i64)))], [.bs .MillTape, .bx [.ty (.i .i64), .ty (.i .i64), .ty (.l (.n .ApiChange)), .pb 6 0, .pb 7 0, .pb 8 0, .pb 5 0], .dd, .dd, .dd, .bs .Ref27Gate, .bs .Ref24Store, .bs .Ref25Queue, .bs .Ref26Table]⟩ (fun n v => mill_Grow_l2 v.1.2.2.2.1 n v.2.1 v.2.2.1.1 v.2.2.1.2.1 v.2.2.1.2.2.1 v.2.2.2.2.2.2.2.1 v.2.2.2.2.2.2.2.2.1 v.2.2.2.2.2.2.2.2.2.1 v.2.2.2.2.2.2.1 v.1.2.2.1 v.1.2.2.2.2.1) fun rc_mill_Grow_l2 => (.two .z (.two (.one (.cut ⟨[(0, .c (.pb 0 0)), (1, .c (.pb 1 0)), (2, .c (.ty (.i .i64))), (3, .c (.ty (.i .i64))), (8, .c (.ty (.i .i64)))], [.bs .MillTape, .bx [.ty (.i .i64), .ty (.i .i64), .ty (.l (.n .ApiChange)), .pb 6 0, .pb 7 0, .pb 8 0, .pb 5 0], .dd, .dd, .dd, .bs .Ref27Gate, .bs .Ref24Store, .bs .Ref25Queue, .bs .Ref26Table]⟩ (fun v => mill_Grow_k1 (fun y1 y2 y3 y4 y5 y6 y7 y8 y9 y10 => rc_mill_Grow_l2 (((), ((), (y9, (v.1.2.2.2.1, (y10, ()))))), (y1, ((y2, (y3, (y4, ((), ((), ((), ((), ()))))))), ((), ((), ((), (y8, (y5, (y6, (y7, ()))))))))))) v.2.2.1.1 v.2.2.1.2.1 v.2.2.1.2.2.1 v.2.2.2.2.2.2.2.1 v.2.2.2.2.2.2.2.2.1 v.2.2.2.2.2.2.2.2.2.1 v.2.2.2.2.2.2.1 v.1.2.2.2.2.1 v.2.1 v.1.2.2.1) .z .z)) .z))))) (okC mill_Tape_More_ok (okC mill_Tape_Next_ok (okC mill_Change_ok (okC ref28_Copy_Apply_ok ok0)))) (vS vZ (vB (vL fun _ => (vS vZ (vS (vB (vC vZ vZ)) vZ)))))
def s_mill_History [Fuel] : TSpec := { f := 66, ps := ⟨[(0, .c (.ty (.l (.i .i64))))], []⟩, rs := ⟨[(0, .c (.ty (.l (.n .ApiChange))))], []⟩, β := (List ApiChange), F := fun v => mill_History v.1.1, g := (fun r => ((r, ()), ())), d := fun _ => default }
theorem mill_History_ok [Fuel] : FnOk Tryz.prog s_mill_History :=
  fnI 13 tmL [s_ref28_New, s_mill_New, s_mill_Grow] [] Tryz.func66 (fun v => v.1.1) .z (okC ref28_New_ok (okC mill_New_ok (okC mill_Grow_ok ok0))) vZ
def s_store_common_api_Change [Fuel] : TSpec := { f := 212, ps := ⟨[(0, .c (.ty (.l (.n .ApiChange)))), (1, .c (.ty (.l (.n .ApiChange))))], []⟩, rs := ⟨[(0, .c (.ty (.i .i64)))], []⟩, β := Int, F := fun v => store_common_api_Change v.1.1 v.1.2.1, g := (fun r => ((r, ()), ())), d := fun _ => default }
theorem store_common_api_Change_ok [Fuel] : FnOk Tryz.prog s_store_common_api_Change :=
  fnI 30 tmL [] [] Tryz.func212 (fun v => v.1.1) (.two .z (.two .z (.two (.one (.lp ⟨[(0, .c (.ty (.l (.n .ApiChange)))), (1, .c (.ty (.l (.n .ApiChange)))), (5, .c (.ty (.i .i64)))], []⟩ (fun n v => store_common_api_Change_l1 v.1.1 v.1.2.1 n v.1.2.2.1) fun rc_store_common_api_Change_l1 => .z)) .z))) ok0 (vS vZ (vS vZ (vS (vB (vL fun _ => vZ)) vZ)))
end Go.Proofs
