/- Models of the program's functions, printed by tx.py. -/
import Derived.Deep.Slices
import Derived.ChangeArms
import Derived.Below
import Derived.Test.YtainedkebgjelaaP2665ba3e6
namespace Go.CP
open Go
set_option linter.unusedVariables false
def ref28_New (p1 : Int) (p2 : Int) : Option Ref28Copy :=
  (some { Cell := p1, Tenant := p2, H := ([] : List ApiChange), S := { L := ([] : List Ref24Cell) : Ref24Store }, Q := { L := ([] : List ApiItem), R := ([] : List ApiLease), Most := 0 : Ref25Queue }, T := { N := { e0 := 0, e1 := 0, e2 := 0, e3 := 0, e4 := 0, e5 := 0, e6 := 0, e7 := 0 : Arr8Int }, R := { e0 := { Err := 0, Seq := 0, Item := 0, Value := ByteArray.empty : ApiReply }, e1 := { Err := 0, Seq := 0, Item := 0, Value := ByteArray.empty : ApiReply }, e2 := { Err := 0, Seq := 0, Item := 0, Value := ByteArray.empty : ApiReply }, e3 := { Err := 0, Seq := 0, Item := 0, Value := ByteArray.empty : ApiReply }, e4 := { Err := 0, Seq := 0, Item := 0, Value := ByteArray.empty : ApiReply }, e5 := { Err := 0, Seq := 0, Item := 0, Value := ByteArray.empty : ApiReply }, e6 := { Err := 0, Seq := 0, Item := 0, Value := ByteArray.empty : ApiReply }, e7 := { Err := 0, Seq := 0, Item := 0, Value := ByteArray.empty : ApiReply } : Arr8ApiReply } : Ref26Table }, G := { Cell := p1, Closed := 0, L := ([] : List ApiWindow) : Ref27Gate } : Ref28Copy })
def mill_New (p1 : (List Int)) : Option MillTape :=
  (some { L := p1, At := 0 : MillTape })
def mill_Tape_More (p1 : MillTape) : Option (Bool × MillTape) :=
  (some ((decide (p1.At < ((p1.L.length : Nat) : Int))), p1))
def mill_Mod_k1 (x1 : Int) : Option Int :=
  (some x1)
def mill_Mod (p1 : Int) (p2 : Int) : Option Int :=
  (chk (decide (p2 ≠ (0 : Int)))
  (bif (decide ((Int.tmod p1 p2) < 0)) then mill_Mod_k1 (w64 ((Int.tmod p1 p2) + p2))
 else mill_Mod_k1 (Int.tmod p1 p2)))
def mill_Tape_Next (p1 : MillTape) (p2 : Int) : Option (Int × MillTape) :=
  (bif (decide (((p1.L.length : Nat) : Int) ≤ p1.At)) then (some (0, p1))
 else (ixL p1.L (w64 ((w64 (p1.At + 1)) - 1)) fun x1 =>
  ((mill_Mod x1 p2).bind fun x2 =>
  (some (x2, { p1 with At := (w64 (p1.At + 1)) })))))
def mill_Tape_Range (p1 : MillTape) (p2 : Int) (p3 : Int) : Option (Int × MillTape) :=
  ((mill_Tape_Next p1 (w64 ((w64 (p3 - p2)) + 1))).bind fun x1 =>
  (some ((w64 (p2 + x1.1)), x1.2)))
def ref26_Table_Last_k1 (p1 : Ref26Table) (x1 : Int) : Option (Int × Ref26Table) :=
  (some (x1, p1))
def ref26_Table_Last (p1 : Ref26Table) (p2 : Int) : Option (Int × Ref26Table) :=
  (bif ((decide (p2 < 1)) || (decide (8 < p2))) then (some (0, p1))
 else (bif (p2 == 8) then ref26_Table_Last_k1 p1 p1.N.e7
 else (bif (p2 == 7) then ref26_Table_Last_k1 p1 p1.N.e6
 else (bif (p2 == 6) then ref26_Table_Last_k1 p1 p1.N.e5
 else (bif (p2 == 5) then ref26_Table_Last_k1 p1 p1.N.e4
 else (bif (p2 == 4) then ref26_Table_Last_k1 p1 p1.N.e3
 else (bif (p2 == 3) then ref26_Table_Last_k1 p1 p1.N.e2
 else (bif (p2 == 2) then ref26_Table_Last_k1 p1 p1.N.e1
 else (bif (p2 == 1) then ref26_Table_Last_k1 p1 p1.N.e0
 else (bif (p2 == 0) then none
 else none))))))))))
def mill_Tape_Text_l1 (x1 : Int) : Nat → MillTape → (List Int) → Int → Option (ByteArray × MillTape)
  | 0, _, _, _ => none
  | fu1 + 1, x2, x3, x4 =>
  (bif (decide (x4 < x1)) then ((mill_Tape_Next x2 4).bind fun x5 =>
  (ixL x3 x4 fun x6 =>
  (letD (x3.set (Int.toNat x4) (IntKind.u8.wrap (97 + (IntKind.u8.wrap x5.1)))) fun x7 =>
  (mill_Tape_Text_l1 x1 fu1) x5.2 x7 (w64 (x4 + 1)))))
 else (chk (strOk x3)
  (some ((strL x3), x2))))
def mill_Tape_Text_k2 [Fuel] (x8 : MillTape) (x9 : Int) : Option (ByteArray × MillTape) :=
  (chk (decide ((0 : Int) ≤ x9 ∧ (x9 : Int) ≤ x9 ∧ (x9 : Int) ≤ 9223372036854775807 ∧ (x9 : Int) * 1 ≤ 140737488355328))
  (mill_Tape_Text_l1 (((List.replicate (Int.toNat x9) (default : Int)).length : Nat) : Int) fuel x8 (List.replicate (Int.toNat x9) (default : Int)) 0))
def mill_Tape_Text [Fuel] (p1 : MillTape) (p2 : Int) (p3 : Int) : Option (ByteArray × MillTape) :=
  ((mill_Tape_Range p1 p2 (minE p3 (w64 (p2 + 2)))).bind fun x10 =>
  ((mill_Tape_Next x10.2 9).bind fun x11 =>
  (bif (x11.1 == 8) then mill_Tape_Text_k2 x11.2 p3
 else mill_Tape_Text_k2 x11.2 x10.1)))
def mill_Change_k1 (x1 : Int) (x2 : Int) (x3 : (List ApiChange)) (x4 : Ref24Store) (x5 : Ref25Queue) (x6 : Ref26Table) (x7 : Ref27Gate) (x8 : MillTape) (x9 : ApiChange) : Option (ApiChange × MillTape × Ref28Copy) :=
  (some (x9, x8, { Cell := x1, Tenant := x2, H := x3, S := x4, Q := x5, T := x6, G := x7 : Ref28Copy }))
def mill_Change_k2 [Fuel] (x10 : MillTape) (x1 : Int) (x2 : Int) (x3 : (List ApiChange)) (x4 : Ref24Store) (x5 : Ref25Queue) (x6 : Ref26Table) (x7 : Ref27Gate) (x11 : ApiChange) : Option (ApiChange × MillTape × Ref28Copy) :=
  (bif (x11.Kind == 1) then ((mill_Tape_Text x10 1 16).bind fun x12 =>
  ((mill_Tape_Text x12.2 0 64).bind fun x13 =>
  mill_Change_k1 x1 x2 x3 x4 x5 x6 x7 x13.2 { x11 with Key := x12.1, Value := x13.1 }))
 else (bif (x11.Kind == 2) then ((mill_Tape_Next x10 ((x4.L.length : Nat) : Int)).bind fun x14 =>
  (ixL x4.L x14.1 fun x15 =>
  mill_Change_k1 x1 x2 x3 x4 x5 x6 x7 x14.2 { x11 with Key := x15.Key }))
 else (bif (x11.Kind == 3) then ((mill_Tape_Text x10 0 64).bind fun x16 =>
  mill_Change_k1 x1 x2 x3 x4 x5 x6 x7 x16.2 { x11 with Value := x16.1 })
 else (bif (x11.Kind == 4) then ((mill_Tape_Next x10 ((x5.L.length : Nat) : Int)).bind fun x17 =>
  (ixL x5.L x17.1 fun x18 =>
  mill_Change_k1 x1 x2 x3 x4 x5 x6 x7 x17.2 { x11 with Item := x18.Number }))
 else mill_Change_k1 x1 x2 x3 x4 x5 x6 x7 x10 x11))))
def mill_Change_k3 [Fuel] (x10 : MillTape) (x1 : Int) (x2 : Int) (x3 : (List ApiChange)) (x4 : Ref24Store) (x5 : Ref25Queue) (x6 : Ref26Table) (x7 : Ref27Gate) (x19 : ApiChange) : Option (ApiChange × MillTape × Ref28Copy) :=
  (bif ((x19.Kind == 2) && (((x4.L.length : Nat) : Int) == 0)) then mill_Change_k2 x10 x1 x2 x3 x4 x5 x6 x7 { x19 with Kind := 1 }
 else mill_Change_k2 x10 x1 x2 x3 x4 x5 x6 x7 x19)
def mill_Change [Fuel] (p1 : MillTape) (p2 : Ref28Copy) (p3 : Int) : Option (ApiChange × MillTape × Ref28Copy) :=
  ((mill_Tape_Range p1 1 4).bind fun x20 =>
  ((mill_Tape_Range x20.2 1 4).bind fun x21 =>
  ((ref26_Table_Last p2.T x21.1).bind fun x22 =>
  (bif ((x20.1 == 4) && (((p2.Q.L.length : Nat) : Int) == 0)) then mill_Change_k3 x21.2 p2.Cell p2.Tenant p2.H p2.S p2.Q x22.2 p2.G { Epoch := p3, Seq := (w64 (((p2.H.length : Nat) : Int) + 1)), Kind := 3, Client := x21.1, Number := (w64 (x22.1 + 1)), Item := 0, Key := ByteArray.empty, Value := ByteArray.empty : ApiChange }
 else mill_Change_k3 x21.2 p2.Cell p2.Tenant p2.H p2.S p2.Q x22.2 p2.G { Epoch := p3, Seq := (w64 (((p2.H.length : Nat) : Int) + 1)), Kind := x20.1, Client := x21.1, Number := (w64 (x22.1 + 1)), Item := 0, Key := ByteArray.empty, Value := ByteArray.empty : ApiChange }))))
def ref24_in (p1 : Int) (p2 : Int) (p3 : Int) : Option Bool :=
  (some ((decide (p2 ≤ p1)) && (decide (p1 ≤ p3))))
def ref24_Key (p1 : ByteArray) : Option Bool :=
  ((ref24_in ((p1.size : Nat) : Int) 1 16).bind fun x1 =>
  (some x1))
def ref24_Value (p1 : ByteArray) : Option Bool :=
  (some (decide (((p1.size : Nat) : Int) ≤ 64)))
def ref24_Valid (p1 : ApiChange) : Option Bool :=
  ((ref24_in p1.Epoch 1 1048576).bind fun x1 =>
  (((bif (!(!x1)) then ref24_in p1.Seq 1 4096 else some default)).bind fun x2 =>
  (((bif (!((!x1) || (!x2))) then ref24_in p1.Client 1 8 else some default)).bind fun x3 =>
  (((bif (!(((!x1) || (!x2)) || (!x3))) then ref24_in p1.Number 1 1048576 else some default)).bind fun x4 =>
  (bif ((((!x1) || (!x2)) || (!x3)) || (!x4)) then (some false)
 else (bif (p1.Kind == 1) then ((ref24_Key p1.Key).bind fun x5 =>
  (((bif x5 then ref24_Value p1.Value else some default)).bind fun x6 =>
  (some ((x5 && x6) && (p1.Item == 0)))))
 else (bif (p1.Kind == 2) then ((ref24_Key p1.Key).bind fun x7 =>
  (some ((x7 && (p1.Value.toList == ByteArray.empty.toList)) && (p1.Item == 0))))
 else (bif (p1.Kind == 3) then (((bif (p1.Key.toList == ByteArray.empty.toList) then ref24_Value p1.Value else some default)).bind fun x8 =>
  (some (((p1.Key.toList == ByteArray.empty.toList) && x8) && (p1.Item == 0))))
 else (bif (p1.Kind == 4) then (((bif ((p1.Key.toList == ByteArray.empty.toList) && (p1.Value.toList == ByteArray.empty.toList)) then ref24_in p1.Item 1 (w64 (p1.Seq - 1)) else some default)).bind fun x9 =>
  (some (((p1.Key.toList == ByteArray.empty.toList) && (p1.Value.toList == ByteArray.empty.toList)) && x9)))
 else (some false))))))))))
def ref28_Copy_Epoch (p1 : Ref28Copy) : Option (Int × Ref28Copy) :=
  (bif (((p1.H.length : Nat) : Int) == 0) then (some (0, p1))
 else (ixL p1.H (w64 (((p1.H.length : Nat) : Int) - 1)) fun x1 =>
  (some (x1.Epoch, p1))))
def ref25_Queue_Copy (p1 : Ref25Queue) : Option (Ref25Queue × Ref25Queue) :=
  (chk (decide ((([] : List ApiItem).length + p1.L.length) * 24 ≤ room))
  (chk (decide ((([] : List ApiLease).length + p1.R.length) * 32 ≤ room))
  (some ({ L := (([] : List ApiItem) ++ p1.L), R := (([] : List ApiLease) ++ p1.R), Most := p1.Most : Ref25Queue }, p1))))
def ref26_Table_Apply_k1 (x1 : Ref26Table) : Option (Int × Ref26Table) :=
  (some (0, x1))
def ref26_Table_Apply_k2 (p2 : ApiChange) (x2 : Ref26Table) (x3 : Int) : Option (Int × Ref26Table) :=
  (bif (p2.Kind == 3) then (bif (x3 == 7) then ref26_Table_Apply_k1 { x2 with R := { x2.R with e7 := { x2.R.e7 with Item := p2.Seq } } }
 else (bif (x3 == 6) then ref26_Table_Apply_k1 { x2 with R := { x2.R with e6 := { x2.R.e6 with Item := p2.Seq } } }
 else (bif (x3 == 5) then ref26_Table_Apply_k1 { x2 with R := { x2.R with e5 := { x2.R.e5 with Item := p2.Seq } } }
 else (bif (x3 == 4) then ref26_Table_Apply_k1 { x2 with R := { x2.R with e4 := { x2.R.e4 with Item := p2.Seq } } }
 else (bif (x3 == 3) then ref26_Table_Apply_k1 { x2 with R := { x2.R with e3 := { x2.R.e3 with Item := p2.Seq } } }
 else (bif (x3 == 2) then ref26_Table_Apply_k1 { x2 with R := { x2.R with e2 := { x2.R.e2 with Item := p2.Seq } } }
 else (bif (x3 == 1) then ref26_Table_Apply_k1 { x2 with R := { x2.R with e1 := { x2.R.e1 with Item := p2.Seq } } }
 else (bif (x3 == 0) then ref26_Table_Apply_k1 { x2 with R := { x2.R with e0 := { x2.R.e0 with Item := p2.Seq } } }
 else none))))))))
 else ref26_Table_Apply_k1 x2)
def ref26_Table_Apply_k3 (p2 : ApiChange) (x4 : Ref26Table) (x5 : Int) : Option (Int × Ref26Table) :=
  (bif (x5 == 7) then ref26_Table_Apply_k2 p2 { x4 with R := { x4.R with e7 := { Err := 0, Seq := p2.Seq, Item := p2.Item, Value := ByteArray.empty : ApiReply } } } 7
 else (bif (x5 == 6) then ref26_Table_Apply_k2 p2 { x4 with R := { x4.R with e6 := { Err := 0, Seq := p2.Seq, Item := p2.Item, Value := ByteArray.empty : ApiReply } } } 6
 else (bif (x5 == 5) then ref26_Table_Apply_k2 p2 { x4 with R := { x4.R with e5 := { Err := 0, Seq := p2.Seq, Item := p2.Item, Value := ByteArray.empty : ApiReply } } } 5
 else (bif (x5 == 4) then ref26_Table_Apply_k2 p2 { x4 with R := { x4.R with e4 := { Err := 0, Seq := p2.Seq, Item := p2.Item, Value := ByteArray.empty : ApiReply } } } 4
 else (bif (x5 == 3) then ref26_Table_Apply_k2 p2 { x4 with R := { x4.R with e3 := { Err := 0, Seq := p2.Seq, Item := p2.Item, Value := ByteArray.empty : ApiReply } } } 3
 else (bif (x5 == 2) then ref26_Table_Apply_k2 p2 { x4 with R := { x4.R with e2 := { Err := 0, Seq := p2.Seq, Item := p2.Item, Value := ByteArray.empty : ApiReply } } } 2
 else (bif (x5 == 1) then ref26_Table_Apply_k2 p2 { x4 with R := { x4.R with e1 := { Err := 0, Seq := p2.Seq, Item := p2.Item, Value := ByteArray.empty : ApiReply } } } 1
 else (bif (x5 == 0) then ref26_Table_Apply_k2 p2 { x4 with R := { x4.R with e0 := { Err := 0, Seq := p2.Seq, Item := p2.Item, Value := ByteArray.empty : ApiReply } } } 0
 else none))))))))
def ref26_Table_Apply_k4 (p1 : Ref26Table) (p2 : ApiChange) (x6 : Int) (x7 : Bool) : Option (Int × Ref26Table) :=
  (bif x7 then (some (32, p1))
 else (bif (x6 == 7) then ref26_Table_Apply_k3 p2 { p1 with N := { p1.N with e7 := p2.Number } } 7
 else (bif (x6 == 6) then ref26_Table_Apply_k3 p2 { p1 with N := { p1.N with e6 := p2.Number } } 6
 else (bif (x6 == 5) then ref26_Table_Apply_k3 p2 { p1 with N := { p1.N with e5 := p2.Number } } 5
 else (bif (x6 == 4) then ref26_Table_Apply_k3 p2 { p1 with N := { p1.N with e4 := p2.Number } } 4
 else (bif (x6 == 3) then ref26_Table_Apply_k3 p2 { p1 with N := { p1.N with e3 := p2.Number } } 3
 else (bif (x6 == 2) then ref26_Table_Apply_k3 p2 { p1 with N := { p1.N with e2 := p2.Number } } 2
 else (bif (x6 == 1) then ref26_Table_Apply_k3 p2 { p1 with N := { p1.N with e1 := p2.Number } } 1
 else (bif (x6 == 0) then ref26_Table_Apply_k3 p2 { p1 with N := { p1.N with e0 := p2.Number } } 0
 else none)))))))))
def ref26_Table_Apply (p1 : Ref26Table) (p2 : ApiChange) : Option (Int × Ref26Table) :=
  ((ref24_Valid p2).bind fun x8 =>
  (bif (!x8) then (some (1, p1))
 else (bif ((w64 (p2.Client - 1)) == 7) then ref26_Table_Apply_k4 p1 p2 7 (p2.Number != (w64 (p1.N.e7 + 1)))
 else (bif ((w64 (p2.Client - 1)) == 6) then ref26_Table_Apply_k4 p1 p2 6 (p2.Number != (w64 (p1.N.e6 + 1)))
 else (bif ((w64 (p2.Client - 1)) == 5) then ref26_Table_Apply_k4 p1 p2 5 (p2.Number != (w64 (p1.N.e5 + 1)))
 else (bif ((w64 (p2.Client - 1)) == 4) then ref26_Table_Apply_k4 p1 p2 4 (p2.Number != (w64 (p1.N.e4 + 1)))
 else (bif ((w64 (p2.Client - 1)) == 3) then ref26_Table_Apply_k4 p1 p2 3 (p2.Number != (w64 (p1.N.e3 + 1)))
 else (bif ((w64 (p2.Client - 1)) == 2) then ref26_Table_Apply_k4 p1 p2 2 (p2.Number != (w64 (p1.N.e2 + 1)))
 else (bif ((w64 (p2.Client - 1)) == 1) then ref26_Table_Apply_k4 p1 p2 1 (p2.Number != (w64 (p1.N.e1 + 1)))
 else (bif ((w64 (p2.Client - 1)) == 0) then ref26_Table_Apply_k4 p1 p2 0 (p2.Number != (w64 (p1.N.e0 + 1)))
 else none))))))))))
def ref24_Store_find_l1 (p1 : Ref24Store) (p2 : ByteArray) : Nat → Int → Option (Int × Bool × Ref24Store)
  | 0, _ => none
  | fu1 + 1, x1 =>
  (ixG (decide (x1 < ((p1.L.length : Nat) : Int))) p1.L x1 fun x2 =>
  (bif ((decide (x1 < ((p1.L.length : Nat) : Int))) && (Op.bytesLess x2.Key.toList p2.toList)) then (ref24_Store_find_l1 p1 p2 fu1) (w64 (x1 + 1))
 else (ixG (decide (x1 < ((p1.L.length : Nat) : Int))) p1.L x1 fun x3 =>
  (some (x1, ((decide (x1 < ((p1.L.length : Nat) : Int))) && (x3.Key.toList == p2.toList)), p1)))))
def ref24_Store_find [Fuel] (p1 : Ref24Store) (p2 : ByteArray) : Option (Int × Bool × Ref24Store) :=
  ref24_Store_find_l1 p1 p2 fuel 0
def ref24_Store_Apply_k1 (x1 : Ref24Store) : Option (Int × Ref24Store) :=
  (some (0, x1))
def ref24_Store_Apply [Fuel] (p1 : Ref24Store) (p2 : ApiChange) : Option (Int × Ref24Store) :=
  ((ref24_Valid p2).bind fun x2 =>
  (bif (!x2) then (some (1, p1))
 else ((ref24_Store_find p1 p2.Key).bind fun x3 =>
  (bif ((p2.Kind == 1) && x3.2.1) then (chk (decide ((([] : List Ref24Cell).length + x3.2.2.L.length) * 40 ≤ room))
  (ixL (([] : List Ref24Cell) ++ x3.2.2.L) x3.1 fun x4 =>
  (letD ((([] : List Ref24Cell) ++ x3.2.2.L).set (Int.toNat x3.1) { Key := p2.Key, Value := p2.Value, Seq := p2.Seq : Ref24Cell }) fun x5 =>
  ref24_Store_Apply_k1 { L := x5 : Ref24Store })))
 else (bif (p2.Kind == 1) then (bif (decide (32 ≤ ((x3.2.2.L.length : Nat) : Int))) then (some (33, x3.2.2))
 else (chk (decide (0 ≤ x3.1 ∧ x3.1 ≤ ((x3.2.2.L.length : Nat) : Int)))
  (chk (decide ((([] : List Ref24Cell).length + (x3.2.2.L.take (Int.toNat x3.1)).length) * 40 ≤ room))
  (chk (decide (((([] : List Ref24Cell) ++ (x3.2.2.L.take (Int.toNat x3.1))).length + [{ Key := p2.Key, Value := p2.Value, Seq := p2.Seq : Ref24Cell }].length) * 40 ≤ room))
  (chk (decide (0 ≤ x3.1 ∧ x3.1 ≤ ((x3.2.2.L.length : Nat) : Int) ∧ ((x3.2.2.L.length : Nat) : Int) ≤ ((x3.2.2.L.length : Nat) : Int)))
  (chk (decide ((((([] : List Ref24Cell) ++ (x3.2.2.L.take (Int.toNat x3.1))) ++ [{ Key := p2.Key, Value := p2.Value, Seq := p2.Seq : Ref24Cell }]).length + (x3.2.2.L.drop (Int.toNat x3.1)).length) * 40 ≤ room))
  (ref24_Store_Apply_k1 { L := (((([] : List Ref24Cell) ++ (x3.2.2.L.take (Int.toNat x3.1))) ++ [{ Key := p2.Key, Value := p2.Value, Seq := p2.Seq : Ref24Cell }]) ++ (x3.2.2.L.drop (Int.toNat x3.1))) : Ref24Store })))))))
 else (bif (p2.Kind == 2) then (bif (!x3.2.1) then (some (34, x3.2.2))
 else (chk (decide (0 ≤ x3.1 ∧ x3.1 ≤ ((x3.2.2.L.length : Nat) : Int)))
  (chk (decide ((([] : List Ref24Cell).length + (x3.2.2.L.take (Int.toNat x3.1)).length) * 40 ≤ room))
  (chk (decide (0 ≤ (w64 (x3.1 + 1)) ∧ (w64 (x3.1 + 1)) ≤ ((x3.2.2.L.length : Nat) : Int) ∧ ((x3.2.2.L.length : Nat) : Int) ≤ ((x3.2.2.L.length : Nat) : Int)))
  (chk (decide (((([] : List Ref24Cell) ++ (x3.2.2.L.take (Int.toNat x3.1))).length + (x3.2.2.L.drop (Int.toNat (w64 (x3.1 + 1)))).length) * 40 ≤ room))
  (ref24_Store_Apply_k1 { L := ((([] : List Ref24Cell) ++ (x3.2.2.L.take (Int.toNat x3.1))) ++ (x3.2.2.L.drop (Int.toNat (w64 (x3.1 + 1))))) : Ref24Store }))))))
 else ref24_Store_Apply_k1 x3.2.2))))))
def ref25_Queue_at_l1 (p1 : Ref25Queue) (p2 : Int) (x1 : (List ApiItem)) (x2 : Int) : Nat → Int → Option (Int × Ref25Queue)
  | 0, _ => none
  | fu1 + 1, x3 =>
  (bif (decide (x3 < x2)) then (ixL x1 x3 fun x4 =>
  (bif (x4.Number == p2) then (some (x3, p1))
 else (ref25_Queue_at_l1 p1 p2 x1 x2 fu1) (w64 (x3 + 1))))
 else (some ((-1), p1)))
def ref25_Queue_at [Fuel] (p1 : Ref25Queue) (p2 : Int) : Option (Int × Ref25Queue) :=
  ref25_Queue_at_l1 p1 p2 p1.L ((p1.L.length : Nat) : Int) fuel 0
def ref25_Queue_drop_k1 (rc_ref25_Queue_drop_l2 : (List ApiLease) → Int → Option Ref25Queue) (x1 : Int) (x2 : (List ApiLease)) : Option Ref25Queue :=
  rc_ref25_Queue_drop_l2 x2 (w64 (x1 + 1))
def ref25_Queue_drop_l2 (p1 : Ref25Queue) (p2 : Int) (x3 : (List ApiLease)) (x4 : Int) : Nat → (List ApiLease) → Int → Option Ref25Queue
  | 0, _, _ => none
  | fu1 + 1, x5, x1 =>
  (bif (decide (x1 < x4)) then (ixL x3 x1 fun x6 =>
  (bif (x6.Item != p2) then (chk (decide ((x5.length + [x6].length) * 32 ≤ room))
  (ref25_Queue_drop_k1 (ref25_Queue_drop_l2 p1 p2 x3 x4 fu1) x1 (x5 ++ [x6])))
 else ref25_Queue_drop_k1 (ref25_Queue_drop_l2 p1 p2 x3 x4 fu1) x1 x5))
 else (some { p1 with R := x5 }))
def ref25_Queue_drop [Fuel] (p1 : Ref25Queue) (p2 : Int) : Option Ref25Queue :=
  ref25_Queue_drop_l2 p1 p2 p1.R ((p1.R.length : Nat) : Int) fuel ([] : List ApiLease) 0
def ref25_Queue_Apply_k1 (x1 : Ref25Queue) : Option (Int × Ref25Queue) :=
  (some (0, x1))
def ref25_Queue_Apply [Fuel] (p1 : Ref25Queue) (p2 : ApiChange) : Option (Int × Ref25Queue) :=
  ((ref24_Valid p2).bind fun x2 =>
  (bif (!x2) then (some (1, p1))
 else (bif (p2.Kind == 3) then (bif (decide (p2.Seq ≤ p1.Most)) then (some (36, p1))
 else (bif (decide (16 ≤ ((p1.L.length : Nat) : Int))) then (some (33, p1))
 else (chk (decide ((([] : List ApiItem).length + p1.L.length) * 24 ≤ room))
  (chk (decide (((([] : List ApiItem) ++ p1.L).length + [{ Number := p2.Seq, Value := p2.Value : ApiItem }].length) * 24 ≤ room))
  (ref25_Queue_Apply_k1 { L := ((([] : List ApiItem) ++ p1.L) ++ [{ Number := p2.Seq, Value := p2.Value : ApiItem }]), R := p1.R, Most := p2.Seq : Ref25Queue })))))
 else (bif (p2.Kind == 4) then ((ref25_Queue_at p1 p2.Item).bind fun x3 =>
  (bif (decide (x3.1 < 0)) then (some (34, x3.2))
 else (chk (decide (0 ≤ x3.1 ∧ x3.1 ≤ ((x3.2.L.length : Nat) : Int)))
  (chk (decide ((([] : List ApiItem).length + (x3.2.L.take (Int.toNat x3.1)).length) * 24 ≤ room))
  (chk (decide (0 ≤ (w64 (x3.1 + 1)) ∧ (w64 (x3.1 + 1)) ≤ ((x3.2.L.length : Nat) : Int) ∧ ((x3.2.L.length : Nat) : Int) ≤ ((x3.2.L.length : Nat) : Int)))
  (chk (decide (((([] : List ApiItem) ++ (x3.2.L.take (Int.toNat x3.1))).length + (x3.2.L.drop (Int.toNat (w64 (x3.1 + 1)))).length) * 24 ≤ room))
  ((ref25_Queue_drop { x3.2 with L := ((([] : List ApiItem) ++ (x3.2.L.take (Int.toNat x3.1))) ++ (x3.2.L.drop (Int.toNat (w64 (x3.1 + 1))))) } p2.Item).bind fun x4 =>
  ref25_Queue_Apply_k1 x4)))))))
 else ref25_Queue_Apply_k1 p1))))
def ref28_Copy_Apply_l1 (p2 : ApiChange) (x1 : Int) (x2 : Int) (x3 : (List ApiChange)) (x4 : Ref24Store) (x5 : Ref25Queue) (x6 : Ref26Table) (x7 : Ref27Gate) (x8 : Ref26Table) (x9 : Ref24Store) (x10 : Ref25Queue) (x11 : (List Int)) (x12 : Int) : Nat → Int → Option (Int × Ref28Copy)
  | 0, _ => none
  | fu1 + 1, x13 =>
  (bif (decide (x13 < x12)) then (ixL x11 x13 fun x14 =>
  (bif (x14 != 0) then (some (x14, { Cell := x1, Tenant := x2, H := x3, S := x4, Q := x5, T := x6, G := x7 : Ref28Copy }))
 else (ref28_Copy_Apply_l1 p2 x1 x2 x3 x4 x5 x6 x7 x8 x9 x10 x11 x12 fu1) (w64 (x13 + 1))))
 else (chk (decide ((([] : List ApiChange).length + x3.length) * 80 ≤ room))
  (chk (decide (((([] : List ApiChange) ++ x3).length + [p2].length) * 80 ≤ room))
  (some (0, { Cell := x1, Tenant := x2, H := ((([] : List ApiChange) ++ x3) ++ [p2]), S := x9, Q := x10, T := x8, G := x7 : Ref28Copy })))))
def ref28_Copy_Apply [Fuel] (p1 : Ref28Copy) (p2 : ApiChange) : Option (Int × Ref28Copy) :=
  ((ref24_Valid p2).bind fun x15 =>
  (bif (!x15) then (some (1, p1))
 else (((bif (!(p2.Seq != (w64 (((p1.H.length : Nat) : Int) + 1)))) then ref28_Copy_Epoch p1 else some (default, p1))).bind fun x16 =>
  (bif ((p2.Seq != (w64 (((p1.H.length : Nat) : Int) + 1))) || (decide (p2.Epoch < x16.1))) then (some (36, x16.2))
 else ((ref25_Queue_Copy x16.2.Q).bind fun x17 =>
  ((ref26_Table_Apply x16.2.T p2).bind fun x18 =>
  ((ref24_Store_Apply x16.2.S p2).bind fun x19 =>
  ((ref25_Queue_Apply x17.1 p2).bind fun x20 =>
  ref28_Copy_Apply_l1 p2 x16.2.Cell x16.2.Tenant x16.2.H x16.2.S x17.2 x16.2.T x16.2.G x18.2 x19.2 x20.2 [x18.1, x19.1, x20.1] (([x18.1, x19.1, x20.1].length : Nat) : Int) fuel 0))))))))
def mill_Grow_k1 [Fuel] (rc_mill_Grow_l2 : MillTape → Int → Int → (List ApiChange) → Ref24Store → Ref25Queue → Ref26Table → Ref27Gate → Int → Int → Option (MillTape × Ref28Copy)) (x1 : Int) (x2 : Int) (x3 : (List ApiChange)) (x4 : Ref24Store) (x5 : Ref25Queue) (x6 : Ref26Table) (x7 : Ref27Gate) (x8 : Int) (x9 : MillTape) (x10 : Int) : Option (MillTape × Ref28Copy) :=
  ((mill_Change x9 { Cell := x1, Tenant := x2, H := x3, S := x4, Q := x5, T := x6, G := x7 : Ref28Copy } x10).bind fun x11 =>
  ((ref28_Copy_Apply x11.2.2 x11.1).bind fun x12 =>
  rc_mill_Grow_l2 x11.2.1 x12.2.Cell x12.2.Tenant x12.2.H x12.2.S x12.2.Q x12.2.T x12.2.G x10 (w64 (x8 + 1))))
def mill_Grow_l2 [Fuel] (p4 : Int) : Nat → MillTape → Int → Int → (List ApiChange) → Ref24Store → Ref25Queue → Ref26Table → Ref27Gate → Int → Int → Option (MillTape × Ref28Copy)
  | 0, _, _, _, _, _, _, _, _, _, _ => none
  | fu1 + 1, x13, x1, x2, x3, x4, x5, x6, x7, x14, x8 =>
  (((bif (decide (x8 < p4)) then mill_Tape_More x13 else some (default, x13))).bind fun x15 =>
  (bif ((decide (x8 < p4)) && x15.1) then ((mill_Tape_Next x15.2 7).bind fun x16 =>
  (bif (x16.1 == 6) then mill_Grow_k1 (mill_Grow_l2 p4 fu1) x1 x2 x3 x4 x5 x6 x7 x8 x16.2 (w64 (x14 + 1))
 else mill_Grow_k1 (mill_Grow_l2 p4 fu1) x1 x2 x3 x4 x5 x6 x7 x8 x16.2 x14))
 else (some (x15.2, { Cell := x1, Tenant := x2, H := x3, S := x4, Q := x5, T := x6, G := x7 : Ref28Copy }))))
def mill_Grow [Fuel] (p1 : MillTape) (p2 : Ref28Copy) (p3 : Int) (p4 : Int) : Option (MillTape × Ref28Copy) :=
  mill_Grow_l2 p4 fuel p1 p2.Cell p2.Tenant p2.H p2.S p2.Q p2.T p2.G p3 0
def mill_History [Fuel] (p1 : (List Int)) : Option (List ApiChange) :=
  ((ref28_New 0 0).bind fun x1 =>
  ((mill_New p1).bind fun x2 =>
  ((mill_Grow x2 x1 1 60).bind fun x3 =>
  (some x3.2.H))))
def store_common_api_Change_l1 (p1 : (List ApiChange)) (p2 : (List ApiChange)) : Nat → Int → Option Int
  | 0, _ => none
  | fu1 + 1, x1 =>
  (ixG ((decide (x1 < ((p1.length : Nat) : Int))) && (decide (x1 < ((p2.length : Nat) : Int)))) p1 x1 fun x2 =>
  (ixG ((decide (x1 < ((p1.length : Nat) : Int))) && (decide (x1 < ((p2.length : Nat) : Int)))) p2 x1 fun x3 =>
  (bif (((decide (x1 < ((p1.length : Nat) : Int))) && (decide (x1 < ((p2.length : Nat) : Int)))) && ((x2.Epoch == x3.Epoch) && ((x2.Seq == x3.Seq) && ((x2.Kind == x3.Kind) && ((x2.Client == x3.Client) && ((x2.Number == x3.Number) && ((x2.Item == x3.Item) && ((x2.Key.toList == x3.Key.toList) && ((x2.Value.toList == x3.Value.toList) && true))))))))) then (store_common_api_Change_l1 p1 p2 fu1) (w64 (x1 + 1))
 else (some x1))))
def store_common_api_Change [Fuel] (p1 : (List ApiChange)) (p2 : (List ApiChange)) : Option Int :=
  store_common_api_Change_l1 p1 p2 fuel 0
def store_Common [Fuel] (p1 : (List ApiChange)) (p2 : (List ApiChange)) : Option Int :=
  ((store_common_api_Change p1 p2).bind fun x1 =>
  (some x1))
def failover_Report_k1 (rc_failover_Report_l2 : ApiLoss → Int → Option ApiLoss) (x1 : Int) (x2 : ApiLoss) : Option ApiLoss :=
  rc_failover_Report_l2 x2 (w64 (x1 + 1))
def failover_Report_l2 (p1 : Int) (p2 : (List ApiChange)) (x3 : Int) : Nat → ApiLoss → Int → Option ApiLoss
  | 0, _, _ => none
  | fu1 + 1, x4, x1 =>
  (bif (decide (x1 < x3)) then (ixL p2 x1 fun x5 =>
  (bif (decide (x5.Seq ≤ x4.Common)) then failover_Report_k1 (failover_Report_l2 p1 p2 x3 fu1) x1 x4
 else (bif (decide (x5.Seq ≤ p1)) then (chk (decide ((x4.Lost.length + [x5].length) * 80 ≤ room))
  (failover_Report_k1 (failover_Report_l2 p1 p2 x3 fu1) x1 { x4 with Lost := (x4.Lost ++ [x5]) }))
 else failover_Report_k1 (failover_Report_l2 p1 p2 x3 fu1) x1 { x4 with Dropped := (w64 (x4.Dropped + 1)) })))
 else (some x4))
def failover_Report [Fuel] (p1 : Int) (p2 : (List ApiChange)) (p3 : (List ApiChange)) : Option ApiLoss :=
  ((store_Common p2 p3).bind fun x6 =>
  failover_Report_l2 p1 p2 ((p2.length : Nat) : Int) fuel { Common := x6, Lost := ([] : List ApiChange), Dropped := 0 : ApiLoss } 0)
def failover_Within (p1 : Int) (p2 : ApiLoss) : Option Bool :=
  (some ((p1 == (-1)) || (decide (((p2.Lost.length : Nat) : Int) ≤ p1))))
def failover_When (p1 : ApiState) (p2 : Int) : Option Int :=
  (bif ((decide (p2 < 0)) || (decide (((p1.Tenants.length : Nat) : Int) ≤ p2))) then (some (-1))
 else (ixL p1.Tenants p2 fun x1 =>
  (bif ((!x1.Placed) || (x1.Standby == (-1))) then (some (-1))
 else (some x1.Window.Until))))
def law30_awake [Fuel] : Option Bool :=
  (chk (decide ((0 : Int) ≤ 80 ∧ (80 : Int) ≤ 80 ∧ (80 : Int) ≤ 9223372036854775807 ∧ (80 : Int) * 8 ≤ 140737488355328))
  ((mill_History (List.replicate (Int.toNat 80) (default : Int))).bind fun x1 =>
  (bif (decide (((x1.length : Nat) : Int) < 5)) then (some false)
 else (chk (decide (0 ≤ (5 : Int) ∧ (5 : Int) ≤ ((x1.length : Nat) : Int)))
  (chk (decide (0 ≤ (2 : Int) ∧ (2 : Int) ≤ ((x1.length : Nat) : Int)))
  ((failover_Report 3 (x1.take (Int.toNat (5 : Int))) (x1.take (Int.toNat (2 : Int)))).bind fun x2 =>
  (ixG ((x2.Common == 2) && (((x2.Lost.length : Nat) : Int) == 1)) x2.Lost 0 fun x3 =>
  (ixG ((x2.Common == 2) && (((x2.Lost.length : Nat) : Int) == 1)) x1 2 fun x4 =>
  (((bif ((((x2.Common == 2) && (((x2.Lost.length : Nat) : Int) == 1)) && ((x3.Epoch == x4.Epoch) && ((x3.Seq == x4.Seq) && ((x3.Kind == x4.Kind) && ((x3.Client == x4.Client) && ((x3.Number == x4.Number) && ((x3.Item == x4.Item) && ((x3.Key.toList == x4.Key.toList) && ((x3.Value.toList == x4.Value.toList) && true))))))))) && (x2.Dropped == 2)) then failover_Within 0 x2 else some default)).bind fun x5 =>
  (((bif (((((x2.Common == 2) && (((x2.Lost.length : Nat) : Int) == 1)) && ((x3.Epoch == x4.Epoch) && ((x3.Seq == x4.Seq) && ((x3.Kind == x4.Kind) && ((x3.Client == x4.Client) && ((x3.Number == x4.Number) && ((x3.Item == x4.Item) && ((x3.Key.toList == x4.Key.toList) && ((x3.Value.toList == x4.Value.toList) && true))))))))) && (x2.Dropped == 2)) && (!x5)) then failover_Within 1 x2 else some default)).bind fun x6 =>
  (((bif ((((((x2.Common == 2) && (((x2.Lost.length : Nat) : Int) == 1)) && ((x3.Epoch == x4.Epoch) && ((x3.Seq == x4.Seq) && ((x3.Kind == x4.Kind) && ((x3.Client == x4.Client) && ((x3.Number == x4.Number) && ((x3.Item == x4.Item) && ((x3.Key.toList == x4.Key.toList) && ((x3.Value.toList == x4.Value.toList) && true))))))))) && (x2.Dropped == 2)) && (!x5)) && x6) then failover_Within (-1) x2 else some default)).bind fun x7 =>
  (((bif (((((((x2.Common == 2) && (((x2.Lost.length : Nat) : Int) == 1)) && ((x3.Epoch == x4.Epoch) && ((x3.Seq == x4.Seq) && ((x3.Kind == x4.Kind) && ((x3.Client == x4.Client) && ((x3.Number == x4.Number) && ((x3.Item == x4.Item) && ((x3.Key.toList == x4.Key.toList) && ((x3.Value.toList == x4.Value.toList) && true))))))))) && (x2.Dropped == 2)) && (!x5)) && x6) && x7) then failover_When { Tick := 0, Count := 0, Tenants := ([] : List ApiTenantState), Cells := ([] : List ApiCellState), Proven := 0, Evacuating := 0, Low := 0, High := 0 : ApiState } 0 else some default)).bind fun x8 =>
  (some ((((((((x2.Common == 2) && (((x2.Lost.length : Nat) : Int) == 1)) && ((x3.Epoch == x4.Epoch) && ((x3.Seq == x4.Seq) && ((x3.Kind == x4.Kind) && ((x3.Client == x4.Client) && ((x3.Number == x4.Number) && ((x3.Item == x4.Item) && ((x3.Key.toList == x4.Key.toList) && ((x3.Value.toList == x4.Value.toList) && true))))))))) && (x2.Dropped == 2)) && (!x5)) && x6) && x7) && (x8 == (-1))))))))))))))))
def mill_Light (p1 : (List Int)) : Option Bool :=
  (some (decide (((p1.length : Nat) : Int) ≤ 150)))
def failover_Lag [Fuel] (p1 : (List ApiChange)) (p2 : (List ApiChange)) : Option Int :=
  ((store_Common p1 p2).bind fun x1 =>
  (some (w64 (((p1.length : Nat) : Int) - x1))))
def law30_FailoverBound [Fuel] (p1 : (List Int)) (p2 : Int) (p3 : Int) (p4 : Int) : Option Bool :=
  ((law30_awake).bind fun x1 =>
  (bif (!x1) then (some false)
 else ((mill_Light p1).bind fun x2 =>
  (bif (!x2) then (some true)
 else ((mill_History p1).bind fun x3 =>
  ((mill_Mod p2 (w64 (((x3.length : Nat) : Int) + 1))).bind fun x4 =>
  ((mill_Mod p3 (w64 (((x3.length : Nat) : Int) + 1))).bind fun x5 =>
  ((mill_Mod p4 5).bind fun x6 =>
  (chk (decide (0 ≤ x4 ∧ x4 ≤ ((x3.length : Nat) : Int)))
  ((failover_Report x5 x3 (x3.take (Int.toNat x4))).bind fun x7 =>
  ((failover_Within x6 x7).bind fun x8 =>
  (chk (!((x8 == (decide ((w64 (x5 - x6)) ≤ x4))) && (((x7.Lost.length : Nat) : Int) == (maxE 0 (w64 (x5 - x4))))) || decide (0 ≤ x4 ∧ x4 ≤ ((x3.length : Nat) : Int)))
  (((bif ((x8 == (decide ((w64 (x5 - x6)) ≤ x4))) && (((x7.Lost.length : Nat) : Int) == (maxE 0 (w64 (x5 - x4))))) then failover_Lag x3 (x3.take (Int.toNat x4)) else some default)).bind fun x9 =>
  (some (((x8 == (decide ((w64 (x5 - x6)) ≤ x4))) && (((x7.Lost.length : Nat) : Int) == (maxE 0 (w64 (x5 - x4))))) && (x9 == (w64 (((x3.length : Nat) : Int) - x4))))))))))))))))))
def ref28_Fold_l1 [Fuel] (p3 : (List ApiChange)) (x1 : (List ApiChange)) (x2 : Int) : Nat → Int → Int → (List ApiChange) → Ref24Store → Ref25Queue → Ref26Table → Ref27Gate → Int → Option (Ref28Copy × Int × Int)
  | 0, _, _, _, _, _, _, _, _ => none
  | fu1 + 1, x3, x4, x5, x6, x7, x8, x9, x10 =>
  (bif (decide (x10 < x2)) then (ixL x1 x10 fun x11 =>
  ((ref28_Copy_Apply { Cell := x3, Tenant := x4, H := x5, S := x6, Q := x7, T := x8, G := x9 : Ref28Copy } x11).bind fun x12 =>
  (bif (x12.1 != 0) then none
 else (ref28_Fold_l1 p3 x1 x2 fu1) x12.2.Cell x12.2.Tenant x12.2.H x12.2.S x12.2.Q x12.2.T x12.2.G (w64 (x10 + 1)))))
 else (some ({ Cell := x3, Tenant := x4, H := x5, S := x6, Q := x7, T := x8, G := x9 : Ref28Copy }, ((p3.length : Nat) : Int), 0)))
def ref28_Fold [Fuel] (p1 : Int) (p2 : Int) (p3 : (List ApiChange)) : Option (Ref28Copy × Int × Int) :=
  ((ref28_New p1 p2).bind fun x13 =>
  ref28_Fold_l1 p3 p3 ((p3.length : Nat) : Int) fuel x13.Cell x13.Tenant x13.H x13.S x13.Q x13.T x13.G 0)
def mill_Fork_k1 [Fuel] (p3 : (List Int)) (x1 : Int) (x2 : Int) (x3 : (List ApiChange)) (x4 : Ref24Store) (x5 : Ref25Queue) (x6 : Ref26Table) (x7 : Ref27Gate) (x8 : Int) : Option (List ApiChange) :=
  ((mill_New p3).bind fun x9 =>
  ((mill_Grow x9 { Cell := x1, Tenant := x2, H := x3, S := x4, Q := x5, T := x6, G := x7 : Ref28Copy } (w64 (x8 + 1)) 30).bind fun x10 =>
  (some x10.2.H)))
def mill_Fork [Fuel] (p1 : (List ApiChange)) (p2 : Int) (p3 : (List Int)) : Option (List ApiChange) :=
  ((mill_Mod p2 (w64 (((p1.length : Nat) : Int) + 1))).bind fun x11 =>
  (chk (decide (0 ≤ x11 ∧ x11 ≤ ((p1.length : Nat) : Int)))
  ((ref28_Fold 0 0 (p1.take (Int.toNat x11))).bind fun x12 =>
  (bif (decide (0 < ((p1.length : Nat) : Int))) then (ixL p1 (w64 (((p1.length : Nat) : Int) - 1)) fun x13 =>
  mill_Fork_k1 p3 x12.1.Cell x12.1.Tenant x12.1.H x12.1.S x12.1.Q x12.1.T x12.1.G x13.Epoch)
 else mill_Fork_k1 p3 x12.1.Cell x12.1.Tenant x12.1.H x12.1.S x12.1.Q x12.1.T x12.1.G 1))))
def law30_two [Fuel] (p1 : (List Int)) (p2 : (List Int)) (p3 : Int) (p4 : Bool) : Option ((List ApiChange) × (List ApiChange)) :=
  ((mill_History p1).bind fun x1 =>
  (bif p4 then ((mill_Fork x1 p3 p2).bind fun x2 =>
  (some (x1, x2)))
 else ((mill_Mod p3 (w64 (((x1.length : Nat) : Int) + 1))).bind fun x3 =>
  (chk (decide (0 ≤ x3 ∧ x3 ≤ ((x1.length : Nat) : Int)))
  (some (x1, (x1.take (Int.toNat x3))))))))
def failover_Kept_k1 (rc_failover_Kept_l2 : (List ApiChange) → Int → Option (List ApiChange)) (x1 : Int) (x2 : (List ApiChange)) : Option (List ApiChange) :=
  rc_failover_Kept_l2 x2 (w64 (x1 + 1))
def failover_Kept_l2 (p1 : Int) (p2 : (List ApiChange)) (x3 : Int) (x4 : Int) : Nat → (List ApiChange) → Int → Option (List ApiChange)
  | 0, _, _ => none
  | fu1 + 1, x5, x1 =>
  (bif (decide (x1 < x4)) then (ixL p2 x1 fun x6 =>
  (bif ((decide (x6.Seq ≤ x3)) && (decide (x6.Seq ≤ p1))) then (chk (decide ((x5.length + [x6].length) * 80 ≤ room))
  (failover_Kept_k1 (failover_Kept_l2 p1 p2 x3 x4 fu1) x1 (x5 ++ [x6])))
 else failover_Kept_k1 (failover_Kept_l2 p1 p2 x3 x4 fu1) x1 x5))
 else (some x5))
def failover_Kept [Fuel] (p1 : Int) (p2 : (List ApiChange)) (p3 : (List ApiChange)) : Option (List ApiChange) :=
  ((store_Common p2 p3).bind fun x3 =>
  failover_Kept_l2 p1 p2 x3 ((p2.length : Nat) : Int) fuel ([] : List ApiChange) 0)
def law30_FailoverParts_l1 (x1 : Int) (x2 : ApiLoss) (x3 : (List ApiChange)) (x4 : (List ApiChange)) (x5 : (List ApiChange)) (x6 : (List ApiChange)) (x7 : Int) : Nat → Int → Option Bool
  | 0, _ => none
  | fu1 + 1, x8 =>
  (bif (decide (x8 < x7)) then (ixL x6 x8 fun x9 =>
  (ixL x4 x8 fun x10 =>
  (ixG ((!(!((x9.Epoch == x10.Epoch) && ((x9.Seq == x10.Seq) && ((x9.Kind == x10.Kind) && ((x9.Client == x10.Client) && ((x9.Number == x10.Number) && ((x9.Item == x10.Item) && ((x9.Key.toList == x10.Key.toList) && ((x9.Value.toList == x10.Value.toList) && true)))))))))) && (decide (x8 < ((x5.length : Nat) : Int)))) x5 x8 fun x11 =>
  (bif ((!((x9.Epoch == x10.Epoch) && ((x9.Seq == x10.Seq) && ((x9.Kind == x10.Kind) && ((x9.Client == x10.Client) && ((x9.Number == x10.Number) && ((x9.Item == x10.Item) && ((x9.Key.toList == x10.Key.toList) && ((x9.Value.toList == x10.Value.toList) && true))))))))) || (!((decide (x8 < ((x3.length : Nat) : Int))) == (((decide (x8 < ((x5.length : Nat) : Int))) && ((x11.Epoch == x9.Epoch) && ((x11.Seq == x9.Seq) && ((x11.Kind == x9.Kind) && ((x11.Client == x9.Client) && ((x11.Number == x9.Number) && ((x11.Item == x9.Item) && ((x11.Key.toList == x9.Key.toList) && ((x11.Value.toList == x9.Value.toList) && true))))))))) && (decide (x8 < x2.Common)))))) then (some false)
 else (law30_FailoverParts_l1 x1 x2 x3 x4 x5 x6 x7 fu1) (w64 (x8 + 1))))))
 else (some ((w64 ((maxE x2.Common x1) + x2.Dropped)) == ((x4.length : Nat) : Int))))
def law30_FailoverParts [Fuel] (p1 : (List Int)) (p2 : (List Int)) (p3 : Int) (p4 : Bool) (p5 : Int) : Option Bool :=
  ((law30_awake).bind fun x12 =>
  (bif (!x12) then (some false)
 else ((mill_Light p1).bind fun x13 =>
  (((bif (!(!x13)) then mill_Light p2 else some default)).bind fun x14 =>
  (bif ((!x13) || (!x14)) then (some true)
 else ((law30_two p1 p2 p3 p4).bind fun x15 =>
  ((mill_Mod p5 (w64 (((x15.1.length : Nat) : Int) + 1))).bind fun x1 =>
  ((failover_Report x1 x15.1 x15.2).bind fun x2 =>
  ((failover_Kept x1 x15.1 x15.2).bind fun x3 =>
  (chk (decide ((([] : List ApiChange).length + x3.length) * 80 ≤ room))
  (chk (decide (((([] : List ApiChange) ++ x3).length + x2.Lost.length) * 80 ≤ room))
  (bif (((((((([] : List ApiChange) ++ x3) ++ x2.Lost).length : Nat) : Int) != x1) || (decide (x2.Dropped < 0))) || (decide ((w64 (((x15.1.length : Nat) : Int) - x1)) < x2.Dropped))) then (some false)
 else law30_FailoverParts_l1 x1 x2 x3 x15.1 x15.2 ((([] : List ApiChange) ++ x3) ++ x2.Lost) ((((([] : List ApiChange) ++ x3) ++ x2.Lost).length : Nat) : Int) fuel 0))))))))))))
def ref24_Common_l1 (p1 : (List ApiChange)) (p2 : (List ApiChange)) : Nat → Int → Option Int
  | 0, _ => none
  | fu1 + 1, x1 =>
  (ixG ((decide (x1 < ((p1.length : Nat) : Int))) && (decide (x1 < ((p2.length : Nat) : Int)))) p1 x1 fun x2 =>
  (ixG ((decide (x1 < ((p1.length : Nat) : Int))) && (decide (x1 < ((p2.length : Nat) : Int)))) p2 x1 fun x3 =>
  (bif (((decide (x1 < ((p1.length : Nat) : Int))) && (decide (x1 < ((p2.length : Nat) : Int)))) && ((x2.Epoch == x3.Epoch) && ((x2.Seq == x3.Seq) && ((x2.Kind == x3.Kind) && ((x2.Client == x3.Client) && ((x2.Number == x3.Number) && ((x2.Item == x3.Item) && ((x2.Key.toList == x3.Key.toList) && ((x2.Value.toList == x3.Value.toList) && true))))))))) then (ref24_Common_l1 p1 p2 fu1) (w64 (x1 + 1))
 else (some x1))))
def ref24_Common [Fuel] (p1 : (List ApiChange)) (p2 : (List ApiChange)) : Option Int :=
  ref24_Common_l1 p1 p2 fuel 0
def ref30_Report_k1 (rc_ref30_Report_l2 : ApiLoss → Int → Option ApiLoss) (x1 : Int) (x2 : ApiLoss) : Option ApiLoss :=
  rc_ref30_Report_l2 x2 (w64 (x1 + 1))
def ref30_Report_l2 (p1 : Int) (x3 : (List ApiChange)) (x4 : Int) : Nat → ApiLoss → Int → Option ApiLoss
  | 0, _, _ => none
  | fu1 + 1, x5, x1 =>
  (bif (decide (x1 < x4)) then (ixL x3 x1 fun x6 =>
  (bif (decide (x6.Seq ≤ p1)) then (chk (decide ((x5.Lost.length + [x6].length) * 80 ≤ room))
  (ref30_Report_k1 (ref30_Report_l2 p1 x3 x4 fu1) x1 { x5 with Lost := (x5.Lost ++ [x6]) }))
 else ref30_Report_k1 (ref30_Report_l2 p1 x3 x4 fu1) x1 { x5 with Dropped := (w64 (x5.Dropped + 1)) }))
 else (some x5))
def ref30_Report [Fuel] (p1 : Int) (p2 : (List ApiChange)) (p3 : (List ApiChange)) : Option ApiLoss :=
  ((ref24_Common p2 p3).bind fun x7 =>
  (chk (decide (0 ≤ x7 ∧ x7 ≤ ((p2.length : Nat) : Int) ∧ ((p2.length : Nat) : Int) ≤ ((p2.length : Nat) : Int)))
  (ref30_Report_l2 p1 (p2.drop (Int.toNat x7)) (((p2.drop (Int.toNat x7)).length : Nat) : Int) fuel { Common := x7, Lost := ([] : List ApiChange), Dropped := 0 : ApiLoss } 0)))
def ref24_Same [Fuel] (p1 : (List ApiChange)) (p2 : (List ApiChange)) : Option Bool :=
  (((bif (((p1.length : Nat) : Int) == ((p2.length : Nat) : Int)) then ref24_Common p1 p2 else some default)).bind fun x1 =>
  (some ((((p1.length : Nat) : Int) == ((p2.length : Nat) : Int)) && (x1 == ((p1.length : Nat) : Int)))))
def ref30_SameLoss [Fuel] (p1 : ApiLoss) (p2 : ApiLoss) : Option Bool :=
  (((bif ((p1.Common == p2.Common) && (p1.Dropped == p2.Dropped)) then ref24_Same p1.Lost p2.Lost else some default)).bind fun x1 =>
  (some (((p1.Common == p2.Common) && (p1.Dropped == p2.Dropped)) && x1)))
def ref30_Kept [Fuel] (p1 : Int) (p2 : (List ApiChange)) (p3 : (List ApiChange)) : Option (List ApiChange) :=
  ((ref24_Common p2 p3).bind fun x1 =>
  (chk (decide (0 ≤ (minE (maxE p1 0) x1) ∧ (minE (maxE p1 0) x1) ≤ ((p2.length : Nat) : Int)))
  (chk (decide ((([] : List ApiChange).length + (p2.take (Int.toNat (minE (maxE p1 0) x1))).length) * 80 ≤ room))
  (some (([] : List ApiChange) ++ (p2.take (Int.toNat (minE (maxE p1 0) x1))))))))
def law30_FailoverReports_l1 [Fuel] (p6 : Int) (x1 : (List ApiChange)) (x2 : (List ApiChange)) (x3 : (List Int)) (x4 : Int) : Nat → Int → Option Bool
  | 0, _ => none
  | fu1 + 1, x5 =>
  (bif (decide (x5 < x4)) then (ixL x3 x5 fun x6 =>
  ((failover_Report x6 x1 x2).bind fun x7 =>
  ((ref30_Report x6 x1 x2).bind fun x8 =>
  ((ref30_SameLoss x7 x8).bind fun x9 =>
  (((bif (!(!x9)) then failover_Kept x6 x1 x2 else some default)).bind fun x10 =>
  (((bif (!(!x9)) then ref30_Kept x6 x1 x2 else some default)).bind fun x11 =>
  (((bif (!(!x9)) then ref24_Same x10 x11 else some default)).bind fun x12 =>
  (bif ((!x9) || (!x12)) then (some false)
 else ((failover_Within p6 x7).bind fun x13 =>
  (bif (!(x13 == ((p6 == (-1)) || (decide (((x8.Lost.length : Nat) : Int) ≤ p6))))) then (some false)
 else (law30_FailoverReports_l1 p6 x1 x2 x3 x4 fu1) (w64 (x5 + 1))))))))))))
 else ((failover_Lag x1 x2).bind fun x14 =>
  ((ref24_Common x1 x2).bind fun x15 =>
  (some (x14 == (w64 (((x1.length : Nat) : Int) - x15)))))))
def law30_FailoverReports [Fuel] (p1 : (List Int)) (p2 : (List Int)) (p3 : Int) (p4 : Bool) (p5 : Int) (p6 : Int) : Option Bool :=
  ((law30_awake).bind fun x16 =>
  (bif (!x16) then (some false)
 else ((mill_Light p1).bind fun x17 =>
  (((bif (!(!x17)) then mill_Light p2 else some default)).bind fun x18 =>
  (bif ((!x17) || (!x18)) then (some true)
 else ((law30_two p1 p2 p3 p4).bind fun x19 =>
  ((mill_Mod p5 (w64 (((x19.1.length : Nat) : Int) + 2))).bind fun x20 =>
  law30_FailoverReports_l1 p6 x19.1 x19.2 [p5, x20] (([p5, x20].length : Nat) : Int) fuel 0)))))))
end Go.CP
namespace Go.CP
set_option linter.unusedSimpArgs false
open Go
theorem ixL_b {α β : Type} [Inhabited α] (xs : List α) (i : Int) (k : α → Option β) : ixL xs i k = (idx xs i).bind k := by
  unfold ixL idx chk; cases decide (0 ≤ i ∧ i < (xs.length : Int)) <;> rfl
theorem ixG_b {α β : Type} [Inhabited α] (g : Bool) (xs : List α) (i : Int) (k : α → Option β) : ixG g xs i k = chk (!g || decide (0 ≤ i ∧ i < (xs.length : Int))) (k (xs.getD i.toNat default)) := rfl
theorem ixG_if {α β : Type} [Inhabited α] {g : Bool} {xs : List α} {i : Int} {k : α → Option β} (h : g = true → 0 ≤ i ∧ i < (xs.length : Int)) : ixG g xs i k = k (xs.getD i.toNat default) := by
  cases g with
  | false => rfl
  | true => rw [ixG_b, decide_eq_true (h rfl)]; rfl
def Ok {α : Type} (m : Option α) (P : α → Prop) : Prop := ∃ a, m = some a ∧ P a
section
variable {α β : Type} {P : α → Prop} {Q : β → Prop}
theorem Ok.bind {m : Option α} {k : α → Option β} (h : Ok m P) (hk : ∀ a, P a → Ok (k a) Q) : Ok (m.bind k) Q := by
  obtain ⟨a, rfl, ha⟩ := h; exact hk a ha
theorem Ok.bindE {m : Option α} {k : α → Option β} {a : α} (h : m = some a) (hk : Ok (k a) Q) : Ok (m.bind k) Q := by
  subst h; exact hk
theorem Ok.chk {b : Bool} {k : Option β} (h : b = true) (hk : Ok k Q) : Ok (CP.chk b k) Q := by subst h; exact hk
theorem Ok.cond {b : Bool} {x y : Option β} (hx : b = true → Ok x Q) (hy : b = false → Ok y Q) : Ok (bif b then x else y) Q := by
  cases b with
  | true => exact hx rfl
  | false => exact hy rfl
theorem Ok.some {a : β} (h : Q a) : Ok (some a) Q := ⟨a, rfl, h⟩
theorem Ok.mono {P' : α → Prop} {m : Option α} (h : Ok m P) (hp : ∀ a, P a → P' a) : Ok m P' := let ⟨a, e, p⟩ := h; ⟨a, e, hp a p⟩
theorem Ok.idx [Inhabited α] {xs : List α} {i : Int} {k : α → Option β} (h : 0 ≤ i ∧ i < (xs.length : Int)) (hk : ∀ x, x ∈ xs → xs.getD i.toNat default = x → Ok (k x) Q) : Ok ((CP.idx xs i).bind k) Q := by
  have hlt : i.toNat < xs.length := by omega
  have e : CP.idx xs i = Option.some (xs.getD i.toNat default) := by unfold CP.idx; rw [decide_eq_true h]; rfl
  refine Ok.bindE e (hk _ ?_ rfl)
  simp [List.getD_eq_getElem?_getD, hlt]
theorem Ok.eq {m : Option α} {a : α} (h : m = Option.some a) (hp : P a) : Ok m P := ⟨a, h, hp⟩
end
theorem dT {p : Prop} [Decidable p] (h : p) : decide p = true := decide_eq_true h
theorem w64_eq {x : Int} (h1 : -9223372036854775808 ≤ x) (h2 : x < 9223372036854775808) : w64 x = x := by
  show IntKind.i64.wrap x = x
  simp only [IntKind.wrap, IntKind.signed, IntKind.bits, Bool.true_and, decide_eq_true_eq, ge_iff_le, show (2 : Int) ^ 64 = 18446744073709551616 from rfl, show (2 : Int) ^ (64 - 1) = 9223372036854775808 from rfl]
  split <;> omega
def I64 (x : Int) : Prop := -9223372036854775808 ≤ x ∧ x < 9223372036854775808
end Go.CP
namespace Go.CP
open Go
theorem ixL_ok {α β : Type} [Inhabited α] {xs : List α} {i : Int} {k : α → Option β} (h1 : 0 ≤ i) (h2 : i < (xs.length : Int)) : ixL xs i k = k (xs.getD i.toNat default) := by
  rw [ixL_b]; unfold idx; rw [decide_eq_true ⟨h1, h2⟩]; rfl
theorem chk_ok {α : Type} {b : Bool} {k : Option α} (h : b = true) : chk b k = k := by subst h; rfl
theorem condT {α : Type} {p : Prop} [Decidable p] {a b : α} (h : p) : (bif decide p then a else b) = a := by rw [decide_eq_true h]; rfl
theorem condF {α : Type} {p : Prop} [Decidable p] {a b : α} (h : ¬ p) : (bif decide p then a else b) = b := by rw [decide_eq_false h]; rfl
theorem bifS {α : Type} (b : Bool) (x y : α) : (bif b then some x else some y) = some (bif b then x else y) := by cases b <;> rfl
theorem eqOk {α : Type} {m : Option α} {a : α} (h : Ok m (fun r => r = a)) : m = some a := by obtain ⟨b, e, q⟩ := h; rw [e, q]
theorem okEq {α : Type} {m : Option α} {a : α} (h : m = some a) : Ok m (fun r => r = a) := ⟨a, h, rfl⟩
end Go.CP
namespace Go.CP
open Go
set_option linter.unusedSimpArgs false
set_option linter.unusedVariables false
structure TB (t : MillTape) : Prop where
  el : ∀ x ∈ t.L, I64 x
  ln : t.L.length ≤ 1000
  lo : 0 ≤ t.At
  hi : t.At ≤ 1000
theorem tgetD_mem [Fuel] {α : Type} [Inhabited α] {xs : List α} {n : Nat} (h : n < xs.length) : xs.getD n default ∈ xs := by
  simp [List.getD_eq_getElem?_getD, h]
theorem tmod_ok [Fuel] {v n : Int} (hv : I64 v) (h1 : 1 ≤ n) (h2 : n ≤ 4611686018427387904) : Ok (mill_Mod v n) (fun r => 0 ≤ r ∧ r < n) := by
  unfold mill_Mod mill_Mod_k1
  refine Ok.chk (dT (by omega)) ?_
  have a1 := Int.tmod_lt_of_pos v (show 0 < n by omega)
  have a2 : -n < v.tmod n := by
    have := Int.tmod_lt_of_pos (-v) (show 0 < n by omega)
    rw [Int.neg_tmod] at this
    omega
  refine Ok.cond (fun q => ?_) (fun q => ?_)
  · have q := of_decide_eq_true q
    rw [w64_eq (by omega) (by omega)]
    exact Ok.some (by omega)
  · have q := of_decide_eq_false q
    exact Ok.some (by omega)
theorem tnext_ok [Fuel] {t : MillTape} {n : Int} (h : TB t) (h1 : 1 ≤ n) (h2 : n ≤ 4611686018427387904) : Ok (mill_Tape_Next t n) (fun r => 0 ≤ r.1 ∧ r.1 < n ∧ TB r.2) := by
  have hlo := h.lo
  have hhi := h.hi
  have hln := h.ln
  unfold mill_Tape_Next
  refine Ok.cond (fun q => ?_) (fun q => ?_)
  · have q := of_decide_eq_true q
    exact Ok.some ⟨by show (0 : Int) ≤ 0; omega, by show (0 : Int) < n; omega, h⟩
  · have q := of_decide_eq_false q
    rw [w64_eq (x := t.At + 1) (by omega) (by omega), w64_eq (by omega) (by omega)]
    have e : t.At + 1 - 1 = t.At := by omega
    rw [e, ixL_ok hlo (by omega)]
    refine Ok.bind (tmod_ok (h.el _ (tgetD_mem (by omega))) h1 h2) (fun r hr => Ok.some ⟨hr.1, hr.2, ⟨h.el, h.ln, by show 0 ≤ t.At + 1; omega, by show t.At + 1 ≤ 1000; omega⟩⟩)
theorem trange_ok [Fuel] {t : MillTape} {lo hi : Int} (h : TB t) (h1 : lo ≤ hi) (h2 : -1000000000 ≤ lo) (h3 : hi ≤ 1000000000) : Ok (mill_Tape_Range t lo hi) (fun r => lo ≤ r.1 ∧ r.1 ≤ hi ∧ TB r.2) := by
  unfold mill_Tape_Range
  rw [w64_eq (x := hi - lo) (by omega) (by omega), w64_eq (x := hi - lo + 1) (by omega) (by omega)]
  refine Ok.bind (tnext_ok h (by omega) (by omega)) (fun r hr => Ok.some ?_)
  rw [w64_eq (by omega) (by omega)]
  exact ⟨by show lo ≤ lo + r.1; omega, by show lo + r.1 ≤ hi; omega, hr.2.2⟩
theorem ttext_l1 [Fuel] {n : Int} (hn : n ≤ 1000) : ∀ (m : Nat) (t : MillTape) (xs : List Int) (i : Int), TB t → (xs.length : Int) = n → 0 ≤ i → (n - i).toNat < m →
    Ok (mill_Tape_Text_l1 n m t xs i) (fun r => TB r.2)
  | 0, _, _, _, _, _, _, hm => absurd hm (Nat.not_lt_zero _)
  | m + 1, t, xs, i, ht, hl, hi, hm => by
    rw [mill_Tape_Text_l1]
    refine Ok.cond (fun q => ?_) (fun q => ?_)
    · have q := of_decide_eq_true q
      refine Ok.bind (tnext_ok ht (by omega) (by omega)) (fun r hr => ?_)
      rw [ixL_ok hi (by omega)]
      unfold letD
      rw [w64_eq (by omega) (by omega)]
      exact ttext_l1 hn m _ _ _ hr.2.2 (by rw [List.length_set]; exact hl) (by omega) (by omega)
    · exact Ok.chk (strOk_eq _) (Ok.some ht)
theorem ttext_k2 [Fuel] {t : MillTape} {n : Int} (ht : TB t) (h0 : 0 ≤ n) (h1 : n ≤ 1000) : Ok (mill_Tape_Text_k2 t n) (fun r => TB r.2) := by
  unfold mill_Tape_Text_k2
  refine Ok.chk (dT (by omega)) ?_
  have e : (((List.replicate (Int.toNat n) (default : Int)).length : Nat) : Int) = n := by rw [List.length_replicate]; omega
  rw [e]
  exact ttext_l1 h1 fuel t _ 0 ht e (by omega) (by rw [fuel_eq]; omega)
theorem ttext_ok [Fuel] {t : MillTape} {lo hi : Int} (ht : TB t) (h0 : 0 ≤ lo) (h1 : lo ≤ hi) (h2 : hi ≤ 1000) : Ok (mill_Tape_Text t lo hi) (fun r => TB r.2) := by
  unfold mill_Tape_Text
  have hm : lo ≤ minE hi (w64 (lo + 2)) ∧ minE hi (w64 (lo + 2)) ≤ hi := by
    rw [w64_eq (by omega) (by omega)]; unfold minE; split <;> omega
  refine Ok.bind (trange_ok ht hm.1 (by omega) (by omega)) (fun r hr => ?_)
  refine Ok.bind (tnext_ok hr.2.2 (by omega) (by omega)) (fun r' hr' => ?_)
  exact Ok.cond (fun _ => ttext_k2 hr'.2.2 (by omega) (by omega)) (fun _ => ttext_k2 hr'.2.2 (by omega) (by omega))
theorem last_ok [Fuel] (T : Ref26Table) (c : Int) (h : 1 ≤ c ∧ c ≤ 8) : Ok (ref26_Table_Last T c) (fun r => r.2 = T) := by
  unfold ref26_Table_Last ref26_Table_Last_k1
  have : c = 1 ∨ c = 2 ∨ c = 3 ∨ c = 4 ∨ c = 5 ∨ c = 6 ∨ c = 7 ∨ c = 8 := by omega
  rcases this with rfl | rfl | rfl | rfl | rfl | rfl | rfl | rfl <;> exact Ok.some rfl
structure CI (c : Ref28Copy) : Prop where
  s : c.S.L.length ≤ 32
  q : c.Q.L.length ≤ 16
  r : c.Q.R.length ≤ 16
  h : c.H.length ≤ 4096
  g : ∀ i, i < c.H.length → (c.H.getD i default).Seq = (i : Int) + 1
theorem change_k1 [Fuel] {x1 x2 x3 x4 x5 x6 x7 t e} (ht : TB t) : Ok (mill_Change_k1 x1 x2 x3 x4 x5 x6 x7 t e) (fun r => TB r.2.1 ∧ r.2.2 = { Cell := x1, Tenant := x2, H := x3, S := x4, Q := x5, T := x6, G := x7 }) :=
  Ok.some ⟨ht, rfl⟩
theorem change_k2 [Fuel] {x1 x2 x3 x4 x5 x6 x7 t e} (ht : TB t) (hs : x4.L.length ≤ 32) (hq : x5.L.length ≤ 16) (h1 : e.Kind = 2 → 0 < x4.L.length) (h2 : e.Kind = 4 → 0 < x5.L.length) :
    Ok (mill_Change_k2 t x1 x2 x3 x4 x5 x6 x7 e) (fun r => TB r.2.1 ∧ r.2.2 = { Cell := x1, Tenant := x2, H := x3, S := x4, Q := x5, T := x6, G := x7 }) := by
  unfold mill_Change_k2
  refine Ok.cond (fun q => ?_) (fun q => ?_)
  · exact Ok.bind (ttext_ok ht (by omega) (by omega) (by omega)) fun r hr => Ok.bind (ttext_ok hr (by omega) (by omega) (by omega)) fun r' hr' => change_k1 hr'
  refine Ok.cond (fun q => ?_) (fun q => ?_)
  · have := h1 (by simpa using q)
    refine Ok.bind (tnext_ok ht (by omega) (by omega)) fun r hr => ?_
    rw [ixL_ok hr.1 hr.2.1]
    exact change_k1 hr.2.2
  refine Ok.cond (fun q => ?_) (fun q => ?_)
  · exact Ok.bind (ttext_ok ht (by omega) (by omega) (by omega)) fun r hr => change_k1 hr
  refine Ok.cond (fun q => ?_) (fun q => ?_)
  · have := h2 (by simpa using q)
    refine Ok.bind (tnext_ok ht (by omega) (by omega)) fun r hr => ?_
    rw [ixL_ok hr.1 hr.2.1]
    exact change_k1 hr.2.2
  · exact change_k1 ht
theorem change_k3 [Fuel] {x1 x2 x3 x4 x5 x6 x7 t e} (ht : TB t) (hs : x4.L.length ≤ 32) (hq : x5.L.length ≤ 16) (h2 : e.Kind = 4 → 0 < x5.L.length) :
    Ok (mill_Change_k3 t x1 x2 x3 x4 x5 x6 x7 e) (fun r => TB r.2.1 ∧ r.2.2 = { Cell := x1, Tenant := x2, H := x3, S := x4, Q := x5, T := x6, G := x7 }) := by
  unfold mill_Change_k3
  refine Ok.cond (fun q => ?_) (fun q => ?_)
  · exact change_k2 ht hs hq (fun h => by exact absurd (show (1 : Int) = 2 from h) (by omega)) (fun h => by exact absurd (show (1 : Int) = 4 from h) (by omega))
  · refine change_k2 ht hs hq (fun h => ?_) h2
    rw [h] at q
    rcases Nat.eq_zero_or_pos x4.L.length with h0 | h0
    · rw [h0] at q; exact absurd q (by decide)
    · exact h0
theorem change_ok [Fuel] {t : MillTape} {c : Ref28Copy} {ep : Int} (ht : TB t) (hc : CI c) : Ok (mill_Change t c ep) (fun r => TB r.2.1 ∧ r.2.2 = c) := by
  unfold mill_Change
  refine Ok.bind (trange_ok ht (by omega) (by omega) (by omega)) fun r hr => ?_
  refine Ok.bind (trange_ok hr.2.2 (by omega) (by omega) (by omega)) fun r' hr' => ?_
  refine Ok.bind (last_ok c.T r'.1 ⟨hr'.1, by have := hr'.2.1; omega⟩) fun l hl => ?_
  rw [hl]
  refine Ok.cond (fun q => ?_) (fun q => ?_)
  · exact change_k3 hr'.2.2 hc.s hc.q (fun h => by exact absurd (show (3 : Int) = 4 from h) (by omega))
  · refine change_k3 hr'.2.2 hc.s hc.q (fun h => ?_)
    have h : r.1 = 4 := h
    rw [h] at q
    rcases Nat.eq_zero_or_pos c.Q.L.length with h0 | h0
    · rw [h0] at q; exact absurd q (by decide)
    · exact h0
end Go.CP
namespace Go.CP
open Go
set_option linter.unusedSimpArgs false
set_option linter.unusedVariables false
theorem hvalid_ok [Fuel] (e : ApiChange) : Ok (ref24_Valid e) (fun r => r = true → (1 ≤ e.Seq ∧ e.Seq ≤ 4096) ∧ 1 ≤ e.Client ∧ e.Client ≤ 8) := by
  unfold ref24_Valid
  simp only [ref24_in, ref24_Key, ref24_Value, bifS, Option.bind_some]
  generalize e1 : (decide (1 ≤ e.Epoch) && decide (e.Epoch ≤ 1048576)) = a1
  generalize e2 : (decide (1 ≤ e.Seq) && decide (e.Seq ≤ 4096)) = a2
  generalize e3 : (decide (1 ≤ e.Client) && decide (e.Client ≤ 8)) = a3
  generalize e4 : (decide (1 ≤ e.Number) && decide (e.Number ≤ 1048576)) = a4
  cases a1 with
  | false => exact Ok.some (fun h => by cases h)
  | true =>
  cases a2 with
  | false => exact Ok.some (fun h => by cases h)
  | true =>
  cases a3 with
  | false => exact Ok.some (fun h => by cases h)
  | true =>
  rw [Bool.and_eq_true, decide_eq_true_eq, decide_eq_true_eq] at e2 e3
  have K : ∀ b : Bool, Ok (some b) (fun r : Bool => r = true → (1 ≤ e.Seq ∧ e.Seq ≤ 4096) ∧ 1 ≤ e.Client ∧ e.Client ≤ 8) := fun b => Ok.some fun _ => ⟨e2, e3⟩
  exact K _
theorem tk2_ok [Fuel] (e : ApiChange) (T : Ref26Table) (j : Int) (h : 0 ≤ j ∧ j ≤ 7) : Ok (ref26_Table_Apply_k2 e T j) (fun _ => True) := by
  unfold ref26_Table_Apply_k2 ref26_Table_Apply_k1
  have : j = 0 ∨ j = 1 ∨ j = 2 ∨ j = 3 ∨ j = 4 ∨ j = 5 ∨ j = 6 ∨ j = 7 := by omega
  rcases this with rfl | rfl | rfl | rfl | rfl | rfl | rfl | rfl <;> exact Ok.cond (fun _ => ⟨_, rfl, trivial⟩) (fun _ => ⟨_, rfl, trivial⟩)
theorem tk3_ok [Fuel] (e : ApiChange) (T : Ref26Table) (j : Int) (h : 0 ≤ j ∧ j ≤ 7) : Ok (ref26_Table_Apply_k3 e T j) (fun _ => True) := by
  unfold ref26_Table_Apply_k3
  have : j = 0 ∨ j = 1 ∨ j = 2 ∨ j = 3 ∨ j = 4 ∨ j = 5 ∨ j = 6 ∨ j = 7 := by omega
  rcases this with rfl | rfl | rfl | rfl | rfl | rfl | rfl | rfl <;> exact tk2_ok _ _ _ (by omega)
theorem tk4_ok [Fuel] (e : ApiChange) (T : Ref26Table) (j : Int) (b : Bool) (h : 0 ≤ j ∧ j ≤ 7) : Ok (ref26_Table_Apply_k4 T e j b) (fun _ => True) := by
  unfold ref26_Table_Apply_k4
  refine Ok.cond (fun _ => ⟨_, rfl, trivial⟩) (fun _ => ?_)
  have : j = 0 ∨ j = 1 ∨ j = 2 ∨ j = 3 ∨ j = 4 ∨ j = 5 ∨ j = 6 ∨ j = 7 := by omega
  rcases this with rfl | rfl | rfl | rfl | rfl | rfl | rfl | rfl <;> exact tk3_ok _ _ _ (by omega)
theorem tapply_ok [Fuel] (T : Ref26Table) (e : ApiChange) : Ok (ref26_Table_Apply T e) (fun _ => True) := by
  unfold ref26_Table_Apply
  refine Ok.bind (hvalid_ok e) fun r hr => Ok.cond (fun _ => ⟨_, rfl, trivial⟩) fun q => ?_
  have hv := hr (by simpa using q)
  obtain ⟨j, hj, h0, h7⟩ : ∃ j, e.Client = j + 1 ∧ 0 ≤ j ∧ j ≤ 7 := ⟨e.Client - 1, by omega, by omega, by omega⟩
  rw [hj, show w64 (j + 1 - 1) = j by rw [w64_eq (by omega) (by omega)]; omega]
  have : j = 0 ∨ j = 1 ∨ j = 2 ∨ j = 3 ∨ j = 4 ∨ j = 5 ∨ j = 6 ∨ j = 7 := by omega
  rcases this with rfl | rfl | rfl | rfl | rfl | rfl | rfl | rfl <;> exact tk4_ok _ _ _ _ (by omega)
theorem sfind_l1 [Fuel] (S : Ref24Store) (k : ByteArray) (hS : S.L.length ≤ 32) : ∀ (m : Nat) (i : Int), 0 ≤ i → i ≤ (S.L.length : Int) → ((S.L.length : Int) - i).toNat < m →
    Ok (ref24_Store_find_l1 S k m i) (fun r => 0 ≤ r.1 ∧ r.1 ≤ (S.L.length : Int) ∧ (r.2.1 = true → r.1 < (S.L.length : Int)) ∧ r.2.2 = S)
  | 0, _, _, _, hm => absurd hm (Nat.not_lt_zero _)
  | m + 1, i, h0, h1, hm => by
    rw [ref24_Store_find_l1, ixG_if (fun h => ⟨h0, of_decide_eq_true h⟩), ixG_if (fun h => ⟨h0, of_decide_eq_true h⟩)]
    refine Ok.cond (fun q => ?_) (fun q => ?_)
    · rw [Bool.and_eq_true] at q
      have q := of_decide_eq_true q.1
      rw [w64_eq (by omega) (by omega)]
      exact sfind_l1 S k hS m (i + 1) (by omega) (by omega) (by omega)
    · refine Ok.some ⟨h0, h1, fun h => ?_, rfl⟩
      have h := (Bool.and_eq_true _ _ ▸ h : _ ∧ _)
      exact of_decide_eq_true h.1
theorem sapply_ok [Fuel] (S : Ref24Store) (e : ApiChange) (hS : S.L.length ≤ 32) : Ok (ref24_Store_Apply S e) (fun r => r.2.L.length ≤ 32) := by
  unfold ref24_Store_Apply ref24_Store_Apply_k1
  refine Ok.bind (hvalid_ok e) fun r hr => Ok.cond (fun _ => Ok.some hS) fun q => ?_
  unfold ref24_Store_find
  refine Ok.bind (sfind_l1 S e.Key hS fuel 0 (by omega) (by omega) (by rw [fuel_eq]; omega)) fun f hf => ?_
  obtain ⟨i, b, S'⟩ := f
  obtain ⟨h0, h1, h2, h3⟩ := hf
  simp only at h0 h1 h2 h3 ⊢
  subst h3
  simp only [List.nil_append, List.length_nil, Nat.zero_add, List.length_append, List.length_take, List.length_drop, List.length_singleton]
  have hroom : room = 140737488355328 := rfl
  refine Ok.cond (fun q => ?_) (fun q => ?_)
  · rw [Bool.and_eq_true] at q
    have := h2 q.2
    refine Ok.chk (dT (by omega)) ?_
    rw [ixL_ok h0 this]
    unfold letD
    exact Ok.some (by simp only [List.length_set]; exact hS)
  refine Ok.cond (fun q => ?_) (fun q => ?_)
  · refine Ok.cond (fun q => Ok.some hS) (fun q => ?_)
    have q := of_decide_eq_false q
    refine Ok.chk (dT (by omega)) (Ok.chk (dT (by omega)) (Ok.chk (dT (by omega)) (Ok.chk (dT (by omega)) (Ok.chk (dT (by omega)) (Ok.some ?_)))))
    simp only [List.length_append, List.length_take, List.length_drop, List.length_singleton]
    omega
  refine Ok.cond (fun q => ?_) (fun q => Ok.some hS)
  refine Ok.cond (fun q => Ok.some hS) (fun q => ?_)
  have hb : b = true := by simpa using q
  have := h2 hb
  rw [w64_eq (by omega) (by omega)]
  refine Ok.chk (dT (by omega)) (Ok.chk (dT (by omega)) (Ok.chk (dT (by omega)) (Ok.chk (dT (by omega)) (Ok.some ?_))))
  simp only [List.length_append, List.length_take, List.length_drop, List.length_singleton]
  omega
theorem qat_l1 [Fuel] (Q : Ref25Queue) (k : Int) (hQ : Q.L.length ≤ 16) : ∀ (m : Nat) (i : Int), 0 ≤ i → ((Q.L.length : Int) - i).toNat < m →
    Ok (ref25_Queue_at_l1 Q k Q.L ((Q.L.length : Nat) : Int) m i) (fun r => r.1 < (Q.L.length : Int) ∧ r.2 = Q)
  | 0, _, _, hm => absurd hm (Nat.not_lt_zero _)
  | m + 1, i, h0, hm => by
    rw [ref25_Queue_at_l1]
    refine Ok.cond (fun q => ?_) (fun q => ?_)
    · have q := of_decide_eq_true q
      rw [ixL_ok h0 q]
      refine Ok.cond (fun _ => Ok.some ⟨q, rfl⟩) fun _ => ?_
      rw [w64_eq (by omega) (by omega)]
      exact qat_l1 Q k hQ m (i + 1) (by omega) (by omega)
    · exact Ok.some ⟨by show (-1 : Int) < _; omega, rfl⟩
theorem qdrop_l2 [Fuel] (Q : Ref25Queue) (k : Int) (R : List ApiLease) (hR : R.length ≤ 16) : ∀ (m : Nat) (xs : List ApiLease) (i : Int), 0 ≤ i → (xs.length : Int) ≤ i → i ≤ (R.length : Int) → ((R.length : Int) - i).toNat < m →
    Ok (ref25_Queue_drop_l2 Q k R ((R.length : Nat) : Int) m xs i) (fun r => r.L = Q.L ∧ r.R.length ≤ 16)
  | 0, _, _, _, _, _, hm => absurd hm (Nat.not_lt_zero _)
  | m + 1, xs, i, h0, hx, hi, hm => by
    have hroom : room = 140737488355328 := rfl
    rw [ref25_Queue_drop_l2]
    refine Ok.cond (fun q => ?_) (fun q => ?_)
    · have q := of_decide_eq_true q
      rw [ixL_ok h0 q]
      unfold ref25_Queue_drop_k1
      rw [w64_eq (by omega) (by omega)]
      refine Ok.cond (fun _ => ?_) fun _ => ?_
      · refine Ok.chk (dT (by simp only [List.length_singleton]; omega)) ?_
        exact qdrop_l2 Q k R hR m _ (i + 1) (by omega) (by simp only [List.length_append, List.length_singleton]; omega) (by omega) (by omega)
      · exact qdrop_l2 Q k R hR m _ (i + 1) (by omega) (by omega) (by omega) (by omega)
    · exact Ok.some ⟨rfl, by show xs.length ≤ 16; omega⟩
theorem qapply_ok [Fuel] (Q : Ref25Queue) (e : ApiChange) (hQ : Q.L.length ≤ 16) (hR : Q.R.length ≤ 16) : Ok (ref25_Queue_Apply Q e) (fun r => r.2.L.length ≤ 16 ∧ r.2.R.length ≤ 16) := by
  unfold ref25_Queue_Apply ref25_Queue_Apply_k1
  have hroom : room = 140737488355328 := rfl
  refine Ok.bind (hvalid_ok e) fun r hr => Ok.cond (fun _ => Ok.some ⟨hQ, hR⟩) fun q => ?_
  refine Ok.cond (fun q => ?_) (fun q => ?_)
  · refine Ok.cond (fun _ => Ok.some ⟨hQ, hR⟩) fun q => ?_
    refine Ok.cond (fun _ => Ok.some ⟨hQ, hR⟩) fun q => ?_
    have q := of_decide_eq_false q
    simp only [List.nil_append, List.length_nil, Nat.zero_add, List.length_append, List.length_singleton]
    refine Ok.chk (dT (by omega)) (Ok.chk (dT (by omega)) (Ok.some ⟨?_, hR⟩))
    simp only [List.length_append, List.length_singleton]
    omega
  refine Ok.cond (fun q => ?_) (fun q => Ok.some ⟨hQ, hR⟩)
  unfold ref25_Queue_at
  refine Ok.bind (qat_l1 Q e.Item hQ fuel 0 (by omega) (by rw [fuel_eq]; omega)) fun f hf => ?_
  obtain ⟨i, Q'⟩ := f
  obtain ⟨h1, h2⟩ := hf
  simp only at h1 h2 ⊢
  subst h2
  refine Ok.cond (fun q => Ok.some ⟨hQ, hR⟩) (fun q => ?_)
  have h0 : 0 ≤ i := by have q := of_decide_eq_false q; omega
  simp only [List.nil_append, List.length_nil, Nat.zero_add, List.length_append, List.length_take, List.length_drop]
  rw [w64_eq (by omega) (by omega)]
  refine Ok.chk (dT (by omega)) (Ok.chk (dT (by omega)) (Ok.chk (dT (by omega)) (Ok.chk (dT (by omega)) ?_)))
  unfold ref25_Queue_drop
  refine Ok.bind (qdrop_l2 _ e.Item Q'.R hR fuel [] 0 (by omega) (by simp) (by omega) (by rw [fuel_eq]; omega)) fun g hg => Ok.some ⟨?_, hg.2⟩
  rw [hg.1]
  simp only [List.length_append, List.length_take, List.length_drop]
  omega
theorem capply_l1 [Fuel] {c : Ref28Copy} {e : ApiChange} {T8 : Ref26Table} {S9 : Ref24Store} {Q10 : Ref25Queue} {xs : List Int} (hc : CI c) (hs : S9.L.length ≤ 32) (hq : Q10.L.length ≤ 16) (hr : Q10.R.length ≤ 16)
    (he : e.Seq = (c.H.length : Int) + 1) (hle : e.Seq ≤ 4096) (hx : xs.length ≤ 3) : ∀ (m : Nat) (i : Int), 0 ≤ i → ((xs.length : Int) - i).toNat < m →
    Ok (ref28_Copy_Apply_l1 e c.Cell c.Tenant c.H c.S c.Q c.T c.G T8 S9 Q10 xs ((xs.length : Nat) : Int) m i) (fun r => (r.1 ≠ 0 ∧ r.2 = c) ∨ (r.1 = 0 ∧ CI r.2 ∧ r.2.H = c.H ++ [e]))
  | 0, _, _, hm => absurd hm (Nat.not_lt_zero _)
  | m + 1, i, h0, hm => by
    have hroom : room = 140737488355328 := rfl
    rw [ref28_Copy_Apply_l1]
    refine Ok.cond (fun q => ?_) (fun q => ?_)
    · have q := of_decide_eq_true q
      rw [ixL_ok h0 q]
      refine Ok.cond (fun q => Ok.some (.inl ⟨?_, rfl⟩)) fun _ => ?_
      · simpa using q
      · rw [w64_eq (by omega) (by omega)]
        exact capply_l1 hc hs hq hr he hle hx m (i + 1) (by omega) (by omega)
    · simp only [List.nil_append, List.length_nil, Nat.zero_add, List.length_singleton]
      refine Ok.chk (dT (by omega)) (Ok.chk (dT (by omega)) (Ok.some (.inr ⟨rfl, ⟨hs, hq, hr, ?_, fun j hj => ?_⟩, rfl⟩)))
      · show (c.H ++ [e]).length ≤ 4096
        simp only [List.length_append, List.length_singleton]; omega
      · show ((c.H ++ [e]).getD j default).Seq = (j : Int) + 1
        have hj : j < (c.H ++ [e]).length := hj
        simp only [List.length_append, List.length_singleton] at hj
        by_cases h : j < c.H.length
        · rw [← hc.g j h]; simp [List.getD_eq_getElem?_getD, List.getElem?_append_left h]
        · have : j = c.H.length := by omega
          subst this
          rw [← he]; simp [List.getD_eq_getElem?_getD]
theorem cepoch_ok [Fuel] {c : Ref28Copy} (hc : CI c) : Ok (ref28_Copy_Epoch c) (fun r => r.2 = c) := by
  unfold ref28_Copy_Epoch
  refine Ok.cond (fun _ => Ok.some rfl) fun q => ?_
  have hh := hc.h
  have : 0 < c.H.length := by
    rcases Nat.eq_zero_or_pos c.H.length with h0 | h0
    · rw [h0] at q; exact absurd q (by decide)
    · exact h0
  rw [w64_eq (by omega) (by omega), ixL_ok (by omega) (by omega)]
  exact Ok.some rfl
theorem capply_ok [Fuel] {c : Ref28Copy} (hc : CI c) (e : ApiChange) : Ok (ref28_Copy_Apply c e) (fun r => (r.1 ≠ 0 ∧ r.2 = c) ∨ (r.1 = 0 ∧ CI r.2 ∧ r.2.H = c.H ++ [e])) := by
  unfold ref28_Copy_Apply
  have hroom : room = 140737488355328 := rfl
  have hh := hc.h
  refine Ok.bind (hvalid_ok e) fun r hr => Ok.cond (fun _ => Ok.some (.inl ⟨by show (1 : Int) ≠ 0; omega, rfl⟩)) fun q => ?_
  have hv := hr (by simpa using q)
  refine Ok.bind (P := fun r => r.2 = c) (Ok.cond (fun _ => cepoch_ok hc) fun _ => Ok.some rfl) fun x hx => ?_
  obtain ⟨x, c'⟩ := x
  have hx : c' = c := hx
  subst hx
  refine Ok.cond (fun _ => Ok.some (.inl ⟨by show (36 : Int) ≠ 0; omega, rfl⟩)) fun q => ?_
  rw [Bool.or_eq_false_iff] at q
  have he : e.Seq = (c'.H.length : Int) + 1 := by
    have := q.1
    rw [w64_eq (by omega) (by omega)] at this
    simpa using this
  unfold ref25_Queue_Copy
  have h16 := hc.q
  have h16' := hc.r
  simp only [List.nil_append, List.length_nil, Nat.zero_add]
  rw [chk_ok (dT (by omega)), chk_ok (dT (by omega))]
  refine Ok.bindE rfl (Ok.bind (tapply_ok _ e) fun t _ => Ok.bind (sapply_ok _ e hc.s) fun s hs => Ok.bind (qapply_ok _ e h16 h16') fun q hq => ?_)
  exact capply_l1 hc hs hq.1 hq.2 he hv.1.2 (by simp) fuel 0 (by omega) (by rw [fuel_eq]; simp)
end Go.CP
namespace Go.CP
open Go
set_option linter.unusedSimpArgs false
set_option linter.unusedVariables false
def newC : Ref28Copy := (ref28_New 0 0).getD default
theorem newC_eq : ref28_New 0 0 = some newC := rfl
theorem newC_h : newC.H = [] := rfl
inductive Rch [Fuel] : Ref28Copy → Prop
  | new : Rch newC
  | step {c c' : Ref28Copy} {e : ApiChange} : Rch c → ref28_Copy_Apply c e = some (0, c') → Rch c'
theorem apply_took [Fuel] {c c' : Ref28Copy} {e : ApiChange} (hc : CI c) (h : ref28_Copy_Apply c e = some (0, c')) : CI c' ∧ c'.H = c.H ++ [e] := by
  obtain ⟨r, hr, h1⟩ := capply_ok hc e
  rw [h] at hr
  cases hr
  rcases h1 with h1 | h1
  · exact absurd rfl h1.1
  · exact h1.2
theorem Rch.ci [Fuel] {c : Ref28Copy} (h : Rch c) : CI c := by
  induction h with
  | new => exact ⟨by decide, by decide, by decide, by decide, fun i hi => absurd hi (Nat.not_lt_zero _)⟩
  | step _ h ih => exact (apply_took ih h).1
theorem snoc_inj [Fuel] {α : Type} {a b : List α} {x y : α} (h : a ++ [x] = b ++ [y]) : a = b ∧ x = y := by
  have := List.append_inj' h rfl
  exact ⟨this.1, by simpa using this.2⟩
theorem Rch.uniq [Fuel] {c d : Ref28Copy} (h : Rch c) (k : Rch d) (e : c.H = d.H) : c = d := by
  induction h generalizing d with
  | new =>
    cases k with
    | new => rfl
    | step k1 k2 => rw [(apply_took k1.ci k2).2] at e; rw [newC_h] at e; exact absurd e.symm (by simp)
  | step h1 h2 ih =>
    cases k with
    | new => rw [(apply_took h1.ci h2).2] at e; rw [newC_h] at e; exact absurd e (by simp)
    | step k1 k2 =>
      rw [(apply_took h1.ci h2).2, (apply_took k1.ci k2).2] at e
      obtain ⟨e1, e2⟩ := snoc_inj e
      subst e2
      have := ih k1 e1
      subst this
      rw [h2] at k2
      cases k2
      rfl
theorem Rch.pre [Fuel] {c : Ref28Copy} (h : Rch c) : ∀ k, k < c.H.length → ∃ d d', Rch d ∧ d.H = c.H.take k ∧ ref28_Copy_Apply d (c.H.getD k default) = some (0, d') := by
  induction h with
  | new => intro k hk; exact absurd hk (Nat.not_lt_zero _)
  | @step c c' e h1 h2 ih =>
    intro k hk
    have hH := (apply_took h1.ci h2).2
    rw [hH] at hk ⊢
    simp only [List.length_append, List.length_singleton] at hk
    by_cases h : k < c.H.length
    · obtain ⟨d, d', q1, q2, q3⟩ := ih k h
      refine ⟨d, d', q1, ?_, ?_⟩
      · rw [q2, List.take_append_of_le_length (by omega)]
      · rw [← q3]; simp [List.getD_eq_getElem?_getD, List.getElem?_append_left h]
    · have : k = c.H.length := by omega
      subst this
      refine ⟨c, c', h1, by simp, ?_⟩
      rw [← h2]; simp [List.getD_eq_getElem?_getD]
theorem grow_l2 [Fuel] {p4 : Int} (hp : p4 ≤ 1000) : ∀ (m : Nat) (t : MillTape) (c : Ref28Copy) (ep i : Int), TB t → Rch c → 0 ≤ i → (p4 - i).toNat < m →
    Ok (mill_Grow_l2 p4 m t c.Cell c.Tenant c.H c.S c.Q c.T c.G ep i) (fun r => Rch r.2)
  | 0, _, _, _, _, _, _, _, hm => absurd hm (Nat.not_lt_zero _)
  | m + 1, t, c, ep, i, ht, hc, hi, hm => by
    rw [mill_Grow_l2]
    refine Ok.bind (P := fun r => r.2 = t) (Ok.cond (fun _ => Ok.some rfl) fun _ => Ok.some rfl) fun x hx => ?_
    obtain ⟨x, t'⟩ := x
    have hx : t' = t := hx
    subst hx
    refine Ok.cond (fun q => ?_) (fun _ => Ok.some hc)
    rw [Bool.and_eq_true] at q
    have q := of_decide_eq_true q.1
    have K : ∀ (t2 : MillTape) (ep' : Int), TB t2 → Ok (mill_Grow_k1 (mill_Grow_l2 p4 m) c.Cell c.Tenant c.H c.S c.Q c.T c.G i t2 ep') (fun r => Rch r.2) := by
      intro t2 ep' ht2
      unfold mill_Grow_k1
      refine Ok.bind (change_ok (c := c) ht2 hc.ci) fun y hy => ?_
      rw [hy.2, w64_eq (by omega) (by omega)]
      obtain ⟨z, hz, h1⟩ := capply_ok hc.ci y.1
      refine Ok.bindE hz ?_
      rcases h1 with ⟨_, h1⟩ | ⟨h1, _, _⟩
      · rw [h1]
        exact grow_l2 hp m y.2.1 c ep' (i + 1) hy.1 hc (by omega) (by omega)
      · have : Rch z.2 := .step hc (by rw [hz, ← h1])
        exact grow_l2 hp m y.2.1 z.2 ep' (i + 1) hy.1 this (by omega) (by omega)
    refine Ok.bind (tnext_ok ht (by omega) (by omega)) fun y hy => ?_
    exact Ok.cond (fun _ => K _ _ hy.2.2) (fun _ => K _ _ hy.2.2)
theorem grow_ok [Fuel] {t : MillTape} {c : Ref28Copy} {ep n : Int} (ht : TB t) (hc : Rch c) (hn : n ≤ 1000) : Ok (mill_Grow t c ep n) (fun r => Rch r.2) := by
  unfold mill_Grow
  exact grow_l2 hn fuel t c ep 0 ht hc (by omega) (by rw [fuel_eq]; omega)
theorem newT_ok [Fuel] {p : List Int} (h : ∀ x ∈ p, I64 x) (hl : p.length ≤ 150) : TB { L := p, At := 0 : MillTape } :=
  ⟨h, by show p.length ≤ 1000; omega, by show (0 : Int) ≤ 0; omega, by show (0 : Int) ≤ 1000; omega⟩
def Hst [Fuel] (H : List ApiChange) : Prop := ∃ c, Rch c ∧ c.H = H
theorem Hst.len [Fuel] {H : List ApiChange} (h : Hst H) : H.length ≤ 4096 := by obtain ⟨c, h1, rfl⟩ := h; exact h1.ci.h
theorem Hst.seq [Fuel] {H : List ApiChange} (h : Hst H) : ∀ i, i < H.length → (H.getD i default).Seq = (i : Int) + 1 := by obtain ⟨c, h1, rfl⟩ := h; exact h1.ci.g
theorem history_ok [Fuel] {p : List Int} (h : ∀ x ∈ p, I64 x) (hl : p.length ≤ 150) : Ok (mill_History p) Hst := by
  unfold mill_History
  refine Ok.bindE newC_eq (Ok.bindE rfl (Ok.bind (grow_ok (newT_ok h hl) .new (by omega)) fun r hr => Ok.some ⟨_, hr, rfl⟩))
theorem fold_l1 [Fuel] {c : Ref28Copy} (hc : Rch c) {k : Nat} (hk : k ≤ c.H.length) : ∀ (m : Nat) (d : Ref28Copy) (i : Nat), Rch d → i ≤ k → d.H = c.H.take i → k - i < m →
    Ok (ref28_Fold_l1 (c.H.take k) (c.H.take k) (((c.H.take k).length : Nat) : Int) m d.Cell d.Tenant d.H d.S d.Q d.T d.G (i : Int)) (fun r => Rch r.1)
  | 0, _, _, _, _, _, hm => absurd hm (Nat.not_lt_zero _)
  | m + 1, d, i, hd, hi, he, hm => by
    have hh := hc.ci.h
    have hlen : (c.H.take k).length = k := by rw [List.length_take]; omega
    rw [ref28_Fold_l1, hlen]
    refine Ok.cond (fun q => ?_) (fun q => Ok.some hd)
    have q : (i : Int) < (k : Int) := of_decide_eq_true q
    rw [ixL_ok (by omega) (by rw [hlen]; omega), w64_eq (by omega) (by omega)]
    have hget : (c.H.take k).getD ((i : Int)).toNat default = c.H.getD i default := by
      rw [show ((i : Int)).toNat = i by omega]
      simp only [List.getD_eq_getElem?_getD]
      rw [List.getElem?_take, if_pos (by omega)]
    rw [hget]
    obtain ⟨d0, d', q1, q2, q3⟩ := hc.pre i (by omega)
    have : d = d0 := hd.uniq q1 (by rw [he, q2])
    subst this
    refine Ok.bindE q3 ?_
    refine Ok.cond (fun q => absurd (show ((0 : Int) != 0) = true from q) (by decide)) (fun _ => ?_)
    have hd' : Rch d' := .step hd q3
    have h4 := (apply_took hd.ci q3).2
    have := fold_l1 hc hk m d' (i + 1) hd' (by omega) (by
      rw [h4, he, List.take_add_one]
      congr 1
      simp only [List.getD_eq_getElem?_getD, List.getElem?_eq_getElem (show i < c.H.length by omega)]
      rfl) (by omega)
    rw [hlen] at this
    rw [show ((i : Int) + 1) = ((i + 1 : Nat) : Int) by omega]
    exact this
theorem fold_ok [Fuel] {H : List ApiChange} (h : Hst H) {k : Nat} (hk : k ≤ H.length) : Ok (ref28_Fold 0 0 (H.take k)) (fun r => Rch r.1) := by
  obtain ⟨c, hc, rfl⟩ := h
  have hh := hc.ci.h
  unfold ref28_Fold
  refine Ok.bindE newC_eq ?_
  exact fold_l1 hc hk fuel newC 0 .new (by omega) (by rw [newC_h]; rfl) (by rw [fuel_eq]; omega)
theorem fork_k1 [Fuel] {p : List Int} {c : Ref28Copy} {ep : Int} (h : ∀ x ∈ p, I64 x) (hl : p.length ≤ 150) (hc : Rch c) : Ok (mill_Fork_k1 p c.Cell c.Tenant c.H c.S c.Q c.T c.G ep) Hst := by
  unfold mill_Fork_k1
  exact Ok.bindE rfl (Ok.bind (grow_ok (c := c) (newT_ok h hl) hc (by omega)) fun r hr => Ok.some ⟨_, hr, rfl⟩)
theorem fork_ok [Fuel] {H : List ApiChange} {p : List Int} {v : Int} (hv : I64 v) (h : ∀ x ∈ p, I64 x) (hl : p.length ≤ 150) (hH : Hst H) : Ok (mill_Fork H v p) Hst := by
  have hh := hH.len
  unfold mill_Fork
  rw [w64_eq (by omega) (by omega)]
  refine Ok.bind (tmod_ok hv (by omega) (by omega)) fun r hr => ?_
  refine Ok.chk (dT (by omega)) ?_
  refine Ok.bind (fold_ok hH (k := r.toNat) (by omega)) fun x hx => ?_
  refine Ok.cond (fun q => ?_) (fun _ => fork_k1 h hl hx)
  have q := of_decide_eq_true q
  rw [w64_eq (by omega) (by omega), ixL_ok (by omega) (by omega)]
  exact fork_k1 h hl hx
theorem two_ok [Fuel] {p1 p2 : List Int} {v : Int} {b : Bool} (hv : I64 v) (h1 : ∀ x ∈ p1, I64 x) (l1 : p1.length ≤ 150) (h2 : ∀ x ∈ p2, I64 x) (l2 : p2.length ≤ 150) :
    Ok (law30_two p1 p2 v b) (fun r => Hst r.1 ∧ r.2.length ≤ 4096) := by
  unfold law30_two
  refine Ok.bind (history_ok h1 l1) fun H hH => ?_
  have hh := hH.len
  refine Ok.cond (fun _ => Ok.bind (fork_ok hv h2 l2 hH) fun r hr => Ok.some ⟨hH, hr.len⟩) (fun _ => ?_)
  rw [w64_eq (by omega) (by omega)]
  refine Ok.bind (tmod_ok hv (by omega) (by omega)) fun r hr => ?_
  refine Ok.chk (dT (by omega)) (Ok.some ⟨hH, ?_⟩)
  show (H.take r.toNat).length ≤ 4096
  rw [List.length_take]; omega
end Go.CP
namespace Go.CP
open Go
set_option linter.unusedSimpArgs false
set_option linter.unusedVariables false
def chEq (x y : ApiChange) : Bool := ((x.Epoch == y.Epoch) && ((x.Seq == y.Seq) && ((x.Kind == y.Kind) && ((x.Client == y.Client) && ((x.Number == y.Number) && ((x.Item == y.Item) && ((x.Key.toList == y.Key.toList) && ((x.Value.toList == y.Value.toList) && true))))))))
theorem chEq_refl (x : ApiChange) : chEq x x = true := by simp [chEq]
structure IsC (p q : List ApiChange) (c : Nat) : Prop where
  lp : c ≤ p.length
  lq : c ≤ q.length
  eq : ∀ i, i < c → chEq (p.getD i default) (q.getD i default) = true
  ne : c < p.length → c < q.length → chEq (p.getD c default) (q.getD c default) = false
theorem IsC.uniq {p q : List ApiChange} {a b : Nat} (h : IsC p q a) (k : IsC p q b) : a = b := by
  rcases Nat.lt_trichotomy a b with hl | he | hl
  · have h1 := h.ne (by have := k.lp; omega) (by have := k.lq; omega)
    rw [k.eq a hl] at h1; cases h1
  · exact he
  · have h1 := k.ne (by have := h.lp; omega) (by have := h.lq; omega)
    rw [h.eq b hl] at h1; cases h1
theorem IsC.self (p : List ApiChange) : IsC p p p.length := ⟨Nat.le_refl _, Nat.le_refl _, fun _ _ => chEq_refl _, fun h => absurd h (Nat.lt_irrefl _)⟩
theorem IsC.take (p : List ApiChange) {k : Nat} (h : k ≤ p.length) : IsC p (p.take k) k := by
  have hl : (p.take k).length = k := by rw [List.length_take]; omega
  refine ⟨h, by omega, fun i hi => ?_, fun _ h2 => by omega⟩
  have : (p.take k).getD i default = p.getD i default := by
    simp only [List.getD_eq_getElem?_getD]; rw [List.getElem?_take, if_pos hi]
  rw [this]; exact chEq_refl _
theorem common_l1 [Fuel] {p q : List ApiChange} (hp : p.length ≤ 4096) : ∀ (m i : Nat), i ≤ p.length → i ≤ q.length → (∀ j, j < i → chEq (p.getD j default) (q.getD j default) = true) → p.length - i < m →
    Ok (store_common_api_Change_l1 p q m (i : Int)) (fun r => ∃ c, IsC p q c ∧ r = (c : Int))
  | 0, _, _, _, _, hm => absurd hm (Nat.not_lt_zero _)
  | m + 1, i, h1, h2, he, hm => by
    rw [store_common_api_Change_l1]
    have hg : (decide ((i : Int) < ((p.length : Nat) : Int)) && decide ((i : Int) < ((q.length : Nat) : Int))) = true → i < p.length ∧ i < q.length := by
      intro h; rw [Bool.and_eq_true, decide_eq_true_eq, decide_eq_true_eq] at h; omega
    rw [ixG_if (xs := p) (fun h => by have := hg h; omega), ixG_if (xs := q) (fun h => by have := hg h; omega)]
    rw [show ((i : Int)).toNat = i by omega]
    refine Ok.cond (fun w => ?_) (fun w => Ok.some ⟨i, ⟨h1, h2, he, fun h3 h4 => ?_⟩, rfl⟩)
    · rw [Bool.and_eq_true] at w
      have hb := hg w.1
      rw [w64_eq (by omega) (by omega)]
      have := common_l1 (q := q) hp m (i + 1) (by omega) (by omega) (fun j hj => by
        rcases Nat.lt_or_ge j i with hj' | hj'
        · exact he j hj'
        · have : j = i := by omega
          subst this; exact w.2) (by omega)
      simpa using this
    · have ht : (decide ((i : Int) < ((p.length : Nat) : Int)) && decide ((i : Int) < ((q.length : Nat) : Int))) = true := by
        rw [Bool.and_eq_true, decide_eq_true_eq, decide_eq_true_eq]; omega
      rw [ht] at w
      exact w
theorem common_ok [Fuel] {p q : List ApiChange} (hp : p.length ≤ 4096) : Ok (store_Common p q) (fun r => ∃ c, IsC p q c ∧ r = (c : Int)) := by
  unfold store_Common store_common_api_Change
  refine Ok.bind (common_l1 hp fuel 0 (by omega) (by omega) (fun j hj => absurd hj (Nat.not_lt_zero _)) (by rw [fuel_eq]; omega)) fun r hr => Ok.some hr
theorem rcommon_l1 [Fuel] {p q : List ApiChange} (hp : p.length ≤ 4096) : ∀ (m i : Nat), i ≤ p.length → i ≤ q.length → (∀ j, j < i → chEq (p.getD j default) (q.getD j default) = true) → p.length - i < m →
    Ok (ref24_Common_l1 p q m (i : Int)) (fun r => ∃ c, IsC p q c ∧ r = (c : Int))
  | 0, _, _, _, _, hm => absurd hm (Nat.not_lt_zero _)
  | m + 1, i, h1, h2, he, hm => by
    rw [ref24_Common_l1]
    have hg : (decide ((i : Int) < ((p.length : Nat) : Int)) && decide ((i : Int) < ((q.length : Nat) : Int))) = true → i < p.length ∧ i < q.length := by
      intro h; rw [Bool.and_eq_true, decide_eq_true_eq, decide_eq_true_eq] at h; omega
    rw [ixG_if (xs := p) (fun h => by have := hg h; omega), ixG_if (xs := q) (fun h => by have := hg h; omega)]
    rw [show ((i : Int)).toNat = i by omega]
    refine Ok.cond (fun w => ?_) (fun w => Ok.some ⟨i, ⟨h1, h2, he, fun h3 h4 => ?_⟩, rfl⟩)
    · rw [Bool.and_eq_true] at w
      have hb := hg w.1
      rw [w64_eq (by omega) (by omega)]
      have := rcommon_l1 (q := q) hp m (i + 1) (by omega) (by omega) (fun j hj => by
        rcases Nat.lt_or_ge j i with hj' | hj'
        · exact he j hj'
        · have : j = i := by omega
          subst this; exact w.2) (by omega)
      simpa using this
    · have ht : (decide ((i : Int) < ((p.length : Nat) : Int)) && decide ((i : Int) < ((q.length : Nat) : Int))) = true := by
        rw [Bool.and_eq_true, decide_eq_true_eq, decide_eq_true_eq]; omega
      rw [ht] at w
      exact w
theorem rcommon_ok [Fuel] {p q : List ApiChange} (hp : p.length ≤ 4096) : Ok (ref24_Common p q) (fun r => ∃ c, IsC p q c ∧ r = (c : Int)) := by
  unfold ref24_Common
  exact rcommon_l1 hp fuel 0 (by omega) (by omega) (fun j hj => absurd hj (Nat.not_lt_zero _)) (by rw [fuel_eq]; omega)
def ackd (v : Int) (n : Nat) : Nat := min v.toNat n
theorem take_snoc {p : List ApiChange} {i : Nat} (h : i < p.length) : p.take (i + 1) = p.take i ++ [p.getD i default] := by
  rw [List.take_add_one]; congr 1
  simp only [List.getD_eq_getElem?_getD, List.getElem?_eq_getElem h]; rfl
def lossS (v : Int) (p : List ApiChange) (c : Nat) : ApiLoss := { Common := (c : Int), Lost := (p.take (ackd v p.length)).drop c, Dropped := ((p.length - max c (ackd v p.length) : Nat) : Int) }
theorem report_l2 [Fuel] {p : List ApiChange} {v : Int} {c : Nat} (hp : p.length ≤ 4096) (hs : ∀ i, i < p.length → (p.getD i default).Seq = (i : Int) + 1) (hc : c ≤ p.length) : ∀ (m i : Nat), i ≤ p.length → p.length - i < m →
    failover_Report_l2 v p ((p.length : Nat) : Int) m { Common := (c : Int), Lost := (p.take (ackd v i)).drop c, Dropped := ((i - max c (ackd v i) : Nat) : Int) } (i : Int) = some (lossS v p c)
  | 0, _, _, hm => absurd hm (Nat.not_lt_zero _)
  | m + 1, i, hi, hm => by
    have hroom : room = 140737488355328 := rfl
    rw [failover_Report_l2]
    by_cases h : i < p.length
    · rw [condT (by omega), ixL_ok (by omega) (by omega), show ((i : Int)).toNat = i by omega]
      have hq := hs i h
      have ih := report_l2 (v := v) hp hs hc m (i + 1) (by omega) (by omega)
      unfold failover_Report_k1
      rw [w64_eq (x := (i : Int) + 1) (by omega) (by omega), show ((i : Int) + 1) = ((i + 1 : Nat) : Int) by omega]
      have hk : ((p.take (ackd v i)).drop c).length ≤ 4096 := by rw [List.length_drop, List.length_take]; omega
      by_cases h1 : i + 1 ≤ c
      · rw [condT (by rw [hq]; show (i : Int) + 1 ≤ (c : Int); omega), ← ih]
        have a1 : (p.take (ackd v i)).drop c = [] := by rw [List.drop_eq_nil_iff, List.length_take]; unfold ackd; omega
        have a2 : (p.take (ackd v (i + 1))).drop c = [] := by rw [List.drop_eq_nil_iff, List.length_take]; unfold ackd; omega
        rw [a1, a2]
        have : i - max c (ackd v i) = i + 1 - max c (ackd v (i + 1)) := by unfold ackd; omega
        rw [this]
      · rw [condF (by rw [hq]; show ¬ ((i : Int) + 1 ≤ (c : Int)); omega)]
        by_cases h2 : (i : Int) + 1 ≤ v
        · rw [condT (by rw [hq]; omega), chk_ok (dT (by simp only [List.length_singleton]; omega)), ← ih]
          have a1 : ackd v i = i := by unfold ackd; omega
          have a2 : ackd v (i + 1) = i + 1 := by unfold ackd; omega
          have : i - max c (ackd v i) = i + 1 - max c (ackd v (i + 1)) := by rw [a1, a2]; omega
          rw [this, a1, a2, take_snoc h, List.drop_append_of_le_length (by rw [List.length_take]; omega)]
        · rw [condF (by rw [hq]; omega), ← ih]
          have a1 : ackd v i = ackd v (i + 1) := by unfold ackd; omega
          have : w64 (((i - max c (ackd v i) : Nat) : Int) + 1) = ((i + 1 - max c (ackd v (i + 1)) : Nat) : Int) := by
            rw [w64_eq (by omega) (by omega), ← a1]
            have : ackd v i ≤ i := by unfold ackd; omega
            omega
          simp only [this]
          rw [a1]
    · have : i = p.length := by omega
      subst this
      rw [condF (by omega)]
      rfl
theorem report_eq [Fuel] {p q : List ApiChange} {v : Int} {c : Nat} (hp : p.length ≤ 4096) (hs : ∀ i, i < p.length → (p.getD i default).Seq = (i : Int) + 1) (hc : IsC p q c) : failover_Report v p q = some (lossS v p c) := by
  unfold failover_Report
  obtain ⟨r, hr, c', h1, h2⟩ := common_ok (q := q) hp
  rw [hr, h2, h1.uniq hc]
  have := report_l2 (v := v) hp hs hc.lp fuel 0 (by omega) (by rw [fuel_eq]; omega)
  have a0 : ackd v 0 = 0 := by unfold ackd; omega
  rw [a0] at this
  simpa using this
theorem rreport_l2 [Fuel] {p : List ApiChange} {v : Int} {c : Nat} (hp : p.length ≤ 4096) (hs : ∀ i, i < p.length → (p.getD i default).Seq = (i : Int) + 1) (hc : c ≤ p.length) : ∀ (m i : Nat), c ≤ i → i ≤ p.length → p.length - i < m →
    ref30_Report_l2 v (p.drop c) (((p.drop c).length : Nat) : Int) m { Common := (c : Int), Lost := (p.take (ackd v i)).drop c, Dropped := ((i - max c (ackd v i) : Nat) : Int) } ((i - c : Nat) : Int) = some (lossS v p c)
  | 0, _, _, _, hm => absurd hm (Nat.not_lt_zero _)
  | m + 1, i, hci, hi, hm => by
    have hroom : room = 140737488355328 := rfl
    have hdl : (p.drop c).length = p.length - c := List.length_drop
    rw [ref30_Report_l2]
    by_cases h : i < p.length
    · have hget : (p.drop c).getD ((((i - c : Nat) : Int)).toNat) default = p.getD i default := by
        rw [show (((i - c : Nat) : Int)).toNat = i - c by omega]
        simp only [List.getD_eq_getElem?_getD]
        rw [List.getElem?_drop, show c + (i - c) = i by omega]
      rw [condT (by omega), ixL_ok (by omega) (by omega), hget]
      have hq := hs i h
      have ih := rreport_l2 (v := v) hp hs hc m (i + 1) (by omega) (by omega) (by omega)
      unfold ref30_Report_k1
      rw [w64_eq (x := ((i - c : Nat) : Int) + 1) (by omega) (by omega), show (((i - c : Nat) : Int) + 1) = ((i + 1 - c : Nat) : Int) by omega]
      have hk : ((p.take (ackd v i)).drop c).length ≤ 4096 := by rw [List.length_drop, List.length_take]; omega
      by_cases h2 : (i : Int) + 1 ≤ v
      · rw [condT (by rw [hq]; omega), chk_ok (dT (by simp only [List.length_singleton]; omega)), ← ih]
        have a1 : ackd v i = i := by unfold ackd; omega
        have a2 : ackd v (i + 1) = i + 1 := by unfold ackd; omega
        have : i - max c (ackd v i) = i + 1 - max c (ackd v (i + 1)) := by rw [a1, a2]; omega
        rw [this, a1, a2, take_snoc h, List.drop_append_of_le_length (by rw [List.length_take]; omega)]
      · rw [condF (by rw [hq]; omega), ← ih]
        have a1 : ackd v i = ackd v (i + 1) := by unfold ackd; omega
        have : w64 (((i - max c (ackd v i) : Nat) : Int) + 1) = ((i + 1 - max c (ackd v (i + 1)) : Nat) : Int) := by
          rw [w64_eq (by omega) (by omega), ← a1]
          have : ackd v i ≤ i := by unfold ackd; omega
          omega
        simp only [this]
        rw [a1]
    · have : i = p.length := by omega
      subst this
      rw [condF (by omega)]
      rfl
theorem rreport_eq [Fuel] {p q : List ApiChange} {v : Int} {c : Nat} (hp : p.length ≤ 4096) (hs : ∀ i, i < p.length → (p.getD i default).Seq = (i : Int) + 1) (hc : IsC p q c) : ref30_Report v p q = some (lossS v p c) := by
  unfold ref30_Report
  obtain ⟨r, hr, c', h1, h2⟩ := rcommon_ok (q := q) hp
  rw [hr, h2, h1.uniq hc]
  have hlp := hc.lp
  have := rreport_l2 (v := v) hp hs hc.lp fuel c (by omega) (by omega) (by rw [fuel_eq]; omega)
  have a1 : (p.take (ackd v c)).drop c = [] := by rw [List.drop_eq_nil_iff, List.length_take]; unfold ackd; omega
  have a2 : c - max c (ackd v c) = 0 := by unfold ackd; omega
  rw [a1, a2, Nat.sub_self] at this
  simp only [Option.bind_some]
  rw [chk_ok (dT (by omega)), show ((c : Int)).toNat = c by omega]
  exact this
def keptS (v : Int) (p : List ApiChange) (c : Nat) : List ApiChange := p.take (min c v.toNat)
theorem kept_l2 [Fuel] {p : List ApiChange} {v : Int} {c : Nat} (hp : p.length ≤ 4096) (hs : ∀ i, i < p.length → (p.getD i default).Seq = (i : Int) + 1) (hc : c ≤ p.length) : ∀ (m i : Nat), i ≤ p.length → p.length - i < m →
    failover_Kept_l2 v p (c : Int) ((p.length : Nat) : Int) m (p.take (min i (min c v.toNat))) (i : Int) = some (keptS v p c)
  | 0, _, _, hm => absurd hm (Nat.not_lt_zero _)
  | m + 1, i, hi, hm => by
    have hroom : room = 140737488355328 := rfl
    rw [failover_Kept_l2]
    by_cases h : i < p.length
    · rw [condT (by omega), ixL_ok (by omega) (by omega), show ((i : Int)).toNat = i by omega]
      have hq := hs i h
      have ih := kept_l2 (v := v) hp hs hc m (i + 1) (by omega) (by omega)
      unfold failover_Kept_k1
      rw [w64_eq (x := (i : Int) + 1) (by omega) (by omega), show ((i : Int) + 1) = ((i + 1 : Nat) : Int) by omega]
      have hk : (p.take (min i (min c v.toNat))).length ≤ 4096 := by rw [List.length_take]; omega
      by_cases h1 : i + 1 ≤ c ∧ (i : Int) + 1 ≤ v
      · have hb : (decide ((p.getD i default).Seq ≤ (c : Int)) && decide ((p.getD i default).Seq ≤ v)) = true := by
          rw [Bool.and_eq_true, decide_eq_true_eq, decide_eq_true_eq, hq]; omega
        rw [hb, cond_true, chk_ok (dT (by simp only [List.length_singleton]; omega)), ← ih]
        rw [show min i (min c v.toNat) = i by omega, show min (i + 1) (min c v.toNat) = i + 1 by omega, take_snoc h]
      · have hb : (decide ((p.getD i default).Seq ≤ (c : Int)) && decide ((p.getD i default).Seq ≤ v)) = false := by
          rw [Bool.and_eq_false_iff, decide_eq_false_iff_not, decide_eq_false_iff_not, hq]; omega
        rw [hb, cond_false, ← ih]
        rw [show min i (min c v.toNat) = min (i + 1) (min c v.toNat) by omega]
    · have : i = p.length := by omega
      subst this
      rw [condF (by omega)]
      unfold keptS
      rw [show min p.length (min c v.toNat) = min c v.toNat by omega]
theorem kept_eq [Fuel] {p q : List ApiChange} {v : Int} {c : Nat} (hp : p.length ≤ 4096) (hs : ∀ i, i < p.length → (p.getD i default).Seq = (i : Int) + 1) (hc : IsC p q c) : failover_Kept v p q = some (keptS v p c) := by
  unfold failover_Kept
  obtain ⟨r, hr, c', h1, h2⟩ := common_ok (q := q) hp
  rw [hr, h2, h1.uniq hc]
  have := kept_l2 (v := v) hp hs hc.lp fuel 0 (by omega) (by rw [fuel_eq]; omega)
  rw [show min 0 (min c v.toNat) = 0 by omega] at this
  simpa using this
theorem rkept_eq [Fuel] {p q : List ApiChange} {v : Int} {c : Nat} (hp : p.length ≤ 4096) (hc : IsC p q c) : ref30_Kept v p q = some (keptS v p c) := by
  unfold ref30_Kept
  obtain ⟨r, hr, c', h1, h2⟩ := rcommon_ok (q := q) hp
  rw [hr, h2, h1.uniq hc]
  have hlp := hc.lp
  have hroom : room = 140737488355328 := rfl
  have e : minE (maxE v 0) (c : Int) = ((min c v.toNat : Nat) : Int) := by unfold minE maxE; split <;> split <;> omega
  simp only [Option.bind_some, e, List.nil_append, List.length_nil, Nat.zero_add, List.length_take]
  rw [chk_ok (dT (by omega)), chk_ok (dT (by omega))]
  unfold keptS
  rw [show ((((min c v.toNat : Nat) : Int)).toNat) = min c v.toNat by omega]
theorem same_self [Fuel] {p : List ApiChange} (hp : p.length ≤ 4096) : ref24_Same p p = some true := by
  unfold ref24_Same
  obtain ⟨r, hr, c', h1, h2⟩ := rcommon_ok (q := p) hp
  rw [beq_self_eq_true, cond_true, hr, h2, h1.uniq (IsC.self p)]
  simp
theorem lossS_lost [Fuel] {v : Int} {p : List ApiChange} {c : Nat} (hp : p.length ≤ 4096) : (lossS v p c).Lost.length = ackd v p.length - c := by
  show ((p.take (ackd v p.length)).drop c).length = _
  rw [List.length_drop, List.length_take]; unfold ackd; omega
theorem sameLoss_self [Fuel] {l : ApiLoss} (h : l.Lost.length ≤ 4096) : ref30_SameLoss l l = some true := by
  unfold ref30_SameLoss
  rw [beq_self_eq_true, beq_self_eq_true]
  simp only [Bool.and_self, cond_true]
  rw [same_self h]
  rfl
end Go.CP
namespace Go.CP
open Go
theorem awake30 [F : Fuel] : law30_awake = some true := by
  obtain ⟨n, e⟩ := F; subst e; decide +kernel
end Go.CP
namespace Go.CP
open Go
set_option linter.unusedSimpArgs false
set_option linter.unusedVariables false
theorem lag_eq [Fuel] {p q : List ApiChange} {c : Nat} (hp : p.length ≤ 4096) (hc : IsC p q c) : failover_Lag p q = some (((p.length : Nat) : Int) - (c : Int)) := by
  unfold failover_Lag
  obtain ⟨r, hr, c', h1, h2⟩ := common_ok (q := q) hp
  have := hc.lp
  rw [hr, h2, h1.uniq hc, Option.bind_some, w64_eq (by omega) (by omega)]
theorem light_ok [Fuel] {p : List Int} (h : (!(decide (((p.length : Nat) : Int) ≤ 150))) = false) : p.length ≤ 150 := by
  rw [Bool.not_eq_false', decide_eq_true_eq] at h; omega
theorem FailoverReports_l1 [Fuel] {p6 : Int} {p q : List ApiChange} {c : Nat} {xs : List Int} (hp : p.length ≤ 4096) (hs : ∀ i, i < p.length → (p.getD i default).Seq = (i : Int) + 1) (hc : IsC p q c) (hx : xs.length ≤ 2) :
    ∀ (m : Nat) (i : Int), 0 ≤ i → ((xs.length : Int) - i).toNat < m → law30_FailoverReports_l1 p6 p q xs ((xs.length : Nat) : Int) m i = some true
  | 0, _, _, hm => absurd hm (Nat.not_lt_zero _)
  | m + 1, i, h0, hm => by
    rw [law30_FailoverReports_l1]
    by_cases h : i < ((xs.length : Nat) : Int)
    · rw [condT h, ixL_ok h0 h]
      generalize xs.getD i.toNat default = v
      have hl := lossS_lost (v := v) (c := c) hp
      have hl' : (lossS v p c).Lost.length ≤ 4096 := by rw [hl]; unfold ackd; omega
      rw [report_eq hp hs hc, Option.bind_some, rreport_eq hp hs hc, Option.bind_some, sameLoss_self hl', Option.bind_some]
      have hk : (keptS v p c).length ≤ 4096 := by unfold keptS; rw [List.length_take]; omega
      simp only [Bool.not_true, Bool.not_false, cond_true, Bool.false_or]
      rw [kept_eq hp hs hc, Option.bind_some, rkept_eq hp hc, Option.bind_some, same_self hk, Option.bind_some]
      unfold failover_Within
      rw [Option.bind_some, beq_self_eq_true]
      simp only [Bool.not_true, cond_false]
      rw [w64_eq (by omega) (by omega)]
      exact FailoverReports_l1 hp hs hc hx m (i + 1) (by omega) (by omega)
    · rw [condF h, lag_eq hp hc, Option.bind_some]
      obtain ⟨r, hr, c', h1, h2⟩ := rcommon_ok (q := q) hp
      have := hc.lp
      rw [hr, h2, h1.uniq hc, Option.bind_some, w64_eq (by omega) (by omega), beq_self_eq_true]
theorem FailoverReports_true [Fuel] {p1 p2 : List Int} {p3 : Int} {p4 : Bool} {p5 p6 : Int} (h1 : ∀ x ∈ p1, I64 x) (h2 : ∀ x ∈ p2, I64 x) (h3 : I64 p3) (h5 : I64 p5) : law30_FailoverReports p1 p2 p3 p4 p5 p6 = some true := by
  apply eqOk
  unfold law30_FailoverReports
  refine Ok.bindE awake30 (Ok.cond (fun q => absurd q (by decide)) fun _ => ?_)
  refine Ok.bindE rfl ?_
  refine Ok.bindE (a := decide (((p1.length : Nat) : Int) ≤ 150) && decide (((p2.length : Nat) : Int) ≤ 150)) (by cases decide (((p1.length : Nat) : Int) ≤ 150) <;> rfl) ?_
  refine Ok.cond (fun _ => Ok.some rfl) fun q => ?_
  rw [Bool.or_eq_false_iff] at q
  have hl1 := light_ok q.1
  have hl2 : p2.length ≤ 150 := by
    have := q.2
    rw [Bool.not_eq_false', Bool.and_eq_true, decide_eq_true_eq, decide_eq_true_eq] at this; omega
  refine Ok.bind (two_ok h3 h1 hl1 h2 hl2) fun r hr => ?_
  have hh := hr.1.len
  rw [w64_eq (by omega) (by omega)]
  refine Ok.bind (tmod_ok h5 (by omega) (by omega)) fun v hv => ?_
  obtain ⟨_, _, c, hc, _⟩ := common_ok (q := r.2) hh
  exact okEq (FailoverReports_l1 hh hr.1.seq hc (by simp) fuel 0 (by omega) (by rw [fuel_eq]; simp))
end Go.CP
namespace Go.AM
open Go Go.RowKit Go.CP
set_option linter.unusedVariables false
def SimCs (w : World) (ys : List CV) (cs : List Value) : Prop :=
  cs.length = ys.length ∧ ∀ (j : Nat) y v, ys[j]? = some y → cs[j]? = some v → SimC w (fun _ => False) y v ∧ v.oneCell' = true
theorem list_cons {α : Type} {l : List α} {n : Nat} (h : l.length = n + 1) : ∃ a t, l = a :: t ∧ t.length = n := by
  cases l with
  | nil => simp at h
  | cons a t => exact ⟨a, t, rfl, by simpa using h⟩
theorem simCs_nil {w : World} : SimCs w [] [] := ⟨rfl, fun j y v h => by simp at h⟩
theorem simCs_cons {w : World} {y : CV} {ys : List CV} {v : Value} {vs : List Value} (h : SimC w (fun _ => False) y v) (h1 : v.oneCell' = true) (t : SimCs w ys vs) : SimCs w (y :: ys) (v :: vs) := by
  refine ⟨by simp [t.1], fun j y' v' e1 e2 => ?_⟩
  cases j with
  | zero => simp at e1 e2; subst e1; subst e2; exact ⟨h, h1⟩
  | succ j => simp at e1 e2; exact t.2 j y' v' e1 e2
theorem simCs_app {w : World} {ys ys' : List CV} {vs vs' : List Value} (h : SimCs w ys vs) (h' : SimCs w ys' vs') : SimCs w (ys ++ ys') (vs ++ vs') := by
  refine ⟨by simp [h.1, h'.1], fun j y v e1 e2 => ?_⟩
  by_cases hj : j < ys.length
  · rw [List.getElem?_append_left hj] at e1
    rw [List.getElem?_append_left (by rw [h.1]; exact hj)] at e2
    exact h.2 j y v e1 e2
  · rw [List.getElem?_append_right (by omega)] at e1
    rw [List.getElem?_append_right (by rw [h.1]; omega), h.1] at e2
    exact h'.2 _ y v e1 e2
theorem simCs_int {w : World} {k : IntKind} {x : Int} {ys : List CV} {vs : List Value} (t : SimCs w ys vs) : SimCs w (.val (.int k x) :: ys) (.int k x :: vs) := simCs_cons (.val _) rfl t
theorem simCs_bool {w : World} {x : Bool} {ys : List CV} {vs : List Value} (t : SimCs w ys vs) : SimCs w (.val (.bool x) :: ys) (.bool x :: vs) := simCs_cons (.val _) rfl t
theorem simCs_str {w : World} {x : ByteArray} {ys : List CV} {vs : List Value} (t : SimCs w ys vs) : SimCs w (.val (.string x) :: ys) (.string x :: vs) := simCs_cons (.val _) rfl t
section
variable {H : Type} {encH : TypeId × Value → H} {P : Program} {w : World} {base : Nat} {spare : Nat → Bool} {held : Bool}
def Opn {α : Type} (encH : TypeId × Value → H) (P : Program) (w : World) (base : Nat) (spare : Nat → Bool) (held : Bool) (t : TypeId) (enc : α → List CV) (Inv : α → Prop) : Prop :=
  ∀ n cs x, DataW.trod encH P w base spare held n t cs = some x → ∃ a, Inv a ∧ SimCs w (enc a) cs
theorem opn_int {t : TypeId} {k : IntKind} (ht : P.underlying t = some (.int k)) : Opn encH P w base spare held t (e_int k) (fun n => (Lit.int k n).wf = true) := by
  intro n cs x h
  obtain ⟨m, rfl, _, hw⟩ := DataW.trod_int ht h
  exact ⟨m, hw, simCs_int simCs_nil⟩
theorem opn_bool {t : TypeId} (ht : P.underlying t = some .bool) : Opn encH P w base spare held t e_bool (fun _ => True) := by
  intro n cs x h
  obtain ⟨m, rfl, _⟩ := DataW.trod_bool ht h
  exact ⟨m, trivial, simCs_bool simCs_nil⟩
theorem opn_str {t : TypeId} (ht : P.underlying t = some .string) : Opn encH P w base spare held t e_str (fun s => s.size ≤ maxLen) := by
  intro n cs x h
  obtain ⟨m, rfl, _, hw⟩ := DataW.trod_string ht h
  exact ⟨m, hw, simCs_str simCs_nil⟩
theorem opn_slice {t e : TypeId} {z : Nat} {τ : Ty} {Inv : den τ → Prop} (ht : P.underlying t = some (.slice e)) (hc : P.cellsOf e = z) (hz0 : 0 < z) (hw : wd τ = z)
    (he : Opn encH P w base spare held e (encT τ) Inv) : Opn encH P w base spare held t (fun xs : List (den τ) => [CV.ls τ xs]) (fun xs => ∀ x ∈ xs, Inv x) := by
  have hz : ∀ a : den τ, (encT τ a).length = z := fun a => by rw [encT_len, hw]
  intro n cs x h
  rcases Deep.open_slice ht h with ⟨rfl, _⟩ | ⟨a, len, cap, m, n, D, Pl, rfl, hb, hl, hm, hmm, _, hx⟩
  · exact ⟨[], by simp, simCs_cons (.ls _ _ _ (.rd0 _ _ _ _)) rfl simCs_nil⟩
  have hlm : len ≤ m := by rw [hmm]; split <;> omega
  have each : ∀ i, i < len → ∃ q : den τ × List Value, Inv q.1 ∧ SimCs w (encT τ q.1) q.2 ∧ q.2.length = z ∧ ∀ j, j < z → w.cell? ((a.add (i * z)).add j) = q.2[j]? := by
    intro i hi
    obtain ⟨cs', h1, h2⟩ := hx i (by omega)
    rw [hc] at h1
    obtain ⟨_, hlen, hcell⟩ := World.cells?_some h1
    obtain ⟨y, hy, hs⟩ := he _ _ _ h2
    exact ⟨(y, cs'), hy, hs, hlen, hcell⟩
  obtain ⟨q, hq⟩ := Deep.choose_lt each
  refine ⟨(List.range len).map (fun i => (q i).1), ?_, simCs_cons (.ls _ _ _ ?_) rfl simCs_nil⟩
  · intro y hy
    obtain ⟨i, hi, rfl⟩ := List.mem_map.1 hy
    exact (hq i (List.mem_range.1 hi)).1
  · rw [hw]
    have hln : ((List.range len).map (fun i => (q i).1)).length = len := by simp
    have hg : ∀ i, i < len → ((List.range len).map (fun i => (q i).1)).getD i default = (q i).1 := by
      intro i hi
      simp [List.getD_eq_getElem?_getD, hi]
    rcases Nat.eq_zero_or_pos len with h0 | h0
    · subst h0; exact .rd0 _ _ _ _
    rw [hln]
    obtain ⟨b, off, spot⟩ := a
    have hsome : ∀ i j, i < len → j < z → (q i).2[j]? = some ((q i).2.getD j undef) := by
      intro i j hi hj
      have : j < (q i).2.length := by rw [(hq i hi).2.2.1]; exact hj
      simp [List.getD_eq_getElem?_getD, this]
    have hsp : spot = none ∧ b < w.heap.size := by
      have h1 := (hq 0 h0).2.2.2 0 hz0
      rw [hsome 0 0 h0 hz0, Nat.zero_mul] at h1
      have ez : ∀ x : Addr, x.add 0 = x := fun x => rfl
      rw [ez, ez] at h1
      unfold World.cell? at h1
      split at h1
      · rename_i heq
        refine ⟨?_, ?_⟩
        · cases spot with
          | none => rfl
          | some s => simp at h1
        · rw [Array.getElem?_eq_some_iff] at heq; exact heq.1
      · cases h1
    obtain ⟨rfl, hbs⟩ := hsp
    have c0 : ∀ i j, i < len → j < z → w.cell? ⟨b, off + (i * z + j), none⟩ = (q i).2[j]? := by
      intro i j hi hj
      have := (hq i hi).2.2.2 j hj
      rw [WideShapes.add_plain, WideShapes.add_plain, Nat.add_assoc] at this
      exact this
    have dm : ∀ j, j < len * z → j / z < len ∧ j % z < z ∧ j / z * z + j % z = j := by
      intro j hj
      refine ⟨(Nat.div_lt_iff_lt_mul hz0).2 hj, Nat.mod_lt _ hz0, ?_⟩
      rw [Nat.mul_comm]; exact Nat.div_add_mod j z
    refine .rd z len _ b off cap (fun j => (q (j / z)).2.getD (j % z) undef) (fun h => h) hbs hl ?_ ?_ ?_ ?_
    · intro i hi; exact hz _
    · intro j hj
      obtain ⟨h1, h2, h3⟩ := dm j hj
      have := c0 (j / z) (j % z) h1 h2
      rw [h3, hsome _ _ h1 h2] at this
      exact this
    · intro j hj
      obtain ⟨h1, h2, h3⟩ := dm j hj
      have hs := (hq (j / z) h1).2.1
      have hlt : j % z < (encT τ (q (j / z)).1).length := by rw [hz]; exact h2
      exact (hs.2 (j % z) ((encT τ (q (j / z)).1)[j % z]) _ (List.getElem?_eq_getElem hlt) (hsome _ _ h1 h2)).2
    · intro i j y hi hy
      unfold fE at hy; rw [hg i hi] at hy
      have hj : j < z := by rw [← hz (q i).1]; exact (List.getElem?_eq_some_iff.1 hy).1
      have e1 : (i * z + j) / z = i := by rw [Nat.mul_comm, Nat.mul_add_div hz0, Nat.div_eq_of_lt hj, Nat.add_zero]
      have e2 : (i * z + j) % z = j := by rw [Nat.mul_comm, Nat.mul_add_mod, Nat.mod_eq_of_lt hj]
      simp only [e1, e2]
      exact ((hq i hi).2.1.2 j y _ hy (hsome i j hi hj)).1
theorem opn_arg {t : TypeId} {τ : Ty} {Inv : List (den τ) → Prop} {a : Option Addr} {len cap : Nat} {d : DataW H} {ps : List MemPlace}
    (he : Opn encH P w base spare held t (fun xs : List (den τ) => [CV.ls τ xs]) Inv) (h : DataW.Trod encH P w base spare held t (.slice a len cap) d ps) : ∃ xs : List (den τ), Inv xs ∧ SimV w (fun _ => none) (fun _ => False) (.one (.s (.c (.ls τ xs)))) (.slice a len cap) := by
  obtain ⟨n, hn⟩ := h
  obtain ⟨xs, hi, hs⟩ := he _ _ _ hn
  refine ⟨xs, hi, ?_⟩
  exact .c (hs.2 0 _ (.slice a len cap) rfl rfl).1
theorem wf_i64 {x : Int} (h : (Lit.int .i64 x).wf = true) : -9223372036854775808 ≤ x ∧ x < 9223372036854775808 := by
  simp only [Lit.wf, decide_eq_true_eq, Bool.and_eq_true] at h
  have e1 : IntKind.i64.min = -9223372036854775808 := by decide
  have e2 : IntKind.i64.max = 9223372036854775807 := by decide
  omega
theorem mx_none : MX (fun _ => False) (fun _ => none) [] = fun _ => False := by
  funext b
  simp only [MX, Mut]
  apply propext
  constructor
  · rintro (h | ⟨k, o, l, hk, _⟩)
    · exact h
    · simp at hk
  · exact fun h => h.elim
theorem CallA.law {P : Program} {f : FuncId} {args : List SV} {v : Value} (hA : CallA P f args [] (fun r' h' => r' = mkv v ∧ h' = [])) {w : World} {vs : List Value}
    (ha : All2 (SimV w (fun _ => none) (fun _ => False)) args vs) :
    Calls P f vs.toArray w fun e w' => e = .returned v ∧ w'.os = w.os ∧ w'.tape = w.tape ∧ w'.output = w.output ∧ w.heap.size ≤ w'.heap.size ∧ ∀ b, b < w.heap.size → w'.heap[b]? = w.heap[b]? := by
  have hH : HeapRel (fun _ => False) w (fun _ => none) [] := ⟨fun k o hk => by simp at hk, fun k k' o o' l l' b e1 => by simp at e1, fun _ _ => rfl, fun b hb => fun h => h, fun b h => h.elim⟩
  refine (hA (fun _ => False) w (fun _ => none) vs hH (by rw [mx_none]; exact ha)).mono (fun e w' he => ?_)
  obtain ⟨v', r', h', m', rfl, ⟨rfl, rfl⟩, H', hsim, hfr, hmt, hid⟩ := he
  have : v' = v := by cases hsim with | c h => cases h; rfl
  subst this
  exact ⟨rfl, hfr.os, hfr.tape, hfr.output.1, hfr.size, fun b hb => hfr.keep b hb (by rintro ⟨k, o, l, hk, _⟩; simp at hk)⟩
theorem CallA.below {P : Program} {f : FuncId} {args : List SV} {v : Value} (hA : CallA P f args [] (fun r' h' => r' = mkv v ∧ h' = [])) {w : World} {vs : List Value}
    (ha : All2 (SimV w (fun _ => none) (fun _ => False)) args vs) : Calls P f vs.toArray w fun e w' => e = .returned v ∧ Below w.heap.size w w' :=
  (CallA.law hA ha).mono fun e w' ⟨h1, h2, h3, h4, h5, h6⟩ => ⟨h1, ⟨h2, h3, h4, h5, h6⟩⟩
end
theorem FnOk.below {P : Program} {S : TSpec} (h : FnOk P S) (v : S.ps.V) {r : S.β} (hF : S.F v = some r) (h0 : eOs S.ps.objs v.2 = []) (h1 : eOs S.rs.objs (S.g r).2 = []) {y : Value} (hy : packR (eSs S.rs.slots (S.g r).1) = mkv y) {w : World} {vs : List Value}
    (ha : All2 (SimV w (fun _ => none) (fun _ => False)) ((eSs S.ps.slots v.1).map (·.2)) vs) : Calls P S.f vs.toArray w fun e w' => e = .returned y ∧ Below w.heap.size w w' := by
  have := h.2 v r hF
  rw [h0, h1, hy] at this
  exact this.below ha
end Go.AM
