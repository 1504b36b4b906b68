/- Models of the program's functions, printed by gen.py. -/
import Derived.Test.YtemmdajenjhhbaaAmModel
namespace Go.CP
open Go
set_option linter.unusedVariables false
structure ApiWindow where
  Cell : Int
  Epoch : Int
  Version : Int
  From : Int
  Until : Int
  deriving Inhabited
structure ApiTenantState where
  Placed : Bool
  Shed : Bool
  Home : Int
  Standby : Int
  Next : Int
  Target : Int
  Epoch : Int
  Window : ApiWindow
  deriving Inhabited
structure ApiCellState where
  Mode : Int
  Running : Int
  Wanted : Int
  Since : Int
  deriving Inhabited
structure ApiZone where
  Region : Int
  deriving Inhabited
structure ApiCell where
  Zone : Int
  Capacity : Int
  deriving Inhabited
structure ApiTenant where
  Load : Int
  Shadow : Int
  Priority : Int
  Lag : Int
  Allowed : Int
  Group : Int
  Noisy : Bool
  deriving Inhabited
structure ApiVersion where
  Low : Int
  High : Int
  deriving Inhabited
structure ApiConfig where
  Regions : Int
  Zones : (List ApiZone)
  Cells : (List ApiCell)
  Tenants : (List ApiTenant)
  Versions : (List ApiVersion)
  Replicas : (List Int)
  Observers : (List Int)
  Blast : Int
  Lease : Int
  Bake : Int
  deriving Inhabited
structure ApiState where
  Tick : Int
  Count : Int
  Tenants : (List ApiTenantState)
  Cells : (List ApiCellState)
  Proven : Int
  Evacuating : Int
  Low : Int
  High : Int
  deriving Inhabited
structure MakeTape where
  L : (List Int)
  At : Int
  deriving Inhabited
structure ApiEntry where
  Kind : Int
  Tick : Int
  Tenant : Int
  Cell : Int
  Other : Int
  Epoch : Int
  From : Int
  Until : Int
  N : Int
  deriving Inhabited
def make_Light (p1 : (List Int)) : Option Bool :=
  (some (decide (((p1.length : Nat) : Int) ≤ 200)))
def load_count (p1 : ApiConfig) (p2 : ApiState) : Option Int :=
  (some (minE ((p1.Tenants.length : Nat) : Int) ((p2.Tenants.length : Nat) : Int)))
def load_active (p1 : ApiTenantState) : Option Bool :=
  (some (p1.Placed && (!p1.Shed)))
def load_add (p1 : (List Int)) (p2 : Int) (p3 : Int) : Option (List Int) :=
  (bif ((decide (0 ≤ p2)) && (decide (p2 < ((p1.length : Nat) : Int)))) then ((idx p1 p2).bind fun x1 =>
  ((some (p1.set (Int.toNat p2) (w64 (x1 + p3)))).bind fun x2 =>
  (some x2)))
 else (some p1))
def load_Booked_k1 (rc_load_Booked_l3 : (List Int) → Int → Option (List Int)) (x1 : Int) (x2 : (List Int)) : Option (List Int) :=
  rc_load_Booked_l3 x2 (w64 (x1 + 1))
def load_Booked_k2 (rc_load_Booked_l3 : (List Int) → Int → Option (List Int)) (x1 : Int) (x3 : ApiTenant) (x4 : ApiTenantState) (x5 : (List Int)) : Option (List Int) :=
  ((load_add x5 x4.Standby x3.Shadow).bind fun x6 =>
  (chk (decide (x6.length = x5.length))
  (((load_add x6 x4.Next x3.Shadow).bind fun x7 =>
  (chk (decide (x7.length = x6.length))
  (load_Booked_k1 rc_load_Booked_l3 x1 x7))))))
def load_Booked_l3 (p1 : ApiConfig) (p2 : ApiState) (x8 : Int) : Nat → (List Int) → Int → Option (List Int)
  | 0, _, _ => none
  | fu1 + 1, x9, x1 =>
  (bif (decide (x1 < x8)) then ((idx p1.Tenants x1).bind fun x3 =>
  ((idx p2.Tenants x1).bind fun x4 =>
  (bif (!x4.Placed) then load_Booked_k1 (load_Booked_l3 p1 p2 x8 fu1) x1 x9
 else ((load_active x4).bind fun x10 =>
  (bif x10 then ((load_add x9 x4.Home x3.Load).bind fun x11 =>
  (chk (decide (x11.length = x9.length))
  (((load_add x11 x4.Target x3.Load).bind fun x12 =>
  (chk (decide (x12.length = x11.length))
  (load_Booked_k2 (load_Booked_l3 p1 p2 x8 fu1) x1 x3 x4 x12))))))
 else load_Booked_k2 (load_Booked_l3 p1 p2 x8 fu1) x1 x3 x4 x9)))))
 else (some x9))
def load_Booked (p1 : ApiConfig) (p2 : ApiState) : Option (List Int) :=
  (chk (decide (0 ≤ ((p1.Cells.length : Nat) : Int) ∧ ((p1.Cells.length : Nat) : Int) ≤ ((p1.Cells.length : Nat) : Int) ∧ ((p1.Cells.length : Nat) : Int) ≤ 9223372036854775807 ∧ ((p1.Cells.length : Nat) : Int) * 8 ≤ 140737488355328))
  (((load_count p1 p2).bind fun x8 =>
  load_Booked_l3 p1 p2 x8 fuel (List.replicate (Int.toNat ((p1.Cells.length : Nat) : Int)) (default : Int)) 0)))
def load_Live_k1 (rc_load_Live_l2 : (List Int) → Int → Option (List Int)) (x1 : Int) (x2 : (List Int)) : Option (List Int) :=
  rc_load_Live_l2 x2 (w64 (x1 + 1))
def load_Live_l2 (p1 : ApiConfig) (p2 : ApiState) (p3 : Int) (x3 : Int) : Nat → (List Int) → Int → Option (List Int)
  | 0, _, _ => none
  | fu1 + 1, x4, x1 =>
  (bif (decide (x1 < x3)) then ((idx p2.Tenants x1).bind fun x5 =>
  (bif ((decide (x5.Window.From ≤ p3)) && (decide (p3 < x5.Window.Until))) then ((idx p1.Tenants x1).bind fun x6 =>
  ((load_add x4 x5.Window.Cell x6.Load).bind fun x7 =>
  (chk (decide (x7.length = x4.length))
  (load_Live_k1 (load_Live_l2 p1 p2 p3 x3 fu1) x1 x7))))
 else load_Live_k1 (load_Live_l2 p1 p2 p3 x3 fu1) x1 x4))
 else (some x4))
def load_Live (p1 : ApiConfig) (p2 : ApiState) (p3 : Int) : Option (List Int) :=
  (chk (decide (0 ≤ ((p1.Cells.length : Nat) : Int) ∧ ((p1.Cells.length : Nat) : Int) ≤ ((p1.Cells.length : Nat) : Int) ∧ ((p1.Cells.length : Nat) : Int) ≤ 9223372036854775807 ∧ ((p1.Cells.length : Nat) : Int) * 8 ≤ 140737488355328))
  (((load_count p1 p2).bind fun x3 =>
  load_Live_l2 p1 p2 p3 x3 fuel (List.replicate (Int.toNat ((p1.Cells.length : Nat) : Int)) (default : Int)) 0)))
def load_Free (p1 : ApiConfig) (p2 : ApiState) (p3 : Int) : Option Int :=
  (bif ((decide (p3 < 0)) || (decide (((p1.Cells.length : Nat) : Int) ≤ p3))) then (some 0)
 else ((idx p1.Cells p3).bind fun x1 =>
  ((load_Booked p1 p2).bind fun x2 =>
  ((idx x2 p3).bind fun x3 =>
  (some (w64 (x1.Capacity - x3)))))))
def load_Over_k1 (rc_load_Over_l2 : (List Int) → Int → Option (List Int)) (x1 : Int) (x2 : (List Int)) : Option (List Int) :=
  rc_load_Over_l2 x2 (w64 (x1 + 1))
def load_Over_l2 (p1 : ApiConfig) (x3 : (List Int)) : Nat → (List Int) → Int → Option (List Int)
  | 0, _, _ => none
  | fu1 + 1, x4, x1 =>
  (bif (decide (x1 < ((x3.length : Nat) : Int))) then ((idx x3 x1).bind fun x5 =>
  ((idx p1.Cells x1).bind fun x6 =>
  (bif (decide (x6.Capacity < x5)) then (chk (decide ((x4.length + 1) * 8 ≤ room))
  (load_Over_k1 (load_Over_l2 p1 x3 fu1) x1 (x4 ++ [x1])))
 else load_Over_k1 (load_Over_l2 p1 x3 fu1) x1 x4)))
 else (some x4))
def load_Over (p1 : ApiConfig) (p2 : ApiState) : Option (List Int) :=
  ((load_Booked p1 p2).bind fun x3 =>
  load_Over_l2 p1 x3 fuel ([] : List Int) 0)
def topo_within (p1 : Int) (p2 : Int) (p3 : Int) : Option Bool :=
  (some ((decide (p2 ≤ p1)) && (decide (p1 ≤ p3))))
def topo_ZoneOf (p1 : ApiConfig) (p2 : Int) : Option Int :=
  ((topo_within p2 0 (w64 (((p1.Cells.length : Nat) : Int) - 1))).bind fun x1 =>
  (bif (!x1) then (some (-1))
 else ((idx p1.Cells p2).bind fun x2 =>
  (some x2.Zone))))
def topo_regionOfZone (p1 : ApiConfig) (p2 : Int) : Option Int :=
  ((topo_within p2 0 (w64 (((p1.Zones.length : Nat) : Int) - 1))).bind fun x1 =>
  (bif (!x1) then (some (-1))
 else ((idx p1.Zones p2).bind fun x2 =>
  (some x2.Region))))
def topo_RegionOf (p1 : ApiConfig) (p2 : Int) : Option Int :=
  ((topo_ZoneOf p1 p2).bind fun x1 =>
  ((topo_regionOfZone p1 x1).bind fun x2 =>
  (some x2)))
def load_homeIn (p1 : ApiConfig) (p2 : ApiTenantState) (p3 : Int) : Option Bool :=
  ((load_active p2).bind fun x1 =>
  (((bif (x1 && (decide (0 ≤ p3))) then topo_RegionOf p1 p2.Home else some default)).bind fun x2 =>
  (some ((x1 && (decide (0 ≤ p3))) && (x2 == p3)))))
def tenant_Apart (p1 : ApiConfig) (p2 : Int) (p3 : Int) : Option Bool :=
  ((topo_RegionOf p1 p2).bind fun x1 =>
  ((topo_RegionOf p1 p3).bind fun x2 =>
  (some (((decide (0 ≤ x1)) && (decide (0 ≤ x2))) && (x1 != x2)))))
def load_Extra_k1 (rc_load_Extra_l2 : (List Int) → Int → Option (List Int)) (x1 : Int) (x2 : (List Int)) : Option (List Int) :=
  rc_load_Extra_l2 x2 (w64 (x1 + 1))
def load_Extra_l2 (p1 : ApiConfig) (p2 : ApiState) (p3 : Int) (x3 : Int) : Nat → (List Int) → Int → Option (List Int)
  | 0, _, _ => none
  | fu1 + 1, x4, x1 =>
  (bif (decide (x1 < x3)) then ((idx p1.Tenants x1).bind fun x5 =>
  ((idx p2.Tenants x1).bind fun x6 =>
  ((load_homeIn p1 x6 p3).bind fun x7 =>
  (((bif x7 then tenant_Apart p1 x6.Home x6.Standby else some default)).bind fun x8 =>
  (bif (x7 && x8) then ((load_add x4 x6.Standby (w64 (x5.Load - x5.Shadow))).bind fun x9 =>
  (chk (decide (x9.length = x4.length))
  (load_Extra_k1 (load_Extra_l2 p1 p2 p3 x3 fu1) x1 x9)))
 else load_Extra_k1 (load_Extra_l2 p1 p2 p3 x3 fu1) x1 x4)))))
 else (some x4))
def load_Extra (p1 : ApiConfig) (p2 : ApiState) (p3 : Int) : Option (List Int) :=
  (chk (decide (0 ≤ ((p1.Cells.length : Nat) : Int) ∧ ((p1.Cells.length : Nat) : Int) ≤ ((p1.Cells.length : Nat) : Int) ∧ ((p1.Cells.length : Nat) : Int) ≤ 9223372036854775807 ∧ ((p1.Cells.length : Nat) : Int) * 8 ≤ 140737488355328))
  (((load_count p1 p2).bind fun x3 =>
  load_Extra_l2 p1 p2 p3 x3 fuel (List.replicate (Int.toNat ((p1.Cells.length : Nat) : Int)) (default : Int)) 0)))
def load_ready (p1 : ApiConfig) (p2 : ApiState) (p3 : ApiTenantState) (p4 : Int) : Option Bool :=
  ((topo_RegionOf p1 p3.Standby).bind fun x1 =>
  (bif (((decide (x1 < 0)) || (x1 == p4)) || (decide (((p2.Cells.length : Nat) : Int) ≤ p3.Standby))) then (some false)
 else ((idx p2.Cells p3.Standby).bind fun x2 =>
  (chk (!((x2.Mode == 1) && (x2.Running == x2.Wanted)) || decide ((0 : Int) ≤ (IntKind.u64.wrap x1)))
  ((some (((x2.Mode == 1) && (x2.Running == x2.Wanted)) && ((andK .i64 (shrK .i64 p2.Evacuating (IntKind.u64.wrap x1)) 1) == 0))))))))
def load_Headroom_l1 (p1 : ApiConfig) (p2 : ApiState) (p3 : Int) (x1 : Int) : Nat → Int → Option Bool
  | 0, _ => none
  | fu1 + 1, x2 =>
  (bif (decide (x2 < x1)) then ((idx p2.Tenants x2).bind fun x3 =>
  ((load_homeIn p1 x3 p3).bind fun x4 =>
  (((bif x4 then load_ready p1 p2 x3 p3 else some default)).bind fun x5 =>
  (bif (x4 && (!x5)) then (some false)
 else (load_Headroom_l1 p1 p2 p3 x1 fu1) (w64 (x2 + 1))))))
 else (some true))
def load_Headroom_l2 (p1 : ApiConfig) (p2 : ApiState) (p3 : Int) (x6 : (List Int)) (x7 : (List Int)) : Nat → Int → Option Bool
  | 0, _ => none
  | fu2 + 1, x8 =>
  (bif (decide (x8 < ((p1.Cells.length : Nat) : Int))) then ((idx p1.Cells x8).bind fun x9 =>
  ((topo_RegionOf p1 x8).bind fun x10 =>
  ((idxG (x10 != p3) x6 x8).bind fun x11 =>
  ((idxG (x10 != p3) x7 x8).bind fun x12 =>
  (bif ((x10 != p3) && (decide (x9.Capacity < (w64 (x11 + x12))))) then (some false)
 else (load_Headroom_l2 p1 p2 p3 x6 x7 fu2) (w64 (x8 + 1)))))))
 else ((load_count p1 p2).bind fun x1 =>
  load_Headroom_l1 p1 p2 p3 x1 fuel 0))
def load_Headroom (p1 : ApiConfig) (p2 : ApiState) (p3 : Int) : Option Bool :=
  (bif ((decide (p3 < 0)) || (decide (p1.Regions ≤ p3))) then (some false)
 else ((load_Booked p1 p2).bind fun x6 =>
  ((load_Extra p1 p2 p3).bind fun x7 =>
  load_Headroom_l2 p1 p2 p3 x6 x7 fuel 0)))
def law11_awake : Option Bool :=
  ((load_Booked { Regions := 2, Zones := [{ Region := 0 : ApiZone }, { Region := 1 : ApiZone }], Cells := [{ Zone := 0, Capacity := 9 : ApiCell }, { Zone := 1, Capacity := 3 : ApiCell }], Tenants := [{ Load := 5, Shadow := 2, Priority := 0, Lag := 0, Allowed := 3, Group := 0, Noisy := false : ApiTenant }], Versions := [{ Low := 0, High := 0 : ApiVersion }], Replicas := [0], Observers := [0], Blast := 1, Lease := 5, Bake := 0 : ApiConfig } { Tick := 0, Count := 0, Tenants := [{ Placed := true, Shed := false, Home := 0, Standby := 1, Next := (-1), Target := (-1), Epoch := 0, Window := { Cell := 0, Epoch := 0, Version := 0, From := 2, Until := 4 : ApiWindow } : ApiTenantState }], Cells := [{ Mode := 1, Running := 0, Wanted := 0, Since := 0 : ApiCellState }, { Mode := 1, Running := 0, Wanted := 0, Since := 0 : ApiCellState }], Proven := 1, Evacuating := 0, Low := 0, High := 0 : ApiState }).bind fun x1 =>
  ((load_Live { Regions := 2, Zones := [{ Region := 0 : ApiZone }, { Region := 1 : ApiZone }], Cells := [{ Zone := 0, Capacity := 9 : ApiCell }, { Zone := 1, Capacity := 3 : ApiCell }], Tenants := [{ Load := 5, Shadow := 2, Priority := 0, Lag := 0, Allowed := 3, Group := 0, Noisy := false : ApiTenant }], Versions := [{ Low := 0, High := 0 : ApiVersion }], Replicas := [0], Observers := [0], Blast := 1, Lease := 5, Bake := 0 : ApiConfig } { Tick := 0, Count := 0, Tenants := [{ Placed := true, Shed := false, Home := 0, Standby := 1, Next := (-1), Target := (-1), Epoch := 0, Window := { Cell := 0, Epoch := 0, Version := 0, From := 2, Until := 4 : ApiWindow } : ApiTenantState }], Cells := [{ Mode := 1, Running := 0, Wanted := 0, Since := 0 : ApiCellState }, { Mode := 1, Running := 0, Wanted := 0, Since := 0 : ApiCellState }], Proven := 1, Evacuating := 0, Low := 0, High := 0 : ApiState } 2).bind fun x2 =>
  ((idxG (((x1.length : Nat) : Int) == 2) x1 0).bind fun x3 =>
  ((idxG ((((x1.length : Nat) : Int) == 2) && (x3 == 5)) x1 1).bind fun x4 =>
  (((bif (((((x1.length : Nat) : Int) == 2) && (x3 == 5)) && (x4 == 2)) then load_Free { Regions := 2, Zones := [{ Region := 0 : ApiZone }, { Region := 1 : ApiZone }], Cells := [{ Zone := 0, Capacity := 9 : ApiCell }, { Zone := 1, Capacity := 3 : ApiCell }], Tenants := [{ Load := 5, Shadow := 2, Priority := 0, Lag := 0, Allowed := 3, Group := 0, Noisy := false : ApiTenant }], Versions := [{ Low := 0, High := 0 : ApiVersion }], Replicas := [0], Observers := [0], Blast := 1, Lease := 5, Bake := 0 : ApiConfig } { Tick := 0, Count := 0, Tenants := [{ Placed := true, Shed := false, Home := 0, Standby := 1, Next := (-1), Target := (-1), Epoch := 0, Window := { Cell := 0, Epoch := 0, Version := 0, From := 2, Until := 4 : ApiWindow } : ApiTenantState }], Cells := [{ Mode := 1, Running := 0, Wanted := 0, Since := 0 : ApiCellState }, { Mode := 1, Running := 0, Wanted := 0, Since := 0 : ApiCellState }], Proven := 1, Evacuating := 0, Low := 0, High := 0 : ApiState } 0 else some default)).bind fun x5 =>
  (((bif ((((((x1.length : Nat) : Int) == 2) && (x3 == 5)) && (x4 == 2)) && (x5 == 4)) then load_Over { Regions := 2, Zones := [{ Region := 0 : ApiZone }, { Region := 1 : ApiZone }], Cells := [{ Zone := 0, Capacity := 9 : ApiCell }, { Zone := 1, Capacity := 3 : ApiCell }], Tenants := [{ Load := 5, Shadow := 2, Priority := 0, Lag := 0, Allowed := 3, Group := 0, Noisy := false : ApiTenant }], Versions := [{ Low := 0, High := 0 : ApiVersion }], Replicas := [0], Observers := [0], Blast := 1, Lease := 5, Bake := 0 : ApiConfig } { Tick := 0, Count := 0, Tenants := [{ Placed := true, Shed := false, Home := 0, Standby := 1, Next := (-1), Target := (-1), Epoch := 0, Window := { Cell := 0, Epoch := 0, Version := 0, From := 2, Until := 4 : ApiWindow } : ApiTenantState }], Cells := [{ Mode := 1, Running := 0, Wanted := 0, Since := 0 : ApiCellState }, { Mode := 1, Running := 0, Wanted := 0, Since := 0 : ApiCellState }], Proven := 1, Evacuating := 0, Low := 0, High := 0 : ApiState } else some default)).bind fun x6 =>
  (((bif (((((((x1.length : Nat) : Int) == 2) && (x3 == 5)) && (x4 == 2)) && (x5 == 4)) && (((x6.length : Nat) : Int) == 0)) then load_Headroom { Regions := 2, Zones := [{ Region := 0 : ApiZone }, { Region := 1 : ApiZone }], Cells := [{ Zone := 0, Capacity := 9 : ApiCell }, { Zone := 1, Capacity := 3 : ApiCell }], Tenants := [{ Load := 5, Shadow := 2, Priority := 0, Lag := 0, Allowed := 3, Group := 0, Noisy := false : ApiTenant }], Versions := [{ Low := 0, High := 0 : ApiVersion }], Replicas := [0], Observers := [0], Blast := 1, Lease := 5, Bake := 0 : ApiConfig } { Tick := 0, Count := 0, Tenants := [{ Placed := true, Shed := false, Home := 0, Standby := 1, Next := (-1), Target := (-1), Epoch := 0, Window := { Cell := 0, Epoch := 0, Version := 0, From := 2, Until := 4 : ApiWindow } : ApiTenantState }], Cells := [{ Mode := 1, Running := 0, Wanted := 0, Since := 0 : ApiCellState }, { Mode := 1, Running := 0, Wanted := 0, Since := 0 : ApiCellState }], Proven := 1, Evacuating := 0, Low := 0, High := 0 : ApiState } 0 else some default)).bind fun x7 =>
  (((bif ((((((((x1.length : Nat) : Int) == 2) && (x3 == 5)) && (x4 == 2)) && (x5 == 4)) && (((x6.length : Nat) : Int) == 0)) && (!x7)) then load_Headroom { Regions := 2, Zones := [{ Region := 0 : ApiZone }, { Region := 1 : ApiZone }], Cells := [{ Zone := 0, Capacity := 9 : ApiCell }, { Zone := 1, Capacity := 3 : ApiCell }], Tenants := [{ Load := 5, Shadow := 2, Priority := 0, Lag := 0, Allowed := 3, Group := 0, Noisy := false : ApiTenant }], Versions := [{ Low := 0, High := 0 : ApiVersion }], Replicas := [0], Observers := [0], Blast := 1, Lease := 5, Bake := 0 : ApiConfig } { Tick := 0, Count := 0, Tenants := [{ Placed := true, Shed := false, Home := 0, Standby := 1, Next := (-1), Target := (-1), Epoch := 0, Window := { Cell := 0, Epoch := 0, Version := 0, From := 2, Until := 4 : ApiWindow } : ApiTenantState }], Cells := [{ Mode := 1, Running := 0, Wanted := 0, Since := 0 : ApiCellState }, { Mode := 1, Running := 0, Wanted := 0, Since := 0 : ApiCellState }], Proven := 1, Evacuating := 0, Low := 0, High := 0 : ApiState } 1 else some default)).bind fun x8 =>
  ((idxG ((((((((((x1.length : Nat) : Int) == 2) && (x3 == 5)) && (x4 == 2)) && (x5 == 4)) && (((x6.length : Nat) : Int) == 0)) && (!x7)) && x8) && (((x2.length : Nat) : Int) == 2)) x2 0).bind fun x9 =>
  (some (((((((((((x1.length : Nat) : Int) == 2) && (x3 == 5)) && (x4 == 2)) && (x5 == 4)) && (((x6.length : Nat) : Int) == 0)) && (!x7)) && x8) && (((x2.length : Nat) : Int) == 2)) && (x9 == 5))))))))))))
def make_New (p1 : (List Int)) : Option MakeTape :=
  (some { L := p1, At := 0 : MakeTape })
def make_Mod (p1 : Int) (p2 : Int) : Option Int :=
  (chk (decide (p2 ≠ (0 : Int)))
  ((chk (decide (p2 ≠ (0 : Int)))
  ((some (Int.tmod (w64 ((Int.tmod p1 p2) + p2)) p2))))))
def make_Tape_Next (p1 : MakeTape) (p2 : Int) : Option (Int × MakeTape) :=
  (bif (((p1.L.length : Nat) : Int) == 0) then (some (0, p1))
 else (chk (decide (((p1.L.length : Nat) : Int) ≠ (0 : Int)))
  (((idx p1.L (Int.tmod p1.At ((p1.L.length : Nat) : Int))).bind fun x1 =>
  (chk (decide (((p1.L.length : Nat) : Int) ≠ (0 : Int)))
  (((make_Mod x1 1073741824).bind fun x2 =>
  ((make_Mod (w64 (x2 + (w64 ((w64 (Int.tdiv p1.At ((p1.L.length : Nat) : Int))) * 7)))) p2).bind fun x3 =>
  (some (x3, { p1 with At := (w64 (p1.At + 1)) }))))))))))
def make_Between (p1 : Int) (p2 : Int) (p3 : Int) : Option Int :=
  ((make_Mod p1 (w64 ((w64 (p3 - p2)) + 1))).bind fun x1 =>
  (some (w64 (p2 + x1))))
def make_Tape_Range (p1 : MakeTape) (p2 : Int) (p3 : Int) : Option (Int × MakeTape) :=
  ((make_Tape_Next p1 (w64 ((w64 (p3 - p2)) + 1))).bind fun x1 =>
  (some ((w64 (p2 + x1.1)), x1.2)))
def make_Tape_Yes (p1 : MakeTape) (p2 : Int) : Option (Bool × MakeTape) :=
  ((make_Tape_Next p1 p2).bind fun x1 =>
  (some ((x1.1 == 0), x1.2)))
def make_Config_k1 (rc_make_Config_l5 : (List Int) → Int → (List ApiTenant) → Int → Option ApiConfig) (x1 : (List ApiTenant)) (x2 : Int) (x3 : (Int × MakeTape)) (x4 : (Int × MakeTape)) (x5 : (Int × MakeTape)) (x6 : (Int × MakeTape)) (x7 : (Int × MakeTape)) (x8 : (Bool × MakeTape)) (x9 : (List Int)) (x10 : Int) (x11 : Int) : Option ApiConfig :=
  (chk (decide ((x1.length + 1) * 56 ≤ room))
  (rc_make_Config_l5 x9 x10 (x1 ++ [{ Load := x3.1, Shadow := x4.1, Priority := x5.1, Lag := x6.1, Allowed := x11, Group := x7.1, Noisy := x8.1 : ApiTenant }]) (w64 (x2 - 1))))
def make_Config_l2 (x12 : Int) (x13 : (Int × MakeTape)) (x14 : (Int × MakeTape)) (x15 : (Int × MakeTape)) (x16 : (List ApiZone)) (x17 : (List ApiCell)) (x1 : (List ApiTenant)) (x18 : (List ApiVersion)) (x19 : (List Int)) : Nat → (List Int) → Int → (List Int) → Int → Option ApiConfig
  | 0, _, _, _, _ => none
  | fu1 + 1, x20, x21, x22, x23 =>
  (bif (decide (0 < x23)) then ((make_Tape_Next { L := x20, At := x21 : MakeTape } ((x16.length : Nat) : Int)).bind fun x24 =>
  (chk (decide ((x22.length + 1) * 8 ≤ room))
  ((make_Config_l2 x12 x13 x14 x15 x16 x17 x1 x18 x19 fu1) x24.2.L x24.2.At (x22 ++ [x24.1]) (w64 (x23 - 1)))))
 else (some { Regions := x12, Zones := x16, Cells := x17, Tenants := x1, Versions := x18, Replicas := x19, Observers := x22, Blast := x13.1, Lease := x14.1, Bake := x15.1 : ApiConfig }))
def make_Config_l3 (x12 : Int) (x13 : (Int × MakeTape)) (x14 : (Int × MakeTape)) (x15 : (Int × MakeTape)) (x16 : (List ApiZone)) (x17 : (List ApiCell)) (x1 : (List ApiTenant)) (x18 : (List ApiVersion)) : Nat → (List Int) → Int → (List Int) → Int → Option ApiConfig
  | 0, _, _, _, _ => none
  | fu2 + 1, x25, x26, x19, x27 =>
  (bif (decide (0 < x27)) then ((make_Tape_Next { L := x25, At := x26 : MakeTape } ((x16.length : Nat) : Int)).bind fun x28 =>
  (chk (decide ((x19.length + 1) * 8 ≤ room))
  ((make_Config_l3 x12 x13 x14 x15 x16 x17 x1 x18 fu2) x28.2.L x28.2.At (x19 ++ [x28.1]) (w64 (x27 - 1)))))
 else ((make_Tape_Range { L := x25, At := x26 : MakeTape } 1 4).bind fun x29 =>
  make_Config_l2 x12 x13 x14 x15 x16 x17 x1 x18 x19 fuel x29.2.L x29.2.At ([] : List Int) x29.1))
def make_Config_l4 (x12 : Int) (x13 : (Int × MakeTape)) (x14 : (Int × MakeTape)) (x15 : (Int × MakeTape)) (x16 : (List ApiZone)) (x17 : (List ApiCell)) (x1 : (List ApiTenant)) : Nat → (List Int) → Int → (List ApiVersion) → Int → Option ApiConfig
  | 0, _, _, _, _ => none
  | fu3 + 1, x30, x31, x18, x32 =>
  (bif (decide (0 < x32)) then ((make_Tape_Next { L := x30, At := x31 : MakeTape } 2).bind fun x33 =>
  ((make_Tape_Next x33.2 3).bind fun x34 =>
  (chk (decide ((x18.length + 1) * 16 ≤ room))
  ((make_Config_l4 x12 x13 x14 x15 x16 x17 x1 fu3) x34.2.L x34.2.At (x18 ++ [{ Low := x33.1, High := (w64 (x33.1 + x34.1)) : ApiVersion }]) (w64 (x32 - 1))))))
 else ((make_Tape_Next { L := x30, At := x31 : MakeTape } 2).bind fun x35 =>
  make_Config_l3 x12 x13 x14 x15 x16 x17 x1 x18 fuel x35.2.L x35.2.At ([] : List Int) (w64 ((w64 (2 * x35.1)) + 1))))
def make_Config_l5 (x12 : Int) (x13 : (Int × MakeTape)) (x14 : (Int × MakeTape)) (x15 : (Int × MakeTape)) (x16 : (List ApiZone)) (x17 : (List ApiCell)) : Nat → (List Int) → Int → (List ApiTenant) → Int → Option ApiConfig
  | 0, _, _, _, _ => none
  | fu4 + 1, x36, x37, x1, x2 =>
  (bif (decide (0 < x2)) then ((make_Tape_Range { L := x36, At := x37 : MakeTape } 1 12).bind fun x3 =>
  ((make_Tape_Next x3.2 (w64 (x3.1 + 1))).bind fun x4 =>
  ((make_Tape_Next x4.2 4).bind fun x5 =>
  ((make_Tape_Range x5.2 (-1) 3).bind fun x6 =>
  (chk (decide ((0 : Int) ≤ (IntKind.u64.wrap x12)))
  (((make_Tape_Next x6.2 3).bind fun x7 =>
  ((make_Tape_Yes x7.2 4).bind fun x8 =>
  ((make_Tape_Yes x8.2 4).bind fun x38 =>
  (bif x38.1 then (chk (decide ((0 : Int) ≤ (IntKind.u64.wrap x12)))
  (((make_Tape_Range x38.2 1 (w64 ((shlK .i64 1 (IntKind.u64.wrap x12)) - 1))).bind fun x39 =>
  make_Config_k1 (make_Config_l5 x12 x13 x14 x15 x16 x17 fu4) x1 x2 x3 x4 x5 x6 x7 x8 x39.2.L x39.2.At x39.1)))
 else make_Config_k1 (make_Config_l5 x12 x13 x14 x15 x16 x17 fu4) x1 x2 x3 x4 x5 x6 x7 x8 x38.2.L x38.2.At (w64 ((shlK .i64 1 (IntKind.u64.wrap x12)) - 1))))))))))))
 else ((make_Tape_Next { L := x36, At := x37 : MakeTape } 3).bind fun x40 =>
  ((make_Tape_Next x40.2 3).bind fun x41 =>
  make_Config_l4 x12 x13 x14 x15 x16 x17 x1 fuel x41.2.L x41.2.At [{ Low := 0, High := x40.1 : ApiVersion }] x41.1)))
def make_Config_l6 (x12 : Int) (x13 : (Int × MakeTape)) (x14 : (Int × MakeTape)) (x15 : (Int × MakeTape)) (x16 : (List ApiZone)) : Nat → (List Int) → Int → (List ApiCell) → Int → Option ApiConfig
  | 0, _, _, _, _ => none
  | fu5 + 1, x42, x43, x17, x44 =>
  (((bif (!(decide (x44 < ((x16.length : Nat) : Int)))) then make_Tape_Yes { L := x42, At := x43 : MakeTape } 2 else some (default, { L := x42, At := x43 : MakeTape }))).bind fun x45 =>
  (bif ((decide (x44 < ((x16.length : Nat) : Int))) || (x45.1 && (decide (x44 < 7)))) then (chk (decide (((x16.length : Nat) : Int) ≠ (0 : Int)))
  (((make_Tape_Range x45.2 1 4).bind fun x46 =>
  (chk (decide ((x17.length + 1) * 16 ≤ room))
  ((make_Config_l6 x12 x13 x14 x15 x16 fu5) x46.2.L x46.2.At (x17 ++ [{ Zone := (Int.tmod x44 ((x16.length : Nat) : Int)), Capacity := (w64 (x46.1 * 10)) : ApiCell }]) (w64 (x44 + 1)))))))
 else ((make_Tape_Next x45.2 6).bind fun x47 =>
  make_Config_l5 x12 x13 x14 x15 x16 x17 fuel x47.2.L x47.2.At ([] : List ApiTenant) x47.1)))
def make_Config_l7 (x12 : Int) (x13 : (Int × MakeTape)) (x14 : (Int × MakeTape)) (x15 : (Int × MakeTape)) : Nat → (List Int) → Int → (List ApiZone) → Int → Option ApiConfig
  | 0, _, _, _, _ => none
  | fu6 + 1, x48, x49, x16, x50 =>
  (((bif (!(decide (x50 < x12))) then make_Tape_Yes { L := x48, At := x49 : MakeTape } 3 else some (default, { L := x48, At := x49 : MakeTape }))).bind fun x51 =>
  (bif ((decide (x50 < x12)) || (x51.1 && (decide (x50 < 6)))) then (chk (decide (x12 ≠ (0 : Int)))
  ((chk (decide ((x16.length + 1) * 8 ≤ room))
  ((make_Config_l7 x12 x13 x14 x15 fu6) x51.2.L x51.2.At (x16 ++ [{ Region := (Int.tmod x50 x12) : ApiZone }]) (w64 (x50 + 1))))))
 else make_Config_l6 x12 x13 x14 x15 x16 fuel x51.2.L x51.2.At ([] : List ApiCell) 0))
def make_Config (p1 : (List Int)) : Option ApiConfig :=
  ((make_New p1).bind fun x52 =>
  ((make_Tape_Next x52 5).bind fun x53 =>
  ((make_Between (w64 (x53.1 + 1)) 1 3).bind fun x12 =>
  ((make_Tape_Range x53.2 1 3).bind fun x13 =>
  ((make_Tape_Range x13.2 2 12).bind fun x14 =>
  ((make_Tape_Next x14.2 9).bind fun x15 =>
  make_Config_l7 x12 x13 x14 x15 fuel x15.2.L x15.2.At ([] : List ApiZone) 0))))))
def ref12_New_l1 (p1 : ApiConfig) (x1 : (List ApiTenantState)) : Nat → (List ApiCellState) → Int → Option ApiState
  | 0, _, _ => none
  | fu1 + 1, x2, x3 =>
  (bif (decide (x3 < ((p1.Cells.length : Nat) : Int))) then (chk (decide ((x2.length + 1) * 32 ≤ room))
  ((ref12_New_l1 p1 x1 fu1) (x2 ++ [{ Mode := 1, Running := 0, Wanted := 0, Since := 0 : ApiCellState }]) (w64 (x3 + 1))))
 else (some { Tick := 0, Count := 0, Tenants := x1, Cells := x2, Proven := 1, Evacuating := 0, Low := 0, High := 0 : ApiState }))
def ref12_New_l2 (p1 : ApiConfig) : Nat → (List ApiTenantState) → Int → Option ApiState
  | 0, _, _ => none
  | fu2 + 1, x1, x4 =>
  (bif (decide (x4 < ((p1.Tenants.length : Nat) : Int))) then (chk (decide ((x1.length + 1) * 88 ≤ room))
  ((ref12_New_l2 p1 fu2) (x1 ++ [{ Placed := false, Shed := false, Home := (-1), Standby := (-1), Next := (-1), Target := (-1), Epoch := 0, Window := { Cell := (-1), Epoch := 0, Version := 0, From := 0, Until := 0 : ApiWindow } : ApiTenantState }]) (w64 (x4 + 1))))
 else ref12_New_l1 p1 x1 fuel ([] : List ApiCellState) 0)
def ref12_New (p1 : ApiConfig) : Option ApiState :=
  ref12_New_l2 p1 fuel ([] : List ApiTenantState) 0
def make_Tape_More (p1 : MakeTape) : Option (Bool × MakeTape) :=
  (some ((decide (p1.At < ((p1.L.length : Nat) : Int))), p1))
def make_none (p1 : Int) (p2 : Int) : Option ApiEntry :=
  (some { Kind := p1, Tick := p2, Tenant := (-1), Cell := (-1), Other := (-1), Epoch := 0, From := 0, Until := 0, N := 0 : ApiEntry })
def ref04_Has (p1 : Int) (p2 : Int) : Option Bool :=
  (chk (!((decide (0 ≤ p2)) && (decide (p2 < 62))) || decide ((0 : Int) ≤ (IntKind.u64.wrap p2)))
  ((some (((decide (0 ≤ p2)) && (decide (p2 < 62))) && ((Int.tmod (shrK .i64 p1 (IntKind.u64.wrap p2)) 2) != 0)))))
def make_platform_k1 (x1 : ApiEntry) (x2 : (List Int)) (x3 : Int) (x4 : Int) (x5 : Int) (x6 : Int) (x7 : Int) (x8 : Int) : Option (ApiEntry × MakeTape) :=
  (some ({ Kind := x4, Tick := x5, Tenant := x1.Tenant, Cell := x6, Other := x7, Epoch := x1.Epoch, From := x1.From, Until := x1.Until, N := x8 : ApiEntry }, { L := x2, At := x3 : MakeTape }))
def make_platform_k2 (p2 : ApiConfig) (p3 : ApiState) (p4 : Int) (x1 : ApiEntry) (x9 : (Int × MakeTape)) (x10 : ApiCellState) (x11 : (Int × MakeTape)) (x12 : Bool) : Option (ApiEntry × MakeTape) :=
  (bif x12 then ((make_Tape_Next x11.2 p2.Lease).bind fun x13 =>
  make_platform_k1 x1 x13.2.L x13.2.At 11 (w64 (p4 + x13.1)) x9.1 x1.Other x10.Wanted)
 else (bif (x11.1 == 8) then ((make_Tape_Next x11.2 (w64 (p2.Bake + 1))).bind fun x14 =>
  make_platform_k1 x1 x14.2.L x14.2.At 12 (w64 (p4 + x14.1)) x1.Cell x1.Other x10.Running)
 else (bif (x11.1 == 9) then ((make_Tape_Next x11.2 p2.Regions).bind fun x15 =>
  ((ref04_Has p3.Evacuating x15.1).bind fun x16 =>
  (bif x16 then make_platform_k1 x1 x15.2.L x15.2.At 13 x1.Tick x1.Cell x15.1 0
 else make_platform_k1 x1 x15.2.L x15.2.At 13 x1.Tick x1.Cell x15.1 1)))
 else (bif (x11.1 == 10) then (bif (decide (p3.Low < p3.High)) then make_platform_k1 x1 x11.2.L x11.2.At 15 x1.Tick x1.Cell x1.Other x1.N
 else make_platform_k1 x1 x11.2.L x11.2.At 14 x1.Tick x1.Cell x1.Other x1.N)
 else ((make_Tape_Next x11.2 100).bind fun x17 =>
  make_platform_k1 x1 x17.2.L x17.2.At x1.Kind x1.Tick x1.Cell x1.Other x17.1)))))
def make_platform_k3 (p2 : ApiConfig) (p3 : ApiState) (p4 : Int) (x1 : ApiEntry) (x9 : (Int × MakeTape)) (x10 : ApiCellState) (x11 : (Int × MakeTape)) (x18 : Bool) : Option (ApiEntry × MakeTape) :=
  (bif x18 then ((make_Tape_Next x11.2 ((p2.Versions.length : Nat) : Int)).bind fun x19 =>
  make_platform_k1 x1 x19.2.L x19.2.At 10 x1.Tick x9.1 x1.Other x19.1)
 else (bif (x11.1 == 5) then make_platform_k2 p2 p3 p4 x1 x9 x10 x11 (x11.1 == 5)
 else (bif (x11.1 == 6) then make_platform_k2 p2 p3 p4 x1 x9 x10 x11 (x11.1 == 6)
 else make_platform_k2 p2 p3 p4 x1 x9 x10 x11 (x11.1 == 7))))
def make_platform (p1 : MakeTape) (p2 : ApiConfig) (p3 : ApiState) (p4 : Int) : Option (ApiEntry × MakeTape) :=
  ((make_none 16 p4).bind fun x1 =>
  ((make_Tape_Next p1 ((p2.Cells.length : Nat) : Int)).bind fun x9 =>
  ((idx p3.Cells x9.1).bind fun x10 =>
  ((make_Tape_Next x9.2 12).bind fun x11 =>
  (bif (x11.1 == 0) then ((make_Tape_Range x11.2 1 3).bind fun x20 =>
  make_platform_k1 x1 x20.2.L x20.2.At 9 x1.Tick x9.1 x1.Other x20.1)
 else (bif (x11.1 == 1) then make_platform_k1 x1 x11.2.L x11.2.At 9 x1.Tick x9.1 x1.Other 1
 else (bif (x11.1 == 2) then make_platform_k3 p2 p3 p4 x1 x9 x10 x11 (x11.1 == 2)
 else (bif (x11.1 == 3) then make_platform_k3 p2 p3 p4 x1 x9 x10 x11 (x11.1 == 3)
 else make_platform_k3 p2 p3 p4 x1 x9 x10 x11 (x11.1 == 4)))))))))
def ref04_ZoneOf (p1 : ApiConfig) (p2 : Int) : Option Int :=
  (bif ((decide (p2 < 0)) || (decide (((p1.Cells.length : Nat) : Int) ≤ p2))) then (some (-1))
 else ((idx p1.Cells p2).bind fun x1 =>
  (some x1.Zone)))
def ref04_RegionOf (p1 : ApiConfig) (p2 : Int) : Option Int :=
  ((ref04_ZoneOf p1 p2).bind fun x1 =>
  (bif (decide (x1 < 0)) then (some (-1))
 else ((idx p1.Zones x1).bind fun x2 =>
  (some x2.Region))))
def ref05_May (p1 : ApiConfig) (p2 : Int) (p3 : Int) : Option Bool :=
  ((idxG ((decide (0 ≤ p2)) && (decide (p2 < ((p1.Tenants.length : Nat) : Int)))) p1.Tenants p2).bind fun x1 =>
  (((bif ((decide (0 ≤ p2)) && (decide (p2 < ((p1.Tenants.length : Nat) : Int)))) then ref04_RegionOf p1 p3 else some default)).bind fun x2 =>
  (((bif ((decide (0 ≤ p2)) && (decide (p2 < ((p1.Tenants.length : Nat) : Int)))) then ref04_Has x1.Allowed x2 else some default)).bind fun x3 =>
  (some (((decide (0 ≤ p2)) && (decide (p2 < ((p1.Tenants.length : Nat) : Int)))) && x3)))))
def ref05_Homes_k1 (rc_ref05_Homes_l2 : (List Int) → Int → Option (List Int)) (x1 : Int) (x2 : (List Int)) : Option (List Int) :=
  rc_ref05_Homes_l2 x2 (w64 (x1 + 1))
def ref05_Homes_l2 (p1 : ApiConfig) (p2 : Int) : Nat → (List Int) → Int → Option (List Int)
  | 0, _, _ => none
  | fu1 + 1, x3, x1 =>
  (bif (decide (x1 < ((p1.Cells.length : Nat) : Int))) then ((ref05_May p1 p2 x1).bind fun x4 =>
  (bif x4 then (chk (decide ((x3.length + 1) * 8 ≤ room))
  (ref05_Homes_k1 (ref05_Homes_l2 p1 p2 fu1) x1 (x3 ++ [x1])))
 else ref05_Homes_k1 (ref05_Homes_l2 p1 p2 fu1) x1 x3))
 else (some x3))
def ref05_Homes (p1 : ApiConfig) (p2 : Int) : Option (List Int) :=
  ref05_Homes_l2 p1 p2 fuel ([] : List Int) 0
def make_pick (p1 : MakeTape) (p2 : (List Int)) : Option (Int × MakeTape) :=
  (bif (((p2.length : Nat) : Int) == 0) then (some ((-1), p1))
 else ((make_Tape_Next p1 ((p2.length : Nat) : Int)).bind fun x1 =>
  ((idx p2 x1.1).bind fun x2 =>
  (some (x2, x1.2)))))
def ref05_Apart (p1 : ApiConfig) (p2 : Int) (p3 : Int) : Option Bool :=
  ((ref04_RegionOf p1 p2).bind fun x1 =>
  ((ref04_RegionOf p1 p3).bind fun x2 =>
  (some (((decide (0 ≤ x1)) && (decide (0 ≤ x2))) && (x1 != x2)))))
def ref05_Standbys_k1 (rc_ref05_Standbys_l2 : (List Int) → Int → Option (List Int)) (x1 : Int) (x2 : (List Int)) : Option (List Int) :=
  rc_ref05_Standbys_l2 x2 (w64 (x1 + 1))
def ref05_Standbys_l2 (p1 : ApiConfig) (p2 : Int) (p3 : Int) : Nat → (List Int) → Int → Option (List Int)
  | 0, _, _ => none
  | fu1 + 1, x3, x1 =>
  (bif (decide (x1 < ((p1.Cells.length : Nat) : Int))) then ((ref05_May p1 p2 x1).bind fun x4 =>
  (((bif x4 then ref05_Apart p1 p3 x1 else some default)).bind fun x5 =>
  (bif (x4 && x5) then (chk (decide ((x3.length + 1) * 8 ≤ room))
  (ref05_Standbys_k1 (ref05_Standbys_l2 p1 p2 p3 fu1) x1 (x3 ++ [x1])))
 else ref05_Standbys_k1 (ref05_Standbys_l2 p1 p2 p3 fu1) x1 x3)))
 else (some x3))
def ref05_Standbys (p1 : ApiConfig) (p2 : Int) (p3 : Int) : Option (List Int) :=
  ref05_Standbys_l2 p1 p2 p3 fuel ([] : List Int) 0
def make_grant_k1 (p4 : ApiEntry) (x1 : Int) (x2 : Int) (x3 : Int) (x4 : ApiCellState) (x5 : (List Int)) (x6 : Int) (x7 : Int) (x8 : Int) : Option (ApiEntry × MakeTape) :=
  (some ({ Kind := p4.Kind, Tick := x3, Tenant := p4.Tenant, Cell := x1, Other := p4.Other, Epoch := x2, From := x7, Until := x8, N := x4.Running : ApiEntry }, { L := x5, At := x6 : MakeTape }))
def make_grant_k2 (p2 : ApiConfig) (p3 : ApiState) (p4 : ApiEntry) (x1 : Int) (x2 : Int) (x3 : Int) (x9 : (List Int)) (x10 : Int) (x11 : Int) : Option (ApiEntry × MakeTape) :=
  ((make_Tape_Range { L := x9, At := x10 : MakeTape } 1 p2.Lease).bind fun x12 =>
  ((idx p3.Cells x1).bind fun x4 =>
  ((make_Tape_Yes x12.2 15).bind fun x13 =>
  (bif x13.1 then ((make_Tape_Next x13.2 30).bind fun x14 =>
  make_grant_k1 p4 x1 x2 x3 x4 x14.2.L x14.2.At (maxE 0 (w64 (x11 - 1))) (w64 ((w64 (x11 + x12.1)) + x14.1)))
 else make_grant_k1 p4 x1 x2 x3 x4 x13.2.L x13.2.At x11 (w64 (x11 + x12.1))))))
def make_grant_k3 (p2 : ApiConfig) (p3 : ApiState) (p4 : ApiEntry) (x15 : ApiTenantState) (x1 : Int) (x2 : Int) (x16 : (List Int)) (x17 : Int) (x3 : Int) : Option (ApiEntry × MakeTape) :=
  ((make_Tape_Yes { L := x16, At := x17 : MakeTape } 5).bind fun x18 =>
  (bif x18.1 then ((make_Tape_Next x18.2 3).bind fun x19 =>
  make_grant_k2 p2 p3 p4 x1 x2 x3 x19.2.L x19.2.At (w64 ((maxE x3 x15.Window.Until) + x19.1)))
 else make_grant_k2 p2 p3 p4 x1 x2 x3 x18.2.L x18.2.At (maxE x3 x15.Window.Until)))
def make_grant_k4 (p2 : ApiConfig) (p3 : ApiState) (p4 : ApiEntry) (x15 : ApiTenantState) (x1 : Int) (x20 : (List Int)) (x21 : Int) (x2 : Int) : Option (ApiEntry × MakeTape) :=
  (((bif (x1 != x15.Home) then make_Tape_Next { L := x20, At := x21 : MakeTape } 4 else some (default, { L := x20, At := x21 : MakeTape }))).bind fun x22 =>
  (bif ((x1 != x15.Home) && (decide (0 < x22.1))) then make_grant_k3 p2 p3 p4 x15 x1 x2 x22.2.L x22.2.At (maxE p4.Tick x15.Window.Until)
 else make_grant_k3 p2 p3 p4 x15 x1 x2 x22.2.L x22.2.At p4.Tick))
def make_grant_k5 (p2 : ApiConfig) (p3 : ApiState) (p4 : ApiEntry) (x15 : ApiTenantState) (x23 : (List Int)) (x24 : Int) (x1 : Int) : Option (ApiEntry × MakeTape) :=
  (((bif (!((x1 != x15.Home) || (x15.Epoch == 0))) then make_Tape_Yes { L := x23, At := x24 : MakeTape } 4 else some (default, { L := x23, At := x24 : MakeTape }))).bind fun x25 =>
  (bif (((x1 != x15.Home) || (x15.Epoch == 0)) || x25.1) then make_grant_k4 p2 p3 p4 x15 x1 x25.2.L x25.2.At (w64 (x15.Epoch + 1))
 else make_grant_k4 p2 p3 p4 x15 x1 x25.2.L x25.2.At x15.Epoch))
def make_grant (p1 : MakeTape) (p2 : ApiConfig) (p3 : ApiState) (p4 : ApiEntry) : Option (ApiEntry × MakeTape) :=
  ((idx p3.Tenants p4.Tenant).bind fun x15 =>
  (((bif (decide (0 ≤ x15.Target)) then make_Tape_Yes p1 2 else some (default, p1))).bind fun x26 =>
  (bif ((decide (0 ≤ x15.Target)) && x26.1) then make_grant_k5 p2 p3 p4 x15 x26.2.L x26.2.At x15.Target
 else (((bif (decide (0 ≤ x15.Standby)) then make_Tape_Yes x26.2 5 else some (default, x26.2))).bind fun x27 =>
  (bif ((decide (0 ≤ x15.Standby)) && (x27.1 || x15.Shed)) then make_grant_k5 p2 p3 p4 x15 x27.2.L x27.2.At x15.Standby
 else make_grant_k5 p2 p3 p4 x15 x27.2.L x27.2.At x15.Home)))))
def make_Entry_k1 (x1 : (Int × MakeTape)) (x2 : ApiEntry) (x3 : (List Int)) (x4 : Int) (x5 : Int) (x6 : Int) (x7 : Int) (x8 : Int) : Option (ApiEntry × MakeTape) :=
  (some ({ Kind := x5, Tick := x2.Tick, Tenant := x1.1, Cell := x6, Other := x2.Other, Epoch := x7, From := x2.From, Until := x2.Until, N := x8 : ApiEntry }, { L := x3, At := x4 : MakeTape }))
def make_Entry_k2 (p2 : ApiConfig) (p3 : ApiState) (x9 : (List Int)) (x10 : Int) (x11 : Int) : Option (ApiEntry × MakeTape) :=
  (((bif (!(((p2.Tenants.length : Nat) : Int) == 0)) then make_Tape_Yes { L := x9, At := x10 : MakeTape } 4 else some (default, { L := x9, At := x10 : MakeTape }))).bind fun x12 =>
  (bif ((((p2.Tenants.length : Nat) : Int) == 0) || x12.1) then ((make_platform x12.2 p2 p3 x11).bind fun x13 =>
  (some (x13.1, x13.2)))
 else ((make_Tape_Next x12.2 ((p2.Tenants.length : Nat) : Int)).bind fun x1 =>
  ((idx p3.Tenants x1.1).bind fun x14 =>
  (bif (!x14.Placed) then ((make_none 1 x11).bind fun x15 =>
  ((ref05_Homes p2 x1.1).bind fun x16 =>
  ((make_pick x1.2 x16).bind fun x17 =>
  ((ref05_Standbys p2 x1.1 (maxE 0 x17.1)).bind fun x18 =>
  ((make_pick x17.2 x18).bind fun x19 =>
  (some ({ x15 with Tenant := x1.1, Cell := (maxE 0 x17.1), Other := x19.1 }, x19.2)))))))
 else ((make_none 2 x11).bind fun x2 =>
  ((make_Tape_Next x1.2 12).bind fun x20 =>
  (bif (x20.1 == 0) then make_Entry_k1 x1 x2 x20.2.L x20.2.At 3 x2.Cell (maxE 1 x14.Epoch) x2.N
 else (bif (x20.1 == 1) then ((ref05_Standbys p2 x1.1 x14.Home).bind fun x21 =>
  ((make_pick x20.2 x21).bind fun x22 =>
  make_Entry_k1 x1 x2 x22.2.L x22.2.At 4 x22.1 x2.Epoch x2.N))
 else (bif (x20.1 == 2) then make_Entry_k1 x1 x2 x20.2.L x20.2.At 5 (maxE 0 x14.Next) x2.Epoch x2.N
 else (bif (x20.1 == 3) then ((ref05_Homes p2 x1.1).bind fun x23 =>
  ((make_pick x20.2 x23).bind fun x24 =>
  make_Entry_k1 x1 x2 x24.2.L x24.2.At 6 (maxE 0 x24.1) x2.Epoch x2.N))
 else (bif (x20.1 == 4) then make_Entry_k1 x1 x2 x20.2.L x20.2.At 7 x2.Cell x2.Epoch x2.N
 else (bif (x20.1 == 5) then (bif x14.Shed then make_Entry_k1 x1 x2 x20.2.L x20.2.At 8 x2.Cell x2.Epoch 0
 else make_Entry_k1 x1 x2 x20.2.L x20.2.At 8 x2.Cell x2.Epoch 1)
 else ((make_grant x20.2 p2 p3 { x2 with Tenant := x1.1 }).bind fun x25 =>
  (some (x25.1, x25.2))))))))))))))))
def make_Entry (p1 : MakeTape) (p2 : ApiConfig) (p3 : ApiState) : Option (ApiEntry × MakeTape) :=
  ((make_Tape_Next p1 4).bind fun x26 =>
  ((make_Tape_Yes x26.2 20).bind fun x27 =>
  (bif x27.1 then make_Entry_k2 p2 p3 x27.2.L x27.2.At (maxE 0 (w64 (p3.Tick - 1)))
 else make_Entry_k2 p2 p3 x27.2.L x27.2.At (w64 (p3.Tick + x26.1)))))
def ref06_in (p1 : Int) (p2 : Int) (p3 : Int) : Option Bool :=
  (some ((decide (p2 ≤ p1)) && (decide (p1 ≤ p3))))
def ref06_uses (p1 : Int) : Option ByteArray :=
  (bif ((decide (p1 < 1)) || (decide (((17 : Nat) : Int) ≤ p1))) then (some (ByteArray.mk #[63]))
 else ((idx [ByteArray.empty, (ByteArray.mk #[116, 99, 111]), (ByteArray.mk #[116, 99, 101, 119, 118]), (ByteArray.mk #[116, 101]), (ByteArray.mk #[116, 67]), (ByteArray.mk #[116, 99]), (ByteArray.mk #[116, 99]), (ByteArray.mk #[116]), (ByteArray.mk #[116, 98]), (ByteArray.mk #[99, 109]), (ByteArray.mk #[99, 118]), (ByteArray.mk #[99, 118]), (ByteArray.mk #[118]), (ByteArray.mk #[114, 98]), ByteArray.empty, ByteArray.empty, (ByteArray.mk #[110])] p1).bind fun x1 =>
  (some x1)))
def ref06_has_l1 (p2 : Int) (x1 : ByteArray) : Nat → Int → Option Bool
  | 0, _ => none
  | fu1 + 1, x2 =>
  (bif (decide (x2 < ((x1.size : Nat) : Int))) then (chk (decide (0 ≤ x2 ∧ x2 < ((x1.size : Nat) : Int)))
  ((bif ((byteAt x1 x2) == p2) then (some true)
 else (ref06_has_l1 p2 x1 fu1) (w64 (x2 + 1)))))
 else (some false))
def ref06_has (p1 : Int) (p2 : Int) : Option Bool :=
  ((ref06_uses p1).bind fun x1 =>
  ref06_has_l1 p2 x1 fuel 0)
def ref06_places_k1 (x1 : Bool) : Option Bool :=
  (bif x1 then (some false)
 else (some true))
def ref06_places_k2 (p1 : ApiEntry) (p3 : Int) (p4 : Int) (x2 : Bool) : Option Bool :=
  (bif x2 then (some false)
 else ((ref06_has p1.Kind 111).bind fun x3 =>
  (((bif x3 then ref06_in p1.Other (-1) (w64 (p3 - 1)) else some default)).bind fun x4 =>
  (bif (x3 && ((!x4) || (p1.Other == p1.Cell))) then ref06_places_k1 (x3 && ((!x4) || (p1.Other == p1.Cell)))
 else ((ref06_has p1.Kind 114).bind fun x5 =>
  (((bif x5 then ref06_in p1.Other 0 (w64 (p4 - 1)) else some default)).bind fun x6 =>
  (bif (x5 && (!x6)) then ref06_places_k1 (x5 && (!x6))
 else ((ref06_has p1.Kind 111).bind fun x7 =>
  (((bif (!x7) then ref06_has p1.Kind 114 else some default)).bind fun x8 =>
  ref06_places_k1 (((!x7) && (!x8)) && (p1.Other != (-1))))))))))))
def ref06_places (p1 : ApiEntry) (p2 : Int) (p3 : Int) (p4 : Int) : Option Bool :=
  ((ref06_has p1.Kind 116).bind fun x9 =>
  (((bif (!(!(x9 == (p1.Tenant != (-1))))) then ref06_has p1.Kind 116 else some default)).bind fun x10 =>
  (((bif x10 then ref06_in p1.Tenant 0 (w64 (p2 - 1)) else some default)).bind fun x11 =>
  (bif ((!(x9 == (p1.Tenant != (-1)))) || (x10 && (!x11))) then (some false)
 else ((ref06_has p1.Kind 99).bind fun x12 =>
  (((bif x12 then ref06_in p1.Cell 0 (w64 (p3 - 1)) else some default)).bind fun x13 =>
  (bif (x12 && (!x13)) then ref06_places_k2 p1 p3 p4 (x12 && (!x13))
 else ((ref06_has p1.Kind 67).bind fun x14 =>
  (((bif x14 then ref06_in p1.Cell (-1) (w64 (p3 - 1)) else some default)).bind fun x15 =>
  (bif (x14 && (!x15)) then ref06_places_k2 p1 p3 p4 (x14 && (!x15))
 else ((ref06_has p1.Kind 99).bind fun x16 =>
  (((bif (!x16) then ref06_has p1.Kind 67 else some default)).bind fun x17 =>
  ref06_places_k2 p1 p3 p4 (((!x16) && (!x17)) && (p1.Cell != (-1)))))))))))))))
def ref06_numbers_k1 (p1 : ApiEntry) (p2 : Int) (x1 : Bool) : Option Bool :=
  (bif x1 then (some false)
 else ((ref06_has p1.Kind 118).bind fun x2 =>
  (bif x2 then ((ref06_in p1.N 0 (w64 (p2 - 1))).bind fun x3 =>
  (some x3))
 else ((ref06_has p1.Kind 98).bind fun x4 =>
  (bif x4 then ((ref06_in p1.N 0 1).bind fun x5 =>
  (some x5))
 else ((ref06_has p1.Kind 109).bind fun x6 =>
  (bif x6 then ((ref06_in p1.N 1 3).bind fun x7 =>
  (some x7))
 else ((ref06_has p1.Kind 110).bind fun x8 =>
  (bif x8 then ((ref06_in p1.N 0 1073741824).bind fun x9 =>
  (some x9))
 else (some (p1.N == 0)))))))))))
def ref06_numbers_k2 (p1 : ApiEntry) (p2 : Int) (x10 : Bool) : Option Bool :=
  (bif x10 then (some false)
 else ((ref06_has p1.Kind 119).bind fun x11 =>
  (((bif x11 then ref06_in p1.From 0 1073741824 else some default)).bind fun x12 =>
  (((bif (!(!x12)) then ref06_in p1.Until 0 1073741824 else some default)).bind fun x13 =>
  (bif (x11 && ((!x12) || (!x13))) then ref06_numbers_k1 p1 p2 (x11 && ((!x12) || (!x13)))
 else ((ref06_has p1.Kind 119).bind fun x14 =>
  ref06_numbers_k1 p1 p2 ((!x14) && ((p1.From != 0) || (p1.Until != 0)))))))))
def ref06_numbers (p1 : ApiEntry) (p2 : Int) : Option Bool :=
  ((ref06_has p1.Kind 101).bind fun x15 =>
  (((bif x15 then ref06_in p1.Epoch 1 1048576 else some default)).bind fun x16 =>
  (bif (x15 && (!x16)) then ref06_numbers_k2 p1 p2 (x15 && (!x16))
 else ((ref06_has p1.Kind 101).bind fun x17 =>
  ref06_numbers_k2 p1 p2 ((!x17) && (p1.Epoch != 0))))))
def ref06_right (p1 : ApiEntry) (p2 : Int) (p3 : Int) (p4 : Int) (p5 : Int) : Option Bool :=
  ((ref06_in p1.Kind 1 16).bind fun x1 =>
  (((bif x1 then ref06_in p1.Tick 0 1073741824 else some default)).bind fun x2 =>
  (((bif (x1 && x2) then ref06_places p1 p2 p3 p4 else some default)).bind fun x3 =>
  (((bif ((x1 && x2) && x3) then ref06_numbers p1 p5 else some default)).bind fun x4 =>
  (some (((x1 && x2) && x3) && x4))))))
def ref06_Valid (p1 : ApiConfig) (p2 : ApiEntry) : Option Bool :=
  ((ref06_right p2 (minE ((p1.Tenants.length : Nat) : Int) 32) (minE ((p1.Cells.length : Nat) : Int) 16) (minE p1.Regions 4) (minE ((p1.Versions.length : Nat) : Int) 30)).bind fun x1 =>
  (some x1))
def ref12_no (p1 : Int) : Option (ApiState × Int) :=
  (some ({ Tick := 0, Count := 0, Tenants := ([] : List ApiTenantState), Cells := ([] : List ApiCellState), Proven := 0, Evacuating := 0, Low := 0, High := 0 : ApiState }, p1))
def ref12_Copied (p1 : ApiState) : Option ApiState :=
  (chk (decide ((([] : List ApiTenantState).length + p1.Tenants.length) * 88 ≤ room))
  ((chk (decide ((([] : List ApiCellState).length + p1.Cells.length) * 32 ≤ room))
  ((some { p1 with Tenants := (([] : List ApiTenantState) ++ p1.Tenants), Cells := (([] : List ApiCellState) ++ p1.Cells) })))))
def ref12_frozen (p1 : ApiConfig) (p2 : ApiState) (p3 : Int) : Option Bool :=
  ((ref04_RegionOf p1 p3).bind fun x1 =>
  ((ref04_Has p2.Evacuating x1).bind fun x2 =>
  (some x2)))
def ref12_together (p1 : ApiConfig) (p2 : Int) (p3 : Int) : Option Bool :=
  (((bif ((decide (0 ≤ p2)) && (decide (0 ≤ p3))) then ref05_Apart p1 p2 p3 else some default)).bind fun x1 =>
  (some (((decide (0 ≤ p2)) && (decide (0 ≤ p3))) && (!x1))))
def ref11_add (p1 : (List Int)) (p2 : Int) (p3 : Int) : Option (List Int) :=
  (bif ((decide (0 ≤ p2)) && (decide (p2 < ((p1.length : Nat) : Int)))) then ((idx p1 p2).bind fun x1 =>
  ((some (p1.set (Int.toNat p2) (w64 (x1 + p3)))).bind fun x2 =>
  (some x2)))
 else (some p1))
def ref11_Booked_k1 (rc_ref11_Booked_l3 : (List Int) → Int → Option (List Int)) (x1 : Int) (x2 : (List Int)) : Option (List Int) :=
  rc_ref11_Booked_l3 x2 (w64 (x1 + 1))
def ref11_Booked_k2 (rc_ref11_Booked_l3 : (List Int) → Int → Option (List Int)) (x1 : Int) (x3 : ApiTenantState) (x4 : ApiTenant) (x5 : (List Int)) : Option (List Int) :=
  ((ref11_add x5 x3.Standby x4.Shadow).bind fun x6 =>
  (chk (decide (x6.length = x5.length))
  (((ref11_add x6 x3.Next x4.Shadow).bind fun x7 =>
  (chk (decide (x7.length = x6.length))
  (ref11_Booked_k1 rc_ref11_Booked_l3 x1 x7))))))
def ref11_Booked_l3 (p1 : ApiConfig) (p2 : ApiState) : Nat → (List Int) → Int → Option (List Int)
  | 0, _, _ => none
  | fu1 + 1, x8, x1 =>
  (bif (decide (x1 < ((p2.Tenants.length : Nat) : Int))) then ((idx p2.Tenants x1).bind fun x3 =>
  ((idx p1.Tenants x1).bind fun x4 =>
  (bif (!x3.Placed) then ref11_Booked_k1 (ref11_Booked_l3 p1 p2 fu1) x1 x8
 else (bif (!x3.Shed) then ((ref11_add x8 x3.Home x4.Load).bind fun x9 =>
  (chk (decide (x9.length = x8.length))
  (((ref11_add x9 x3.Target x4.Load).bind fun x10 =>
  (chk (decide (x10.length = x9.length))
  (ref11_Booked_k2 (ref11_Booked_l3 p1 p2 fu1) x1 x3 x4 x10))))))
 else ref11_Booked_k2 (ref11_Booked_l3 p1 p2 fu1) x1 x3 x4 x8))))
 else (some x8))
def ref11_Booked (p1 : ApiConfig) (p2 : ApiState) : Option (List Int) :=
  (chk (decide (0 ≤ ((p1.Cells.length : Nat) : Int) ∧ ((p1.Cells.length : Nat) : Int) ≤ ((p1.Cells.length : Nat) : Int) ∧ ((p1.Cells.length : Nat) : Int) ≤ 9223372036854775807 ∧ ((p1.Cells.length : Nat) : Int) * 8 ≤ 140737488355328))
  (ref11_Booked_l3 p1 p2 fuel (List.replicate (Int.toNat ((p1.Cells.length : Nat) : Int)) (default : Int)) 0))
def ref11_Over_k1 (rc_ref11_Over_l2 : (List Int) → Int → Option (List Int)) (x1 : Int) (x2 : (List Int)) : Option (List Int) :=
  rc_ref11_Over_l2 x2 (w64 (x1 + 1))
def ref11_Over_l2 (p1 : ApiConfig) (x3 : (List Int)) : Nat → (List Int) → Int → Option (List Int)
  | 0, _, _ => none
  | fu1 + 1, x4, x1 =>
  (bif (decide (x1 < ((x3.length : Nat) : Int))) then ((idx x3 x1).bind fun x5 =>
  ((idx p1.Cells x1).bind fun x6 =>
  (bif (decide (x6.Capacity < x5)) then (chk (decide ((x4.length + 1) * 8 ≤ room))
  (ref11_Over_k1 (ref11_Over_l2 p1 x3 fu1) x1 (x4 ++ [x1])))
 else ref11_Over_k1 (ref11_Over_l2 p1 x3 fu1) x1 x4)))
 else (some x4))
def ref11_Over (p1 : ApiConfig) (p2 : ApiState) : Option (List Int) :=
  ((ref11_Booked p1 p2).bind fun x3 =>
  ref11_Over_l2 p1 x3 fuel ([] : List Int) 0)
def ref12_fit (p1 : ApiConfig) (p2 : ApiState) : Option (ApiState × Int) :=
  ((ref11_Over p1 p2).bind fun x1 =>
  (bif (decide (0 < ((x1.length : Nat) : Int))) then (some ({ Tick := 0, Count := 0, Tenants := ([] : List ApiTenantState), Cells := ([] : List ApiCellState), Proven := 0, Evacuating := 0, Low := 0, High := 0 : ApiState }, 10))
 else (some (p2, 0))))
def ref12_place (p1 : ApiConfig) (p2 : ApiState) (p3 : ApiEntry) : Option (ApiState × Int) :=
  ((idx p2.Tenants p3.Tenant).bind fun x1 =>
  (bif x1.Placed then ((ref12_no 4).bind fun x2 =>
  (some (x2.1, x2.2)))
 else ((idx p2.Cells p3.Cell).bind fun x3 =>
  ((idxG (decide (0 ≤ p3.Other)) p2.Cells p3.Other).bind fun x4 =>
  (bif ((x3.Mode != 1) || ((decide (0 ≤ p3.Other)) && (x4.Mode != 1))) then ((ref12_no 6).bind fun x5 =>
  (some (x5.1, x5.2)))
 else ((ref12_frozen p1 p2 p3.Cell).bind fun x6 =>
  (((bif (decide (0 ≤ p3.Other)) then ref12_frozen p1 p2 p3.Other else some default)).bind fun x7 =>
  (bif (x6 || ((decide (0 ≤ p3.Other)) && x7)) then ((ref12_no 12).bind fun x8 =>
  (some (x8.1, x8.2)))
 else ((ref05_May p1 p3.Tenant p3.Cell).bind fun x9 =>
  (((bif (decide (0 ≤ p3.Other)) then ref05_May p1 p3.Tenant p3.Other else some default)).bind fun x10 =>
  (((bif (!(!x10)) then ref12_together p1 p3.Cell p3.Other else some default)).bind fun x11 =>
  (bif ((!x9) || ((decide (0 ≤ p3.Other)) && ((!x10) || x11))) then ((ref12_no 11).bind fun x12 =>
  (some (x12.1, x12.2)))
 else ((some (p2.Tenants.set (Int.toNat p3.Tenant) { x1 with Placed := true })).bind fun x13 =>
  ((some (x13.getD (Int.toNat p3.Tenant) default)).bind fun x14 =>
  ((some (x13.set (Int.toNat p3.Tenant) { x14 with Home := p3.Cell })).bind fun x15 =>
  ((some (x15.getD (Int.toNat p3.Tenant) default)).bind fun x16 =>
  ((some (x15.set (Int.toNat p3.Tenant) { x16 with Standby := p3.Other })).bind fun x17 =>
  ((ref12_fit p1 { p2 with Tenants := x17 }).bind fun x18 =>
  (some (x18.1, x18.2))))))))))))))))))))
def ref12_granted (p1 : ApiConfig) (p2 : ApiState) (p3 : ApiEntry) : Option Int :=
  ((idx p2.Tenants p3.Tenant).bind fun x1 =>
  ((idx p2.Cells p3.Cell).bind fun x2 =>
  (bif ((x2.Mode == 3) || ((x2.Mode == 2) && (!(p3.Cell == x1.Home)))) then (some 6)
 else (bif ((((p3.Cell == x1.Home) && (p3.Epoch != x1.Epoch)) && (p3.Epoch != (w64 (x1.Epoch + 1)))) || ((!(p3.Cell == x1.Home)) && (p3.Epoch != (w64 (x1.Epoch + 1))))) then (some 7)
 else (bif ((p3.N != x2.Running) || (x2.Running != x2.Wanted)) then (some 8)
 else (bif (((((decide (p3.From < p3.Tick)) || (decide ((w64 (p3.Tick + p1.Lease)) < p3.From))) || (decide (p3.Until ≤ p3.From))) || (decide (p1.Lease < (w64 (p3.Until - p3.From))))) || (decide (p3.From < x1.Window.Until))) then (some 9)
 else (bif ((!(p3.Cell == x1.Home)) && (decide (p3.Tick < x1.Window.Until))) then (some 9)
 else (some 0))))))))
def ref12_grant_k1 (p1 : ApiConfig) (p2 : ApiState) (x1 : (List ApiTenantState)) : Option (ApiState × Int) :=
  ((ref12_fit p1 { p2 with Tenants := x1 }).bind fun x2 =>
  (some (x2.1, x2.2)))
def ref12_grant (p1 : ApiConfig) (p2 : ApiState) (p3 : ApiEntry) : Option (ApiState × Int) :=
  ((idx p2.Tenants p3.Tenant).bind fun x3 =>
  (bif ((!x3.Placed) || (x3.Shed && (p3.Cell != x3.Standby))) then ((ref12_no 4).bind fun x4 =>
  (some (x4.1, x4.2)))
 else (bif (((p3.Cell != x3.Home) && (p3.Cell != x3.Standby)) && (p3.Cell != x3.Target)) then ((ref12_no 5).bind fun x5 =>
  (some (x5.1, x5.2)))
 else ((ref12_granted p1 p2 p3).bind fun x6 =>
  (bif (x6 != 0) then ((ref12_no x6).bind fun x7 =>
  (some (x7.1, x7.2)))
 else ((some (p2.Tenants.set (Int.toNat p3.Tenant) { x3 with Window := { Cell := p3.Cell, Epoch := p3.Epoch, Version := p3.N, From := p3.From, Until := p3.Until : ApiWindow } })).bind fun x8 =>
  ((some (x8.getD (Int.toNat p3.Tenant) default)).bind fun x9 =>
  ((some (x8.set (Int.toNat p3.Tenant) { x9 with Epoch := p3.Epoch })).bind fun x10 =>
  ((some (x10.getD (Int.toNat p3.Tenant) default)).bind fun x11 =>
  (bif (p3.Cell == x11.Home) then ref12_grant_k1 p1 p2 x10
 else (bif (p3.Cell == x11.Standby) then ((some (x10.set (Int.toNat p3.Tenant) { x11 with Home := p3.Cell })).bind fun x12 =>
  ((some (x12.getD (Int.toNat p3.Tenant) default)).bind fun x13 =>
  ((some (x12.set (Int.toNat p3.Tenant) { x13 with Standby := (-1) })).bind fun x14 =>
  ((some (x14.getD (Int.toNat p3.Tenant) default)).bind fun x15 =>
  ((some (x14.set (Int.toNat p3.Tenant) { x15 with Next := (-1) })).bind fun x16 =>
  ((some (x16.getD (Int.toNat p3.Tenant) default)).bind fun x17 =>
  ((some (x16.set (Int.toNat p3.Tenant) { x17 with Target := (-1) })).bind fun x18 =>
  ((some (x18.getD (Int.toNat p3.Tenant) default)).bind fun x19 =>
  ((some (x18.set (Int.toNat p3.Tenant) { x19 with Shed := false })).bind fun x20 =>
  ref12_grant_k1 p1 p2 x20)))))))))
 else ((some (x10.set (Int.toNat p3.Tenant) { x11 with Home := p3.Cell })).bind fun x21 =>
  ((some (x21.getD (Int.toNat p3.Tenant) default)).bind fun x22 =>
  ((some (x21.set (Int.toNat p3.Tenant) { x22 with Target := (-1) })).bind fun x23 =>
  ref12_grant_k1 p1 p2 x23))))))))))))))
def ref12_Cut (p1 : ApiWindow) (p2 : Int) : Option ApiWindow :=
  (some { p1 with From := (minE p1.From (minE p1.Until (w64 (p2 + 1)))), Until := (minE p1.Until (w64 (p2 + 1))) })
def ref12_cut (p1 : ApiState) (p2 : ApiEntry) : Option (ApiState × Int) :=
  ((idx p1.Tenants p2.Tenant).bind fun x1 =>
  (bif (!x1.Placed) then ((ref12_no 4).bind fun x2 =>
  (some (x2.1, x2.2)))
 else (bif (p2.Epoch != x1.Epoch) then ((ref12_no 7).bind fun x3 =>
  (some (x3.1, x3.2)))
 else ((ref12_Cut x1.Window p2.Tick).bind fun x4 =>
  ((some (p1.Tenants.set (Int.toNat p2.Tenant) { x1 with Window := x4 })).bind fun x5 =>
  (some ({ p1 with Tenants := x5 }, 0)))))))
def ref12_standby_k1 (p1 : ApiConfig) (p2 : ApiState) (p3 : ApiEntry) (x1 : ApiTenantState) : Option (ApiState × Int) :=
  ((some (p2.Tenants.set (Int.toNat p3.Tenant) { x1 with Next := p3.Cell })).bind fun x2 =>
  ((ref12_fit p1 { p2 with Tenants := x2 }).bind fun x3 =>
  (some (x3.1, x3.2))))
def ref12_standby (p1 : ApiConfig) (p2 : ApiState) (p3 : ApiEntry) : Option (ApiState × Int) :=
  ((idx p2.Tenants p3.Tenant).bind fun x1 =>
  (bif (!x1.Placed) then ((ref12_no 4).bind fun x4 =>
  (some (x4.1, x4.2)))
 else (bif (decide (p3.Cell < 0)) then ref12_standby_k1 p1 p2 p3 x1
 else (bif (((p3.Cell == x1.Home) || (p3.Cell == x1.Standby)) || (p3.Cell == x1.Target)) then ((ref12_no 5).bind fun x5 =>
  (some (x5.1, x5.2)))
 else ((idx p2.Cells p3.Cell).bind fun x6 =>
  (bif (x6.Mode != 1) then ((ref12_no 6).bind fun x7 =>
  (some (x7.1, x7.2)))
 else ((ref12_frozen p1 p2 p3.Cell).bind fun x8 =>
  (bif x8 then ((ref12_no 12).bind fun x9 =>
  (some (x9.1, x9.2)))
 else ((ref05_May p1 p3.Tenant p3.Cell).bind fun x10 =>
  (((bif (!(!x10)) then ref12_together p1 p3.Cell x1.Home else some default)).bind fun x11 =>
  (((bif (!((!x10) || x11)) then ref12_together p1 p3.Cell x1.Target else some default)).bind fun x12 =>
  (bif (((!x10) || x11) || x12) then ((ref12_no 11).bind fun x13 =>
  (some (x13.1, x13.2)))
 else ref12_standby_k1 p1 p2 p3 x1))))))))))))
def ref12_ready (p1 : ApiState) (p2 : ApiEntry) : Option (ApiState × Int) :=
  ((idx p1.Tenants p2.Tenant).bind fun x1 =>
  (bif (!x1.Placed) then ((ref12_no 4).bind fun x2 =>
  (some (x2.1, x2.2)))
 else (bif (p2.Cell != x1.Next) then ((ref12_no 5).bind fun x3 =>
  (some (x3.1, x3.2)))
 else ((idx p1.Cells p2.Cell).bind fun x4 =>
  (bif (x4.Mode == 3) then ((ref12_no 6).bind fun x5 =>
  (some (x5.1, x5.2)))
 else ((some (p1.Tenants.set (Int.toNat p2.Tenant) { x1 with Standby := p2.Cell })).bind fun x6 =>
  ((some (x6.getD (Int.toNat p2.Tenant) default)).bind fun x7 =>
  ((some (x6.set (Int.toNat p2.Tenant) { x7 with Next := (-1) })).bind fun x8 =>
  (some ({ p1 with Tenants := x8 }, 0))))))))))
def ref12_migrate (p1 : ApiConfig) (p2 : ApiState) (p3 : ApiEntry) : Option (ApiState × Int) :=
  ((idx p2.Tenants p3.Tenant).bind fun x1 =>
  (bif (((!x1.Placed) || x1.Shed) || (decide (0 ≤ x1.Target))) then ((ref12_no 4).bind fun x2 =>
  (some (x2.1, x2.2)))
 else (bif (((p3.Cell == x1.Home) || (p3.Cell == x1.Standby)) || (p3.Cell == x1.Next)) then ((ref12_no 5).bind fun x3 =>
  (some (x3.1, x3.2)))
 else ((idx p2.Cells p3.Cell).bind fun x4 =>
  (bif (x4.Mode != 1) then ((ref12_no 6).bind fun x5 =>
  (some (x5.1, x5.2)))
 else ((ref12_frozen p1 p2 p3.Cell).bind fun x6 =>
  (bif x6 then ((ref12_no 12).bind fun x7 =>
  (some (x7.1, x7.2)))
 else ((ref05_May p1 p3.Tenant p3.Cell).bind fun x8 =>
  (((bif (!(!x8)) then ref12_together p1 p3.Cell x1.Standby else some default)).bind fun x9 =>
  (((bif (!((!x8) || x9)) then ref12_together p1 p3.Cell x1.Next else some default)).bind fun x10 =>
  (bif (((!x8) || x9) || x10) then ((ref12_no 11).bind fun x11 =>
  (some (x11.1, x11.2)))
 else ((some (p2.Tenants.set (Int.toNat p3.Tenant) { x1 with Target := p3.Cell })).bind fun x12 =>
  ((ref12_fit p1 { p2 with Tenants := x12 }).bind fun x13 =>
  (some (x13.1, x13.2)))))))))))))))
def ref12_abandon (p1 : ApiState) (p2 : ApiEntry) : Option (ApiState × Int) :=
  ((idx p1.Tenants p2.Tenant).bind fun x1 =>
  (bif ((!x1.Placed) || (decide (x1.Target < 0))) then ((ref12_no 4).bind fun x2 =>
  (some (x2.1, x2.2)))
 else ((some (p1.Tenants.set (Int.toNat p2.Tenant) { x1 with Target := (-1) })).bind fun x3 =>
  (some ({ p1 with Tenants := x3 }, 0)))))
def ref12_shed (p1 : ApiConfig) (p2 : ApiState) (p3 : ApiEntry) : Option (ApiState × Int) :=
  ((idx p2.Tenants p3.Tenant).bind fun x1 =>
  (bif (p3.N == 1) then (bif ((!x1.Placed) || x1.Shed) then ((ref12_no 4).bind fun x2 =>
  (some (x2.1, x2.2)))
 else (bif (decide (p3.Tick < x1.Window.Until)) then ((ref12_no 9).bind fun x3 =>
  (some (x3.1, x3.2)))
 else ((some (p2.Tenants.set (Int.toNat p3.Tenant) { x1 with Shed := true })).bind fun x4 =>
  ((some (x4.getD (Int.toNat p3.Tenant) default)).bind fun x5 =>
  ((some (x4.set (Int.toNat p3.Tenant) { x5 with Target := (-1) })).bind fun x6 =>
  (some ({ p2 with Tenants := x6 }, 0)))))))
 else (bif (!x1.Shed) then ((ref12_no 4).bind fun x7 =>
  (some (x7.1, x7.2)))
 else ((idx p2.Cells x1.Home).bind fun x8 =>
  (bif (x8.Mode == 3) then ((ref12_no 6).bind fun x9 =>
  (some (x9.1, x9.2)))
 else ((some (p2.Tenants.set (Int.toNat p3.Tenant) { x1 with Shed := false })).bind fun x10 =>
  ((ref12_fit p1 { p2 with Tenants := x10 }).bind fun x11 =>
  (some (x11.1, x11.2)))))))))
def ref12_proven (p1 : ApiState) (p2 : Int) : Option Bool :=
  ((ref04_Has p1.Proven p2).bind fun x1 =>
  (some x1))
def ref12_open (p1 : ApiState) (p2 : Int) : Option Bool :=
  ((idx p1.Cells p2).bind fun x1 =>
  ((ref12_proven p1 x1.Running).bind fun x2 =>
  (((bif (!(!x2)) then ref12_proven p1 x1.Wanted else some default)).bind fun x3 =>
  (some ((!x2) || (!x3))))))
def ref12_want_k1 (rc_ref12_want_l2 : Int → Int → Option (ApiState × Int)) (x1 : Int) (x2 : Int) : Option (ApiState × Int) :=
  rc_ref12_want_l2 x2 (w64 (x1 + 1))
def ref12_want_l2 (p1 : ApiConfig) (p2 : ApiState) (p3 : ApiEntry) (x3 : ApiCellState) (x4 : ApiVersion) : Nat → Int → Int → Option (ApiState × Int)
  | 0, _, _ => none
  | fu1 + 1, x5, x1 =>
  (bif (decide (x1 < ((p2.Cells.length : Nat) : Int))) then (((bif (x1 != p3.Cell) then ref12_open p2 x1 else some default)).bind fun x6 =>
  (bif ((x1 != p3.Cell) && x6) then ref12_want_k1 (ref12_want_l2 p1 p2 p3 x3 x4 fu1) x1 (w64 (x5 + 1))
 else ref12_want_k1 (ref12_want_l2 p1 p2 p3 x3 x4 fu1) x1 x5))
 else (bif (x3.Wanted == p3.N) then ((ref12_no 4).bind fun x7 =>
  (some (x7.1, x7.2)))
 else (bif ((decide (p2.Low < x4.Low)) || (decide (x4.High < p2.High))) then ((ref12_no 13).bind fun x8 =>
  (some (x8.1, x8.2)))
 else (((bif (p3.N != x3.Running) then ref12_proven p2 p3.N else some default)).bind fun x9 =>
  (bif (((p3.N != x3.Running) && (!x9)) && (p2.Evacuating != 0)) then ((ref12_no 12).bind fun x10 =>
  (some (x10.1, x10.2)))
 else (((bif (p3.N != x3.Running) then ref12_proven p2 p3.N else some default)).bind fun x11 =>
  (bif (((p3.N != x3.Running) && (!x11)) && (decide (p1.Blast ≤ x5))) then ((ref12_no 14).bind fun x12 =>
  (some (x12.1, x12.2)))
 else ((some (p2.Cells.set (Int.toNat p3.Cell) { x3 with Wanted := p3.N })).bind fun x13 =>
  (some ({ p2 with Cells := x13 }, 0))))))))))
def ref12_want (p1 : ApiConfig) (p2 : ApiState) (p3 : ApiEntry) : Option (ApiState × Int) :=
  ((idx p2.Cells p3.Cell).bind fun x3 =>
  ((idx p1.Versions p3.N).bind fun x4 =>
  ref12_want_l2 p1 p2 p3 x3 x4 fuel 0 0))
def ref12_runs_l1 (p1 : ApiState) (p2 : ApiEntry) (x1 : ApiCellState) : Nat → Int → Option (ApiState × Int)
  | 0, _ => none
  | fu1 + 1, x2 =>
  (bif (decide (x2 < ((p1.Tenants.length : Nat) : Int))) then ((idx p1.Tenants x2).bind fun x3 =>
  (bif ((x3.Window.Cell == p2.Cell) && (decide (p2.Tick < x3.Window.Until))) then ((ref12_no 9).bind fun x4 =>
  (some (x4.1, x4.2)))
 else (ref12_runs_l1 p1 p2 x1 fu1) (w64 (x2 + 1))))
 else ((some (p1.Cells.set (Int.toNat p2.Cell) { x1 with Running := p2.N })).bind fun x5 =>
  ((some (x5.getD (Int.toNat p2.Cell) default)).bind fun x6 =>
  ((some (x5.set (Int.toNat p2.Cell) { x6 with Since := p2.Tick })).bind fun x7 =>
  (some ({ p1 with Cells := x7 }, 0))))))
def ref12_runs (p1 : ApiState) (p2 : ApiEntry) : Option (ApiState × Int) :=
  ((idx p1.Cells p2.Cell).bind fun x1 =>
  (bif ((p2.N != x1.Wanted) || (x1.Running == x1.Wanted)) then ((ref12_no 4).bind fun x8 =>
  (some (x8.1, x8.2)))
 else ((ref12_proven p1 p2.N).bind fun x9 =>
  (bif ((!x9) && (p1.Evacuating != 0)) then ((ref12_no 12).bind fun x10 =>
  (some (x10.1, x10.2)))
 else ref12_runs_l1 p1 p2 x1 fuel 0))))
def ref12_prove_l1 (p1 : ApiConfig) (p2 : ApiState) (p3 : ApiEntry) : Nat → Int → Option (ApiState × Int)
  | 0, _ => none
  | fu1 + 1, x1 =>
  (bif (decide (x1 < ((p2.Cells.length : Nat) : Int))) then ((idx p2.Cells x1).bind fun x2 =>
  (bif ((((x2.Mode != 3) && (x2.Running == p3.N)) && (x2.Wanted == p3.N)) && (decide (p1.Bake ≤ (w64 (p3.Tick - x2.Since))))) then (chk (decide ((0 : Int) ≤ (IntKind.u64.wrap p3.N)))
  ((some ({ p2 with Proven := (orK .i64 p2.Proven (shlK .i64 1 (IntKind.u64.wrap p3.N))) }, 0))))
 else (ref12_prove_l1 p1 p2 p3 fu1) (w64 (x1 + 1))))
 else ((ref12_no 15).bind fun x3 =>
  (some (x3.1, x3.2))))
def ref12_prove (p1 : ApiConfig) (p2 : ApiState) (p3 : ApiEntry) : Option (ApiState × Int) :=
  ((ref12_proven p2 p3.N).bind fun x4 =>
  (bif x4 then ((ref12_no 4).bind fun x5 =>
  (some (x5.1, x5.2)))
 else ref12_prove_l1 p1 p2 p3 fuel 0))
def ref12_expand_l1 (p1 : ApiConfig) (p2 : ApiState) : Nat → Int → Option (ApiState × Int)
  | 0, _ => none
  | fu1 + 1, x1 =>
  (bif (decide (x1 < ((p2.Cells.length : Nat) : Int))) then ((idx p2.Cells x1).bind fun x2 =>
  ((idx p1.Versions x2.Running).bind fun x3 =>
  ((idxG (!(decide (x3.High ≤ p2.High))) p1.Versions x2.Wanted).bind fun x4 =>
  (bif ((decide (x3.High ≤ p2.High)) || (decide (x4.High ≤ p2.High))) then ((ref12_no 13).bind fun x5 =>
  (some (x5.1, x5.2)))
 else (ref12_expand_l1 p1 p2 fu1) (w64 (x1 + 1))))))
 else (some ({ p2 with High := (w64 (p2.High + 1)) }, 0)))
def ref12_expand (p1 : ApiConfig) (p2 : ApiState) : Option (ApiState × Int) :=
  (bif (decide (p2.Low < p2.High)) then ((ref12_no 4).bind fun x6 =>
  (some (x6.1, x6.2)))
 else (bif (decide (30 ≤ p2.High)) then ((ref12_no 2).bind fun x7 =>
  (some (x7.1, x7.2)))
 else ref12_expand_l1 p1 p2 fuel 0))
def ref12_Apply_k1 (p3 : ApiEntry) (x1 : ApiState) (x2 : (List ApiCellState)) (x3 : Int) (x4 : Int) : Option (ApiState × Int) :=
  (some ({ Tick := p3.Tick, Count := (w64 (x1.Count + 1)), Tenants := x1.Tenants, Cells := x2, Proven := x1.Proven, Evacuating := x3, Low := x4, High := x1.High : ApiState }, 0))
def ref12_Apply (p1 : ApiConfig) (p2 : ApiState) (p3 : ApiEntry) : Option (ApiState × Int) :=
  ((ref06_Valid p1 p3).bind fun x5 =>
  (bif (!x5) then ((ref12_no 1).bind fun x6 =>
  (some (x6.1, x6.2)))
 else (bif (decide (4096 ≤ p2.Count)) then ((ref12_no 2).bind fun x7 =>
  (some (x7.1, x7.2)))
 else (bif (decide (p3.Tick < p2.Tick)) then ((ref12_no 3).bind fun x8 =>
  (some (x8.1, x8.2)))
 else ((ref12_Copied p2).bind fun x1 =>
  (bif (p3.Kind == 1) then ((ref12_place p1 { x1 with Tick := p3.Tick, Count := (w64 (x1.Count + 1)) } p3).bind fun x9 =>
  (some (x9.1, x9.2)))
 else (bif (p3.Kind == 2) then ((ref12_grant p1 { x1 with Tick := p3.Tick, Count := (w64 (x1.Count + 1)) } p3).bind fun x10 =>
  (some (x10.1, x10.2)))
 else (bif (p3.Kind == 3) then ((ref12_cut { x1 with Tick := p3.Tick, Count := (w64 (x1.Count + 1)) } p3).bind fun x11 =>
  (some (x11.1, x11.2)))
 else (bif (p3.Kind == 4) then ((ref12_standby p1 { x1 with Tick := p3.Tick, Count := (w64 (x1.Count + 1)) } p3).bind fun x12 =>
  (some (x12.1, x12.2)))
 else (bif (p3.Kind == 5) then ((ref12_ready { x1 with Tick := p3.Tick, Count := (w64 (x1.Count + 1)) } p3).bind fun x13 =>
  (some (x13.1, x13.2)))
 else (bif (p3.Kind == 6) then ((ref12_migrate p1 { x1 with Tick := p3.Tick, Count := (w64 (x1.Count + 1)) } p3).bind fun x14 =>
  (some (x14.1, x14.2)))
 else (bif (p3.Kind == 7) then ((ref12_abandon { x1 with Tick := p3.Tick, Count := (w64 (x1.Count + 1)) } p3).bind fun x15 =>
  (some (x15.1, x15.2)))
 else (bif (p3.Kind == 8) then ((ref12_shed p1 { x1 with Tick := p3.Tick, Count := (w64 (x1.Count + 1)) } p3).bind fun x16 =>
  (some (x16.1, x16.2)))
 else (bif (p3.Kind == 9) then ((idx x1.Cells p3.Cell).bind fun x17 =>
  (bif (x17.Mode == p3.N) then ((ref12_no 4).bind fun x18 =>
  (some (x18.1, x18.2)))
 else ((some (x1.Cells.set (Int.toNat p3.Cell) { x17 with Mode := p3.N })).bind fun x19 =>
  ((idx x19 p3.Cell).bind fun x20 =>
  ((some (x19.set (Int.toNat p3.Cell) { x20 with Since := p3.Tick })).bind fun x21 =>
  ref12_Apply_k1 p3 x1 x21 x1.Evacuating x1.Low)))))
 else (bif (p3.Kind == 10) then ((ref12_want p1 { x1 with Tick := p3.Tick, Count := (w64 (x1.Count + 1)) } p3).bind fun x22 =>
  (some (x22.1, x22.2)))
 else (bif (p3.Kind == 11) then ((ref12_runs { x1 with Tick := p3.Tick, Count := (w64 (x1.Count + 1)) } p3).bind fun x23 =>
  (some (x23.1, x23.2)))
 else (bif (p3.Kind == 12) then ((ref12_prove p1 { x1 with Tick := p3.Tick, Count := (w64 (x1.Count + 1)) } p3).bind fun x24 =>
  (some (x24.1, x24.2)))
 else (bif (p3.Kind == 13) then ((ref04_Has x1.Evacuating p3.Other).bind fun x25 =>
  (bif (x25 == (p3.N == 1)) then ((ref12_no 4).bind fun x26 =>
  (some (x26.1, x26.2)))
 else (chk (decide ((0 : Int) ≤ (IntKind.u64.wrap p3.Other)))
  (ref12_Apply_k1 p3 x1 x1.Cells (xorK .i64 x1.Evacuating (shlK .i64 1 (IntKind.u64.wrap p3.Other))) x1.Low))))
 else (bif (p3.Kind == 14) then ((ref12_expand p1 { x1 with Tick := p3.Tick, Count := (w64 (x1.Count + 1)) }).bind fun x27 =>
  (some (x27.1, x27.2)))
 else (bif (p3.Kind == 15) then (bif (x1.High == x1.Low) then ((ref12_no 4).bind fun x28 =>
  (some (x28.1, x28.2)))
 else ref12_Apply_k1 p3 x1 x1.Cells x1.Evacuating x1.High)
 else ref12_Apply_k1 p3 x1 x1.Cells x1.Evacuating x1.Low))))))))))))))))))))
def make_Log_l1 (p2 : ApiConfig) (p3 : Int) : Nat → (List Int) → Int → Int → Int → (List ApiTenantState) → (List ApiCellState) → Int → Int → Int → Int → (List ApiEntry) → Option (List ApiEntry)
  | 0, _, _, _, _, _, _, _, _, _, _, _ => none
  | fu1 + 1, x1, x2, x3, x4, x5, x6, x7, x8, x9, x10, x11 =>
  (((bif (decide (((x11.length : Nat) : Int) < p3)) then make_Tape_More { L := x1, At := x2 : MakeTape } else some (default, { L := x1, At := x2 : MakeTape }))).bind fun x12 =>
  (bif ((decide (((x11.length : Nat) : Int) < p3)) && x12.1) then ((make_Entry x12.2 p2 { Tick := x3, Count := x4, Tenants := x5, Cells := x6, Proven := x7, Evacuating := x8, Low := x9, High := x10 : ApiState }).bind fun x13 =>
  ((ref12_Apply p2 { Tick := x3, Count := x4, Tenants := x5, Cells := x6, Proven := x7, Evacuating := x8, Low := x9, High := x10 : ApiState } x13.1).bind fun x14 =>
  (bif (x14.2 == 0) then (chk (decide ((x11.length + 1) * 72 ≤ room))
  ((make_Log_l1 p2 p3 fu1) x13.2.L x13.2.At x14.1.Tick x14.1.Count x14.1.Tenants x14.1.Cells x14.1.Proven x14.1.Evacuating x14.1.Low x14.1.High (x11 ++ [x13.1])))
 else (make_Log_l1 p2 p3 fu1) x13.2.L x13.2.At x3 x4 x5 x6 x7 x8 x9 x10 x11)))
 else (some x11)))
def make_Log (p1 : (List Int)) (p2 : ApiConfig) (p3 : Int) : Option (List ApiEntry) :=
  ((make_New p1).bind fun x15 =>
  ((ref12_New p2).bind fun x16 =>
  make_Log_l1 p2 p3 fuel x15.L x15.At x16.Tick x16.Count x16.Tenants x16.Cells x16.Proven x16.Evacuating x16.Low x16.High ([] : List ApiEntry)))
def ref12_Fold_l1 (p1 : ApiConfig) (p2 : (List ApiEntry)) : Nat → Int → Int → (List ApiTenantState) → (List ApiCellState) → Int → Int → Int → Int → Int → Option (ApiState × Int × Int)
  | 0, _, _, _, _, _, _, _, _, _ => none
  | fu1 + 1, x1, x2, x3, x4, x5, x6, x7, x8, x9 =>
  (bif (decide (x9 < ((p2.length : Nat) : Int))) then ((idx p2 x9).bind fun x10 =>
  ((ref12_Apply p1 { Tick := x1, Count := x2, Tenants := x3, Cells := x4, Proven := x5, Evacuating := x6, Low := x7, High := x8 : ApiState } x10).bind fun x11 =>
  (bif (x11.2 != 0) then (some ({ Tick := x1, Count := x2, Tenants := x3, Cells := x4, Proven := x5, Evacuating := x6, Low := x7, High := x8 : ApiState }, x9, x11.2))
 else (ref12_Fold_l1 p1 p2 fu1) x11.1.Tick x11.1.Count x11.1.Tenants x11.1.Cells x11.1.Proven x11.1.Evacuating x11.1.Low x11.1.High (w64 (x9 + 1)))))
 else (some ({ Tick := x1, Count := x2, Tenants := x3, Cells := x4, Proven := x5, Evacuating := x6, Low := x7, High := x8 : ApiState }, ((p2.length : Nat) : Int), 0)))
def ref12_Fold (p1 : ApiConfig) (p2 : (List ApiEntry)) : Option (ApiState × Int × Int) :=
  ((ref12_New p1).bind fun x12 =>
  ref12_Fold_l1 p1 p2 fuel x12.Tick x12.Count x12.Tenants x12.Cells x12.Proven x12.Evacuating x12.Low x12.High 0)
def make_State (p1 : (List Int)) (p2 : ApiConfig) (p3 : Int) : Option ApiState :=
  ((make_Log p1 p2 p3).bind fun x1 =>
  ((ref12_Fold p2 x1).bind fun x2 =>
  (some x2.1)))
def law11_made_l1 (p3 : (List ApiCellState)) (p4 : Bool) (x1 : ApiConfig) (x2 : ApiState) (x3 : (List ApiTenantState)) : Nat → (List ApiCellState) → Int → Option (ApiConfig × ApiState)
  | 0, _, _ => none
  | fu1 + 1, x4, x5 =>
  (bif (((decide (x5 < ((x1.Cells.length : Nat) : Int))) && (decide (x5 < ((p3.length : Nat) : Int)))) && p4) then ((idx p3 x5).bind fun x6 =>
  ((idx x4 x5).bind fun x7 =>
  ((some (x4.set (Int.toNat x5) x6)).bind fun x8 =>
  ((make_Between x6.Mode 1 3).bind fun x9 =>
  ((idx x8 x5).bind fun x10 =>
  ((some (x8.set (Int.toNat x5) { x10 with Mode := x9 })).bind fun x11 =>
  (law11_made_l1 p3 p4 x1 x2 x3 fu1) x11 (w64 (x5 + 1))))))))
 else (some (x1, { x2 with Tenants := x3, Cells := x4 })))
def law11_made_l2 (p2 : (List ApiTenantState)) (p3 : (List ApiCellState)) (p4 : Bool) (x1 : ApiConfig) (x2 : ApiState) : Nat → (List ApiTenantState) → Int → Option (ApiConfig × ApiState)
  | 0, _, _ => none
  | fu2 + 1, x3, x12 =>
  (bif (((decide (x12 < ((x3.length : Nat) : Int))) && (decide (x12 < ((p2.length : Nat) : Int)))) && p4) then ((idx p2 x12).bind fun x13 =>
  ((idx x3 x12).bind fun x14 =>
  ((some (x3.set (Int.toNat x12) x13)).bind fun x15 =>
  ((make_Between x13.Home (-1) (w64 (((x1.Cells.length : Nat) : Int) - 1))).bind fun x16 =>
  ((make_Between x13.Standby (-1) (w64 (((x1.Cells.length : Nat) : Int) - 1))).bind fun x17 =>
  ((idx x15 x12).bind fun x18 =>
  ((some (x15.set (Int.toNat x12) { x18 with Home := x16 })).bind fun x19 =>
  ((idx x19 x12).bind fun x20 =>
  ((some (x19.set (Int.toNat x12) { x20 with Standby := x17 })).bind fun x21 =>
  ((make_Between x13.Next (-1) (w64 (((x1.Cells.length : Nat) : Int) - 1))).bind fun x22 =>
  ((make_Between x13.Target (-1) (w64 (((x1.Cells.length : Nat) : Int) - 1))).bind fun x23 =>
  ((idx x21 x12).bind fun x24 =>
  ((some (x21.set (Int.toNat x12) { x24 with Next := x22 })).bind fun x25 =>
  ((idx x25 x12).bind fun x26 =>
  ((some (x25.set (Int.toNat x12) { x26 with Target := x23 })).bind fun x27 =>
  ((make_Between x13.Window.Cell (-1) (w64 (((x1.Cells.length : Nat) : Int) - 1))).bind fun x28 =>
  ((idx x27 x12).bind fun x29 =>
  ((some (x27.set (Int.toNat x12) { x29 with Window := { x29.Window with Cell := x28 } })).bind fun x30 =>
  (law11_made_l2 p2 p3 p4 x1 x2 fu2) x30 (w64 (x12 + 1))))))))))))))))))))
 else law11_made_l1 p3 p4 x1 x2 x3 fuel x2.Cells 0)
def law11_made (p1 : (List Int)) (p2 : (List ApiTenantState)) (p3 : (List ApiCellState)) (p4 : Bool) : Option (ApiConfig × ApiState) :=
  ((make_Config p1).bind fun x1 =>
  ((make_State p1 x1 30).bind fun x2 =>
  law11_made_l2 p2 p3 p4 x1 x2 fuel x2.Tenants 0))
def ref11_lost (p1 : ApiConfig) (p2 : ApiTenantState) (p3 : Int) : Option Bool :=
  (((bif ((p2.Placed && (!p2.Shed)) && (decide (0 ≤ p2.Home))) then ref04_RegionOf p1 p2.Home else some default)).bind fun x1 =>
  (some (((p2.Placed && (!p2.Shed)) && (decide (0 ≤ p2.Home))) && (x1 == p3))))
def ref11_Extra_k1 (rc_ref11_Extra_l2 : (List Int) → Int → Option (List Int)) (x1 : Int) (x2 : (List Int)) : Option (List Int) :=
  rc_ref11_Extra_l2 x2 (w64 (x1 + 1))
def ref11_Extra_l2 (p1 : ApiConfig) (p2 : ApiState) (p3 : Int) : Nat → (List Int) → Int → Option (List Int)
  | 0, _, _ => none
  | fu1 + 1, x3, x1 =>
  (bif (decide (x1 < ((p2.Tenants.length : Nat) : Int))) then ((idx p2.Tenants x1).bind fun x4 =>
  ((ref11_lost p1 x4 p3).bind fun x5 =>
  (((bif (x5 && (decide (0 ≤ x4.Standby))) then ref04_RegionOf p1 x4.Standby else some default)).bind fun x6 =>
  (bif ((x5 && (decide (0 ≤ x4.Standby))) && (x6 != p3)) then ((idx p1.Tenants x1).bind fun x7 =>
  ((ref11_add x3 x4.Standby (w64 (x7.Load - x7.Shadow))).bind fun x8 =>
  (chk (decide (x8.length = x3.length))
  (ref11_Extra_k1 (ref11_Extra_l2 p1 p2 p3 fu1) x1 x8))))
 else ref11_Extra_k1 (ref11_Extra_l2 p1 p2 p3 fu1) x1 x3))))
 else (some x3))
def ref11_Extra (p1 : ApiConfig) (p2 : ApiState) (p3 : Int) : Option (List Int) :=
  (chk (decide (0 ≤ ((p1.Cells.length : Nat) : Int) ∧ ((p1.Cells.length : Nat) : Int) ≤ ((p1.Cells.length : Nat) : Int) ∧ ((p1.Cells.length : Nat) : Int) ≤ 9223372036854775807 ∧ ((p1.Cells.length : Nat) : Int) * 8 ≤ 140737488355328))
  (ref11_Extra_l2 p1 p2 p3 fuel (List.replicate (Int.toNat ((p1.Cells.length : Nat) : Int)) (default : Int)) 0))
def ref01_SameInts_l1 (p1 : (List Int)) (p2 : (List Int)) : Nat → Int → Option Bool
  | 0, _ => none
  | fu1 + 1, x1 =>
  (bif (decide (x1 < ((p1.length : Nat) : Int))) then ((idx p1 x1).bind fun x2 =>
  ((idx p2 x1).bind fun x3 =>
  (bif (x2 != x3) then (some false)
 else (ref01_SameInts_l1 p1 p2 fu1) (w64 (x1 + 1)))))
 else (some true))
def ref01_SameInts (p1 : (List Int)) (p2 : (List Int)) : Option Bool :=
  (bif (((p1.length : Nat) : Int) != ((p2.length : Nat) : Int)) then (some false)
 else ref01_SameInts_l1 p1 p2 fuel 0)
def ref11_Headroom_k1 (rc_ref11_Headroom_l2 : Int → Option Bool) (x1 : Int) : Option Bool :=
  rc_ref11_Headroom_l2 (w64 (x1 + 1))
def ref11_Headroom_l2 (p1 : ApiConfig) (p2 : ApiState) (p3 : Int) : Nat → Int → Option Bool
  | 0, _ => none
  | fu1 + 1, x1 =>
  (bif (decide (x1 < ((p2.Tenants.length : Nat) : Int))) then ((idx p2.Tenants x1).bind fun x2 =>
  ((ref11_lost p1 x2 p3).bind fun x3 =>
  (bif (!x3) then ref11_Headroom_k1 (ref11_Headroom_l2 p1 p2 p3 fu1) x1
 else ((ref04_RegionOf p1 x2.Standby).bind fun x4 =>
  (((bif (!((decide (x4 < 0)) || (x4 == p3))) then ref04_Has p2.Evacuating x4 else some default)).bind fun x5 =>
  (bif (((decide (x4 < 0)) || (x4 == p3)) || x5) then (some false)
 else ((idx p2.Cells x2.Standby).bind fun x6 =>
  (bif ((x6.Mode != 1) || (x6.Running != x6.Wanted)) then (some false)
 else ref11_Headroom_k1 (ref11_Headroom_l2 p1 p2 p3 fu1) x1))))))))
 else (some true))
def ref11_Headroom_l3 (p1 : ApiConfig) (p2 : ApiState) (p3 : Int) (x7 : (List Int)) (x8 : (List Int)) : Nat → Int → Option Bool
  | 0, _ => none
  | fu2 + 1, x9 =>
  (bif (decide (x9 < ((x7.length : Nat) : Int))) then ((ref04_RegionOf p1 x9).bind fun x10 =>
  ((idxG (x10 != p3) x7 x9).bind fun x11 =>
  ((idxG (x10 != p3) x8 x9).bind fun x12 =>
  ((idxG (x10 != p3) p1.Cells x9).bind fun x13 =>
  (bif ((x10 != p3) && (decide (x13.Capacity < (w64 (x11 + x12))))) then (some false)
 else (ref11_Headroom_l3 p1 p2 p3 x7 x8 fu2) (w64 (x9 + 1)))))))
 else ref11_Headroom_l2 p1 p2 p3 fuel 0)
def ref11_Headroom (p1 : ApiConfig) (p2 : ApiState) (p3 : Int) : Option Bool :=
  (bif ((decide (p3 < 0)) || (decide (p1.Regions ≤ p3))) then (some false)
 else ((ref11_Booked p1 p2).bind fun x7 =>
  ((ref11_Extra p1 p2 p3).bind fun x8 =>
  ref11_Headroom_l3 p1 p2 p3 x7 x8 fuel 0)))
def law11_LoadHeadroom_k1 (p5 : Int) (x1 : (ApiConfig × ApiState)) (x2 : Int) : Option Bool :=
  ((make_Between p5 (-1) 3).bind fun x3 =>
  ((law11_awake).bind fun x4 =>
  (((bif x4 then load_Extra x1.1 { x1.2 with Evacuating := x2 } p5 else some default)).bind fun x5 =>
  (((bif x4 then ref11_Extra x1.1 { x1.2 with Evacuating := x2 } p5 else some default)).bind fun x6 =>
  (((bif x4 then ref01_SameInts x5 x6 else some default)).bind fun x7 =>
  (((bif (x4 && x7) then load_Extra x1.1 { x1.2 with Evacuating := x2 } x3 else some default)).bind fun x8 =>
  (((bif (x4 && x7) then ref11_Extra x1.1 { x1.2 with Evacuating := x2 } x3 else some default)).bind fun x9 =>
  (((bif (x4 && x7) then ref01_SameInts x8 x9 else some default)).bind fun x10 =>
  (((bif ((x4 && x7) && x10) then load_Headroom x1.1 { x1.2 with Evacuating := x2 } p5 else some default)).bind fun x11 =>
  (((bif ((x4 && x7) && x10) then ref11_Headroom x1.1 { x1.2 with Evacuating := x2 } p5 else some default)).bind fun x12 =>
  (((bif (((x4 && x7) && x10) && (x11 == x12)) then load_Headroom x1.1 { x1.2 with Evacuating := x2 } x3 else some default)).bind fun x13 =>
  (((bif (((x4 && x7) && x10) && (x11 == x12)) then ref11_Headroom x1.1 { x1.2 with Evacuating := x2 } x3 else some default)).bind fun x14 =>
  (some ((((x4 && x7) && x10) && (x11 == x12)) && (x13 == x14)))))))))))))))
def law11_LoadHeadroom (p1 : (List Int)) (p2 : (List ApiTenantState)) (p3 : (List ApiCellState)) (p4 : Bool) (p5 : Int) (p6 : Int) : Option Bool :=
  ((make_Light p1).bind fun x15 =>
  (bif (((!x15) || (decide (10 < ((p2.length : Nat) : Int)))) || (decide (20 < ((p3.length : Nat) : Int)))) then ((law11_awake).bind fun x16 =>
  (some x16))
 else ((law11_made p1 p2 p3 p4).bind fun x1 =>
  (bif p4 then ((make_Mod p6 8).bind fun x17 =>
  law11_LoadHeadroom_k1 p5 x1 x17)
 else law11_LoadHeadroom_k1 p5 x1 x1.2.Evacuating))))
end Go.CP
