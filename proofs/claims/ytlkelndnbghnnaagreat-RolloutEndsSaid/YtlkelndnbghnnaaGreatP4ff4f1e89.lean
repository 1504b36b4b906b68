/- Which entries are right. -/
import Derived.Test.YtlkelndnbghnnaaGreatP310466c51
namespace Go.CP
open Go
set_option linter.unusedSimpArgs false
set_option linter.unusedVariables false
theorem has_lit [Fuel] {k b : Int} {r : Option Bool} (h : ((ref06_uses k).bind fun x => ref06_has_l1 b x 18446744073709551616 0) = r) : ref06_has k b = r := by
 unfold ref06_has; rw [fuel_eq]; exact h
theorem has_1_116 [Fuel] : ref06_has 1 116 = some true := has_lit rfl
theorem has_1_99 [Fuel] : ref06_has 1 99 = some true := has_lit rfl
theorem has_1_67 [Fuel] : ref06_has 1 67 = some false := has_lit rfl
theorem has_1_111 [Fuel] : ref06_has 1 111 = some true := has_lit rfl
theorem has_1_114 [Fuel] : ref06_has 1 114 = some false := has_lit rfl
theorem has_1_101 [Fuel] : ref06_has 1 101 = some false := has_lit rfl
theorem has_1_119 [Fuel] : ref06_has 1 119 = some false := has_lit rfl
theorem has_1_118 [Fuel] : ref06_has 1 118 = some false := has_lit rfl
theorem has_1_98 [Fuel] : ref06_has 1 98 = some false := has_lit rfl
theorem has_1_109 [Fuel] : ref06_has 1 109 = some false := has_lit rfl
theorem has_1_110 [Fuel] : ref06_has 1 110 = some false := has_lit rfl
theorem has_2_116 [Fuel] : ref06_has 2 116 = some true := has_lit rfl
theorem has_2_99 [Fuel] : ref06_has 2 99 = some true := has_lit rfl
theorem has_2_67 [Fuel] : ref06_has 2 67 = some false := has_lit rfl
theorem has_2_111 [Fuel] : ref06_has 2 111 = some false := has_lit rfl
theorem has_2_114 [Fuel] : ref06_has 2 114 = some false := has_lit rfl
theorem has_2_101 [Fuel] : ref06_has 2 101 = some true := has_lit rfl
theorem has_2_119 [Fuel] : ref06_has 2 119 = some true := has_lit rfl
theorem has_2_118 [Fuel] : ref06_has 2 118 = some true := has_lit rfl
theorem has_2_98 [Fuel] : ref06_has 2 98 = some false := has_lit rfl
theorem has_2_109 [Fuel] : ref06_has 2 109 = some false := has_lit rfl
theorem has_2_110 [Fuel] : ref06_has 2 110 = some false := has_lit rfl
theorem has_3_116 [Fuel] : ref06_has 3 116 = some true := has_lit rfl
theorem has_3_99 [Fuel] : ref06_has 3 99 = some false := has_lit rfl
theorem has_3_67 [Fuel] : ref06_has 3 67 = some false := has_lit rfl
theorem has_3_111 [Fuel] : ref06_has 3 111 = some false := has_lit rfl
theorem has_3_114 [Fuel] : ref06_has 3 114 = some false := has_lit rfl
theorem has_3_101 [Fuel] : ref06_has 3 101 = some true := has_lit rfl
theorem has_3_119 [Fuel] : ref06_has 3 119 = some false := has_lit rfl
theorem has_3_118 [Fuel] : ref06_has 3 118 = some false := has_lit rfl
theorem has_3_98 [Fuel] : ref06_has 3 98 = some false := has_lit rfl
theorem has_3_109 [Fuel] : ref06_has 3 109 = some false := has_lit rfl
theorem has_3_110 [Fuel] : ref06_has 3 110 = some false := has_lit rfl
theorem has_4_116 [Fuel] : ref06_has 4 116 = some true := has_lit rfl
theorem has_4_99 [Fuel] : ref06_has 4 99 = some false := has_lit rfl
theorem has_4_67 [Fuel] : ref06_has 4 67 = some true := has_lit rfl
theorem has_4_111 [Fuel] : ref06_has 4 111 = some false := has_lit rfl
theorem has_4_114 [Fuel] : ref06_has 4 114 = some false := has_lit rfl
theorem has_4_101 [Fuel] : ref06_has 4 101 = some false := has_lit rfl
theorem has_4_119 [Fuel] : ref06_has 4 119 = some false := has_lit rfl
theorem has_4_118 [Fuel] : ref06_has 4 118 = some false := has_lit rfl
theorem has_4_98 [Fuel] : ref06_has 4 98 = some false := has_lit rfl
theorem has_4_109 [Fuel] : ref06_has 4 109 = some false := has_lit rfl
theorem has_4_110 [Fuel] : ref06_has 4 110 = some false := has_lit rfl
theorem has_5_116 [Fuel] : ref06_has 5 116 = some true := has_lit rfl
theorem has_5_99 [Fuel] : ref06_has 5 99 = some true := has_lit rfl
theorem has_5_67 [Fuel] : ref06_has 5 67 = some false := has_lit rfl
theorem has_5_111 [Fuel] : ref06_has 5 111 = some false := has_lit rfl
theorem has_5_114 [Fuel] : ref06_has 5 114 = some false := has_lit rfl
theorem has_5_101 [Fuel] : ref06_has 5 101 = some false := has_lit rfl
theorem has_5_119 [Fuel] : ref06_has 5 119 = some false := has_lit rfl
theorem has_5_118 [Fuel] : ref06_has 5 118 = some false := has_lit rfl
theorem has_5_98 [Fuel] : ref06_has 5 98 = some false := has_lit rfl
theorem has_5_109 [Fuel] : ref06_has 5 109 = some false := has_lit rfl
theorem has_5_110 [Fuel] : ref06_has 5 110 = some false := has_lit rfl
theorem has_6_116 [Fuel] : ref06_has 6 116 = some true := has_lit rfl
theorem has_6_99 [Fuel] : ref06_has 6 99 = some true := has_lit rfl
theorem has_6_67 [Fuel] : ref06_has 6 67 = some false := has_lit rfl
theorem has_6_111 [Fuel] : ref06_has 6 111 = some false := has_lit rfl
theorem has_6_114 [Fuel] : ref06_has 6 114 = some false := has_lit rfl
theorem has_6_101 [Fuel] : ref06_has 6 101 = some false := has_lit rfl
theorem has_6_119 [Fuel] : ref06_has 6 119 = some false := has_lit rfl
theorem has_6_118 [Fuel] : ref06_has 6 118 = some false := has_lit rfl
theorem has_6_98 [Fuel] : ref06_has 6 98 = some false := has_lit rfl
theorem has_6_109 [Fuel] : ref06_has 6 109 = some false := has_lit rfl
theorem has_6_110 [Fuel] : ref06_has 6 110 = some false := has_lit rfl
theorem has_7_116 [Fuel] : ref06_has 7 116 = some true := has_lit rfl
theorem has_7_99 [Fuel] : ref06_has 7 99 = some false := has_lit rfl
theorem has_7_67 [Fuel] : ref06_has 7 67 = some false := has_lit rfl
theorem has_7_111 [Fuel] : ref06_has 7 111 = some false := has_lit rfl
theorem has_7_114 [Fuel] : ref06_has 7 114 = some false := has_lit rfl
theorem has_7_101 [Fuel] : ref06_has 7 101 = some false := has_lit rfl
theorem has_7_119 [Fuel] : ref06_has 7 119 = some false := has_lit rfl
theorem has_7_118 [Fuel] : ref06_has 7 118 = some false := has_lit rfl
theorem has_7_98 [Fuel] : ref06_has 7 98 = some false := has_lit rfl
theorem has_7_109 [Fuel] : ref06_has 7 109 = some false := has_lit rfl
theorem has_7_110 [Fuel] : ref06_has 7 110 = some false := has_lit rfl
theorem has_8_116 [Fuel] : ref06_has 8 116 = some true := has_lit rfl
theorem has_8_99 [Fuel] : ref06_has 8 99 = some false := has_lit rfl
theorem has_8_67 [Fuel] : ref06_has 8 67 = some false := has_lit rfl
theorem has_8_111 [Fuel] : ref06_has 8 111 = some false := has_lit rfl
theorem has_8_114 [Fuel] : ref06_has 8 114 = some false := has_lit rfl
theorem has_8_101 [Fuel] : ref06_has 8 101 = some false := has_lit rfl
theorem has_8_119 [Fuel] : ref06_has 8 119 = some false := has_lit rfl
theorem has_8_118 [Fuel] : ref06_has 8 118 = some false := has_lit rfl
theorem has_8_98 [Fuel] : ref06_has 8 98 = some true := has_lit rfl
theorem has_8_109 [Fuel] : ref06_has 8 109 = some false := has_lit rfl
theorem has_8_110 [Fuel] : ref06_has 8 110 = some false := has_lit rfl
theorem has_9_116 [Fuel] : ref06_has 9 116 = some false := has_lit rfl
theorem has_9_99 [Fuel] : ref06_has 9 99 = some true := has_lit rfl
theorem has_9_67 [Fuel] : ref06_has 9 67 = some false := has_lit rfl
theorem has_9_111 [Fuel] : ref06_has 9 111 = some false := has_lit rfl
theorem has_9_114 [Fuel] : ref06_has 9 114 = some false := has_lit rfl
theorem has_9_101 [Fuel] : ref06_has 9 101 = some false := has_lit rfl
theorem has_9_119 [Fuel] : ref06_has 9 119 = some false := has_lit rfl
theorem has_9_118 [Fuel] : ref06_has 9 118 = some false := has_lit rfl
theorem has_9_98 [Fuel] : ref06_has 9 98 = some false := has_lit rfl
theorem has_9_109 [Fuel] : ref06_has 9 109 = some true := has_lit rfl
theorem has_9_110 [Fuel] : ref06_has 9 110 = some false := has_lit rfl
theorem has_10_116 [Fuel] : ref06_has 10 116 = some false := has_lit rfl
theorem has_10_99 [Fuel] : ref06_has 10 99 = some true := has_lit rfl
theorem has_10_67 [Fuel] : ref06_has 10 67 = some false := has_lit rfl
theorem has_10_111 [Fuel] : ref06_has 10 111 = some false := has_lit rfl
theorem has_10_114 [Fuel] : ref06_has 10 114 = some false := has_lit rfl
theorem has_10_101 [Fuel] : ref06_has 10 101 = some false := has_lit rfl
theorem has_10_119 [Fuel] : ref06_has 10 119 = some false := has_lit rfl
theorem has_10_118 [Fuel] : ref06_has 10 118 = some true := has_lit rfl
theorem has_10_98 [Fuel] : ref06_has 10 98 = some false := has_lit rfl
theorem has_10_109 [Fuel] : ref06_has 10 109 = some false := has_lit rfl
theorem has_10_110 [Fuel] : ref06_has 10 110 = some false := has_lit rfl
theorem has_11_116 [Fuel] : ref06_has 11 116 = some false := has_lit rfl
theorem has_11_99 [Fuel] : ref06_has 11 99 = some true := has_lit rfl
theorem has_11_67 [Fuel] : ref06_has 11 67 = some false := has_lit rfl
theorem has_11_111 [Fuel] : ref06_has 11 111 = some false := has_lit rfl
theorem has_11_114 [Fuel] : ref06_has 11 114 = some false := has_lit rfl
theorem has_11_101 [Fuel] : ref06_has 11 101 = some false := has_lit rfl
theorem has_11_119 [Fuel] : ref06_has 11 119 = some false := has_lit rfl
theorem has_11_118 [Fuel] : ref06_has 11 118 = some true := has_lit rfl
theorem has_11_98 [Fuel] : ref06_has 11 98 = some false := has_lit rfl
theorem has_11_109 [Fuel] : ref06_has 11 109 = some false := has_lit rfl
theorem has_11_110 [Fuel] : ref06_has 11 110 = some false := has_lit rfl
theorem has_12_116 [Fuel] : ref06_has 12 116 = some false := has_lit rfl
theorem has_12_99 [Fuel] : ref06_has 12 99 = some false := has_lit rfl
theorem has_12_67 [Fuel] : ref06_has 12 67 = some false := has_lit rfl
theorem has_12_111 [Fuel] : ref06_has 12 111 = some false := has_lit rfl
theorem has_12_114 [Fuel] : ref06_has 12 114 = some false := has_lit rfl
theorem has_12_101 [Fuel] : ref06_has 12 101 = some false := has_lit rfl
theorem has_12_119 [Fuel] : ref06_has 12 119 = some false := has_lit rfl
theorem has_12_118 [Fuel] : ref06_has 12 118 = some true := has_lit rfl
theorem has_12_98 [Fuel] : ref06_has 12 98 = some false := has_lit rfl
theorem has_12_109 [Fuel] : ref06_has 12 109 = some false := has_lit rfl
theorem has_12_110 [Fuel] : ref06_has 12 110 = some false := has_lit rfl
theorem has_13_116 [Fuel] : ref06_has 13 116 = some false := has_lit rfl
theorem has_13_99 [Fuel] : ref06_has 13 99 = some false := has_lit rfl
theorem has_13_67 [Fuel] : ref06_has 13 67 = some false := has_lit rfl
theorem has_13_111 [Fuel] : ref06_has 13 111 = some false := has_lit rfl
theorem has_13_114 [Fuel] : ref06_has 13 114 = some true := has_lit rfl
theorem has_13_101 [Fuel] : ref06_has 13 101 = some false := has_lit rfl
theorem has_13_119 [Fuel] : ref06_has 13 119 = some false := has_lit rfl
theorem has_13_118 [Fuel] : ref06_has 13 118 = some false := has_lit rfl
theorem has_13_98 [Fuel] : ref06_has 13 98 = some true := has_lit rfl
theorem has_13_109 [Fuel] : ref06_has 13 109 = some false := has_lit rfl
theorem has_13_110 [Fuel] : ref06_has 13 110 = some false := has_lit rfl
theorem has_14_116 [Fuel] : ref06_has 14 116 = some false := has_lit rfl
theorem has_14_99 [Fuel] : ref06_has 14 99 = some false := has_lit rfl
theorem has_14_67 [Fuel] : ref06_has 14 67 = some false := has_lit rfl
theorem has_14_111 [Fuel] : ref06_has 14 111 = some false := has_lit rfl
theorem has_14_114 [Fuel] : ref06_has 14 114 = some false := has_lit rfl
theorem has_14_101 [Fuel] : ref06_has 14 101 = some false := has_lit rfl
theorem has_14_119 [Fuel] : ref06_has 14 119 = some false := has_lit rfl
theorem has_14_118 [Fuel] : ref06_has 14 118 = some false := has_lit rfl
theorem has_14_98 [Fuel] : ref06_has 14 98 = some false := has_lit rfl
theorem has_14_109 [Fuel] : ref06_has 14 109 = some false := has_lit rfl
theorem has_14_110 [Fuel] : ref06_has 14 110 = some false := has_lit rfl
theorem has_15_116 [Fuel] : ref06_has 15 116 = some false := has_lit rfl
theorem has_15_99 [Fuel] : ref06_has 15 99 = some false := has_lit rfl
theorem has_15_67 [Fuel] : ref06_has 15 67 = some false := has_lit rfl
theorem has_15_111 [Fuel] : ref06_has 15 111 = some false := has_lit rfl
theorem has_15_114 [Fuel] : ref06_has 15 114 = some false := has_lit rfl
theorem has_15_101 [Fuel] : ref06_has 15 101 = some false := has_lit rfl
theorem has_15_119 [Fuel] : ref06_has 15 119 = some false := has_lit rfl
theorem has_15_118 [Fuel] : ref06_has 15 118 = some false := has_lit rfl
theorem has_15_98 [Fuel] : ref06_has 15 98 = some false := has_lit rfl
theorem has_15_109 [Fuel] : ref06_has 15 109 = some false := has_lit rfl
theorem has_15_110 [Fuel] : ref06_has 15 110 = some false := has_lit rfl
theorem has_16_116 [Fuel] : ref06_has 16 116 = some false := has_lit rfl
theorem has_16_99 [Fuel] : ref06_has 16 99 = some false := has_lit rfl
theorem has_16_67 [Fuel] : ref06_has 16 67 = some false := has_lit rfl
theorem has_16_111 [Fuel] : ref06_has 16 111 = some false := has_lit rfl
theorem has_16_114 [Fuel] : ref06_has 16 114 = some false := has_lit rfl
theorem has_16_101 [Fuel] : ref06_has 16 101 = some false := has_lit rfl
theorem has_16_119 [Fuel] : ref06_has 16 119 = some false := has_lit rfl
theorem has_16_118 [Fuel] : ref06_has 16 118 = some false := has_lit rfl
theorem has_16_98 [Fuel] : ref06_has 16 98 = some false := has_lit rfl
theorem has_16_109 [Fuel] : ref06_has 16 109 = some false := has_lit rfl
theorem has_16_110 [Fuel] : ref06_has 16 110 = some true := has_lit rfl
def tOk (c : ApiConfig) (e : ApiEntry) : Prop := 0 ≤ e.Tenant ∧ e.Tenant < (c.Tenants.length : Int)
def cOk (c : ApiConfig) (e : ApiEntry) : Prop := 0 ≤ e.Cell ∧ e.Cell < (c.Cells.length : Int)
def oN (e : ApiEntry) : Prop := e.Other = -1
def eN (e : ApiEntry) : Prop := e.Epoch = 0 ∧ e.From = 0 ∧ e.Until = 0
def vOk (c : ApiConfig) (e : ApiEntry) : Prop := 0 ≤ e.N ∧ e.N < (c.Versions.length : Int)
inductive KindP (c : ApiConfig) (e : ApiEntry) : Prop
 | place (k : e.Kind = 1) (t : tOk c e) (ce : cOk c e) (o : -1 ≤ e.Other ∧ e.Other < (c.Cells.length : Int) ∧ e.Other ≠ e.Cell) (w : eN e) (n : e.N = 0)
 | grant (k : e.Kind = 2) (t : tOk c e) (ce : cOk c e) (o : oN e) (ep : 1 ≤ e.Epoch ∧ e.Epoch ≤ 1048576) (w : 0 ≤ e.From ∧ e.From ≤ 1073741824 ∧ 0 ≤ e.Until ∧ e.Until ≤ 1073741824) (n : vOk c e)
 | cut (k : e.Kind = 3) (t : tOk c e) (ce : e.Cell = -1) (o : oN e) (ep : 1 ≤ e.Epoch ∧ e.Epoch ≤ 1048576) (w : e.From = 0 ∧ e.Until = 0) (n : e.N = 0)
 | standby (k : e.Kind = 4) (t : tOk c e) (ce : -1 ≤ e.Cell ∧ e.Cell < (c.Cells.length : Int)) (o : oN e) (w : eN e) (n : e.N = 0)
 | ready (k : e.Kind = 5) (t : tOk c e) (ce : cOk c e) (o : oN e) (w : eN e) (n : e.N = 0)
 | migrate (k : e.Kind = 6) (t : tOk c e) (ce : cOk c e) (o : oN e) (w : eN e) (n : e.N = 0)
 | abandon (k : e.Kind = 7) (t : tOk c e) (ce : e.Cell = -1) (o : oN e) (w : eN e) (n : e.N = 0)
 | shed (k : e.Kind = 8) (t : tOk c e) (ce : e.Cell = -1) (o : oN e) (w : eN e) (n : e.N = 0 ∨ e.N = 1)
 | mode (k : e.Kind = 9) (t : e.Tenant = -1) (ce : cOk c e) (o : oN e) (w : eN e) (n : 1 ≤ e.N ∧ e.N ≤ 3)
 | want (k : e.Kind = 10) (t : e.Tenant = -1) (ce : cOk c e) (o : oN e) (w : eN e) (n : vOk c e)
 | runs (k : e.Kind = 11) (t : e.Tenant = -1) (ce : cOk c e) (o : oN e) (w : eN e) (n : vOk c e)
 | prove (k : e.Kind = 12) (t : e.Tenant = -1) (ce : e.Cell = -1) (o : oN e) (w : eN e) (n : vOk c e)
 | evac (k : e.Kind = 13) (t : e.Tenant = -1) (ce : e.Cell = -1) (o : 0 ≤ e.Other ∧ e.Other < c.Regions) (w : eN e) (n : e.N = 0 ∨ e.N = 1)
 | expand (k : e.Kind = 14) (t : e.Tenant = -1) (ce : e.Cell = -1) (o : oN e) (w : eN e) (n : e.N = 0)
 | contract (k : e.Kind = 15) (t : e.Tenant = -1) (ce : e.Cell = -1) (o : oN e) (w : eN e) (n : e.N = 0)
 | note (k : e.Kind = 16) (t : e.Tenant = -1) (ce : e.Cell = -1) (o : oN e) (w : eN e) (n : 0 ≤ e.N ∧ e.N ≤ 1073741824)
def ValidP (c : ApiConfig) (e : ApiEntry) : Prop := (0 ≤ e.Tick ∧ e.Tick ≤ 1073741824) ∧ KindP c e
section
variable {c : ApiConfig} {e : ApiEntry}
theorem core_1 [Fuel] (h : VC c) (hk : e.Kind = 1) : (Option.bind (ref06_places e ((c.Tenants.length : Nat) : Int) ((c.Cells.length : Nat) : Int) c.Regions) fun x8 => Option.bind (bif x8 then ref06_numbers e ((c.Versions.length : Nat) : Int) else some default) fun x9 => some (x8 && x9)) = some ((e.Tenant != (-1)) && (decide (0 ≤ e.Tenant) && decide (e.Tenant ≤ ((c.Tenants.length : Nat) : Int) - 1)) && (decide (0 ≤ e.Cell) && decide (e.Cell ≤ ((c.Cells.length : Nat) : Int) - 1)) && (decide (-1 ≤ e.Other) && decide (e.Other ≤ ((c.Cells.length : Nat) : Int) - 1)) && !(e.Other == e.Cell) && !(e.Epoch != 0) && !(e.From != 0) && !(e.Until != 0) && (e.N == 0)) := by
 have htl := h.tl; have hcl := h.cl; have hvl := h.vl; have hreg := h.reg
 unfold ref06_places ref06_places_k2 ref06_places_k1 ref06_numbers ref06_numbers_k2 ref06_numbers_k1; (try simp only [ixL_b, letD])
 rw [w64_eq (x := ((c.Tenants.length : Nat) : Int) - 1) (by omega) (by omega), w64_eq (x := ((c.Cells.length : Nat) : Int) - 1) (by omega) (by omega), w64_eq (x := c.Regions - 1) (by omega) (by omega), w64_eq (x := ((c.Versions.length : Nat) : Int) - 1) (by omega) (by omega)]
 simp only [hk, has_1_116, has_1_99, has_1_67, has_1_111, has_1_114, has_1_101, has_1_119, has_1_118, has_1_98, has_1_109, has_1_110, ref06_in, Option.bind_some, cond_true, cond_false, show (default : Bool) = false from rfl, Bool.not_true, Bool.not_false, Bool.true_and, Bool.false_and, Bool.and_true, Bool.and_false, Bool.or_true, Bool.true_or, Bool.false_or, Bool.or_false]
 generalize (e.Tenant != (-1)) = a0
 generalize (decide (0 ≤ e.Tenant) && decide (e.Tenant ≤ ((c.Tenants.length : Nat) : Int) - 1)) = a1
 generalize (decide (0 ≤ e.Cell) && decide (e.Cell ≤ ((c.Cells.length : Nat) : Int) - 1)) = a2
 generalize (decide (-1 ≤ e.Other) && decide (e.Other ≤ ((c.Cells.length : Nat) : Int) - 1)) = a3
 generalize (e.Other == e.Cell) = a4
 generalize (e.Epoch != 0) = a5
 generalize (e.From != 0) = a6
 generalize (e.Until != 0) = a7
 generalize (e.N == 0) = a8
 revert a0 a1 a2 a3 a4 a5 a6 a7 a8
 decide
theorem kind_1 [Fuel] (h : VC c) (hk : e.Kind = 1) : ((e.Tenant != (-1)) && (decide (0 ≤ e.Tenant) && decide (e.Tenant ≤ ((c.Tenants.length : Nat) : Int) - 1)) && (decide (0 ≤ e.Cell) && decide (e.Cell ≤ ((c.Cells.length : Nat) : Int) - 1)) && (decide (-1 ≤ e.Other) && decide (e.Other ≤ ((c.Cells.length : Nat) : Int) - 1)) && !(e.Other == e.Cell) && !(e.Epoch != 0) && !(e.From != 0) && !(e.Until != 0) && (e.N == 0)) = true ↔ KindP c e := by
 simp only [Bool.and_eq_true, decide_eq_true_eq, Bool.not_eq_true', bne_iff_ne, ne_eq, beq_iff_eq, beq_eq_false_iff_ne, bne_eq_false_iff_eq]
 constructor
 ·intro q
  refine .place hk ?_ ?_ ?_ ?_ ?_ <;> first | (simp only [tOk, cOk, oN, eN, vOk]; omega) | omega
 ·intro q
  cases q <;> simp only [tOk, cOk, oN, eN, vOk] at * <;> omega
theorem core_2 [Fuel] (h : VC c) (hk : e.Kind = 2) : (Option.bind (ref06_places e ((c.Tenants.length : Nat) : Int) ((c.Cells.length : Nat) : Int) c.Regions) fun x8 => Option.bind (bif x8 then ref06_numbers e ((c.Versions.length : Nat) : Int) else some default) fun x9 => some (x8 && x9)) = some ((e.Tenant != (-1)) && (decide (0 ≤ e.Tenant) && decide (e.Tenant ≤ ((c.Tenants.length : Nat) : Int) - 1)) && (decide (0 ≤ e.Cell) && decide (e.Cell ≤ ((c.Cells.length : Nat) : Int) - 1)) && !(e.Other != (-1)) && (decide (1 ≤ e.Epoch) && decide (e.Epoch ≤ 1048576)) && (decide (0 ≤ e.From) && decide (e.From ≤ 1073741824)) && (decide (0 ≤ e.Until) && decide (e.Until ≤ 1073741824)) && (decide (0 ≤ e.N) && decide (e.N ≤ ((c.Versions.length : Nat) : Int) - 1))) := by
 have htl := h.tl; have hcl := h.cl; have hvl := h.vl; have hreg := h.reg
 unfold ref06_places ref06_places_k2 ref06_places_k1 ref06_numbers ref06_numbers_k2 ref06_numbers_k1; (try simp only [ixL_b, letD])
 rw [w64_eq (x := ((c.Tenants.length : Nat) : Int) - 1) (by omega) (by omega), w64_eq (x := ((c.Cells.length : Nat) : Int) - 1) (by omega) (by omega), w64_eq (x := c.Regions - 1) (by omega) (by omega), w64_eq (x := ((c.Versions.length : Nat) : Int) - 1) (by omega) (by omega)]
 simp only [hk, has_2_116, has_2_99, has_2_67, has_2_111, has_2_114, has_2_101, has_2_119, has_2_118, has_2_98, has_2_109, has_2_110, ref06_in, Option.bind_some, cond_true, cond_false, show (default : Bool) = false from rfl, Bool.not_true, Bool.not_false, Bool.true_and, Bool.false_and, Bool.and_true, Bool.and_false, Bool.or_true, Bool.true_or, Bool.false_or, Bool.or_false]
 generalize (e.Tenant != (-1)) = a0
 generalize (decide (0 ≤ e.Tenant) && decide (e.Tenant ≤ ((c.Tenants.length : Nat) : Int) - 1)) = a1
 generalize (decide (0 ≤ e.Cell) && decide (e.Cell ≤ ((c.Cells.length : Nat) : Int) - 1)) = a2
 generalize (e.Other != (-1)) = a3
 generalize (decide (1 ≤ e.Epoch) && decide (e.Epoch ≤ 1048576)) = a5
 generalize (decide (0 ≤ e.From) && decide (e.From ≤ 1073741824)) = a6
 generalize (decide (0 ≤ e.Until) && decide (e.Until ≤ 1073741824)) = a7
 generalize (decide (0 ≤ e.N) && decide (e.N ≤ ((c.Versions.length : Nat) : Int) - 1)) = a8
 revert a0 a1 a2 a3 a5 a6 a7 a8
 decide
theorem kind_2 [Fuel] (h : VC c) (hk : e.Kind = 2) : ((e.Tenant != (-1)) && (decide (0 ≤ e.Tenant) && decide (e.Tenant ≤ ((c.Tenants.length : Nat) : Int) - 1)) && (decide (0 ≤ e.Cell) && decide (e.Cell ≤ ((c.Cells.length : Nat) : Int) - 1)) && !(e.Other != (-1)) && (decide (1 ≤ e.Epoch) && decide (e.Epoch ≤ 1048576)) && (decide (0 ≤ e.From) && decide (e.From ≤ 1073741824)) && (decide (0 ≤ e.Until) && decide (e.Until ≤ 1073741824)) && (decide (0 ≤ e.N) && decide (e.N ≤ ((c.Versions.length : Nat) : Int) - 1))) = true ↔ KindP c e := by
 simp only [Bool.and_eq_true, decide_eq_true_eq, Bool.not_eq_true', bne_iff_ne, ne_eq, beq_iff_eq, beq_eq_false_iff_ne, bne_eq_false_iff_eq]
 constructor
 ·intro q
  refine .grant hk ?_ ?_ ?_ ?_ ?_ ?_ <;> first | (simp only [tOk, cOk, oN, eN, vOk]; omega) | omega
 ·intro q
  cases q <;> simp only [tOk, cOk, oN, eN, vOk] at * <;> omega
theorem core_3 [Fuel] (h : VC c) (hk : e.Kind = 3) : (Option.bind (ref06_places e ((c.Tenants.length : Nat) : Int) ((c.Cells.length : Nat) : Int) c.Regions) fun x8 => Option.bind (bif x8 then ref06_numbers e ((c.Versions.length : Nat) : Int) else some default) fun x9 => some (x8 && x9)) = some ((e.Tenant != (-1)) && (decide (0 ≤ e.Tenant) && decide (e.Tenant ≤ ((c.Tenants.length : Nat) : Int) - 1)) && !(e.Cell != (-1)) && !(e.Other != (-1)) && (decide (1 ≤ e.Epoch) && decide (e.Epoch ≤ 1048576)) && !(e.From != 0) && !(e.Until != 0) && (e.N == 0)) := by
 have htl := h.tl; have hcl := h.cl; have hvl := h.vl; have hreg := h.reg
 unfold ref06_places ref06_places_k2 ref06_places_k1 ref06_numbers ref06_numbers_k2 ref06_numbers_k1; (try simp only [ixL_b, letD])
 rw [w64_eq (x := ((c.Tenants.length : Nat) : Int) - 1) (by omega) (by omega), w64_eq (x := ((c.Cells.length : Nat) : Int) - 1) (by omega) (by omega), w64_eq (x := c.Regions - 1) (by omega) (by omega), w64_eq (x := ((c.Versions.length : Nat) : Int) - 1) (by omega) (by omega)]
 simp only [hk, has_3_116, has_3_99, has_3_67, has_3_111, has_3_114, has_3_101, has_3_119, has_3_118, has_3_98, has_3_109, has_3_110, ref06_in, Option.bind_some, cond_true, cond_false, show (default : Bool) = false from rfl, Bool.not_true, Bool.not_false, Bool.true_and, Bool.false_and, Bool.and_true, Bool.and_false, Bool.or_true, Bool.true_or, Bool.false_or, Bool.or_false]
 generalize (e.Tenant != (-1)) = a0
 generalize (decide (0 ≤ e.Tenant) && decide (e.Tenant ≤ ((c.Tenants.length : Nat) : Int) - 1)) = a1
 generalize (e.Cell != (-1)) = a2
 generalize (e.Other != (-1)) = a3
 generalize (decide (1 ≤ e.Epoch) && decide (e.Epoch ≤ 1048576)) = a5
 generalize (e.From != 0) = a6
 generalize (e.Until != 0) = a7
 generalize (e.N == 0) = a8
 revert a0 a1 a2 a3 a5 a6 a7 a8
 decide
theorem kind_3 [Fuel] (h : VC c) (hk : e.Kind = 3) : ((e.Tenant != (-1)) && (decide (0 ≤ e.Tenant) && decide (e.Tenant ≤ ((c.Tenants.length : Nat) : Int) - 1)) && !(e.Cell != (-1)) && !(e.Other != (-1)) && (decide (1 ≤ e.Epoch) && decide (e.Epoch ≤ 1048576)) && !(e.From != 0) && !(e.Until != 0) && (e.N == 0)) = true ↔ KindP c e := by
 simp only [Bool.and_eq_true, decide_eq_true_eq, Bool.not_eq_true', bne_iff_ne, ne_eq, beq_iff_eq, beq_eq_false_iff_ne, bne_eq_false_iff_eq]
 constructor
 ·intro q
  refine .cut hk ?_ ?_ ?_ ?_ ?_ ?_ <;> first | (simp only [tOk, cOk, oN, eN, vOk]; omega) | omega
 ·intro q
  cases q <;> simp only [tOk, cOk, oN, eN, vOk] at * <;> omega
theorem core_4 [Fuel] (h : VC c) (hk : e.Kind = 4) : (Option.bind (ref06_places e ((c.Tenants.length : Nat) : Int) ((c.Cells.length : Nat) : Int) c.Regions) fun x8 => Option.bind (bif x8 then ref06_numbers e ((c.Versions.length : Nat) : Int) else some default) fun x9 => some (x8 && x9)) = some ((e.Tenant != (-1)) && (decide (0 ≤ e.Tenant) && decide (e.Tenant ≤ ((c.Tenants.length : Nat) : Int) - 1)) && (decide (-1 ≤ e.Cell) && decide (e.Cell ≤ ((c.Cells.length : Nat) : Int) - 1)) && !(e.Other != (-1)) && !(e.Epoch != 0) && !(e.From != 0) && !(e.Until != 0) && (e.N == 0)) := by
 have htl := h.tl; have hcl := h.cl; have hvl := h.vl; have hreg := h.reg
 unfold ref06_places ref06_places_k2 ref06_places_k1 ref06_numbers ref06_numbers_k2 ref06_numbers_k1; (try simp only [ixL_b, letD])
 rw [w64_eq (x := ((c.Tenants.length : Nat) : Int) - 1) (by omega) (by omega), w64_eq (x := ((c.Cells.length : Nat) : Int) - 1) (by omega) (by omega), w64_eq (x := c.Regions - 1) (by omega) (by omega), w64_eq (x := ((c.Versions.length : Nat) : Int) - 1) (by omega) (by omega)]
 simp only [hk, has_4_116, has_4_99, has_4_67, has_4_111, has_4_114, has_4_101, has_4_119, has_4_118, has_4_98, has_4_109, has_4_110, ref06_in, Option.bind_some, cond_true, cond_false, show (default : Bool) = false from rfl, Bool.not_true, Bool.not_false, Bool.true_and, Bool.false_and, Bool.and_true, Bool.and_false, Bool.or_true, Bool.true_or, Bool.false_or, Bool.or_false]
 generalize (e.Tenant != (-1)) = a0
 generalize (decide (0 ≤ e.Tenant) && decide (e.Tenant ≤ ((c.Tenants.length : Nat) : Int) - 1)) = a1
 generalize (decide (-1 ≤ e.Cell) && decide (e.Cell ≤ ((c.Cells.length : Nat) : Int) - 1)) = a2
 generalize (e.Other != (-1)) = a3
 generalize (e.Epoch != 0) = a5
 generalize (e.From != 0) = a6
 generalize (e.Until != 0) = a7
 generalize (e.N == 0) = a8
 revert a0 a1 a2 a3 a5 a6 a7 a8
 decide
theorem kind_4 [Fuel] (h : VC c) (hk : e.Kind = 4) : ((e.Tenant != (-1)) && (decide (0 ≤ e.Tenant) && decide (e.Tenant ≤ ((c.Tenants.length : Nat) : Int) - 1)) && (decide (-1 ≤ e.Cell) && decide (e.Cell ≤ ((c.Cells.length : Nat) : Int) - 1)) && !(e.Other != (-1)) && !(e.Epoch != 0) && !(e.From != 0) && !(e.Until != 0) && (e.N == 0)) = true ↔ KindP c e := by
 simp only [Bool.and_eq_true, decide_eq_true_eq, Bool.not_eq_true', bne_iff_ne, ne_eq, beq_iff_eq, beq_eq_false_iff_ne, bne_eq_false_iff_eq]
 constructor
 ·intro q
  refine .standby hk ?_ ?_ ?_ ?_ ?_ <;> first | (simp only [tOk, cOk, oN, eN, vOk]; omega) | omega
 ·intro q
  cases q <;> simp only [tOk, cOk, oN, eN, vOk] at * <;> omega
theorem core_5 [Fuel] (h : VC c) (hk : e.Kind = 5) : (Option.bind (ref06_places e ((c.Tenants.length : Nat) : Int) ((c.Cells.length : Nat) : Int) c.Regions) fun x8 => Option.bind (bif x8 then ref06_numbers e ((c.Versions.length : Nat) : Int) else some default) fun x9 => some (x8 && x9)) = some ((e.Tenant != (-1)) && (decide (0 ≤ e.Tenant) && decide (e.Tenant ≤ ((c.Tenants.length : Nat) : Int) - 1)) && (decide (0 ≤ e.Cell) && decide (e.Cell ≤ ((c.Cells.length : Nat) : Int) - 1)) && !(e.Other != (-1)) && !(e.Epoch != 0) && !(e.From != 0) && !(e.Until != 0) && (e.N == 0)) := by
 have htl := h.tl; have hcl := h.cl; have hvl := h.vl; have hreg := h.reg
 unfold ref06_places ref06_places_k2 ref06_places_k1 ref06_numbers ref06_numbers_k2 ref06_numbers_k1; (try simp only [ixL_b, letD])
 rw [w64_eq (x := ((c.Tenants.length : Nat) : Int) - 1) (by omega) (by omega), w64_eq (x := ((c.Cells.length : Nat) : Int) - 1) (by omega) (by omega), w64_eq (x := c.Regions - 1) (by omega) (by omega), w64_eq (x := ((c.Versions.length : Nat) : Int) - 1) (by omega) (by omega)]
 simp only [hk, has_5_116, has_5_99, has_5_67, has_5_111, has_5_114, has_5_101, has_5_119, has_5_118, has_5_98, has_5_109, has_5_110, ref06_in, Option.bind_some, cond_true, cond_false, show (default : Bool) = false from rfl, Bool.not_true, Bool.not_false, Bool.true_and, Bool.false_and, Bool.and_true, Bool.and_false, Bool.or_true, Bool.true_or, Bool.false_or, Bool.or_false]
 generalize (e.Tenant != (-1)) = a0
 generalize (decide (0 ≤ e.Tenant) && decide (e.Tenant ≤ ((c.Tenants.length : Nat) : Int) - 1)) = a1
 generalize (decide (0 ≤ e.Cell) && decide (e.Cell ≤ ((c.Cells.length : Nat) : Int) - 1)) = a2
 generalize (e.Other != (-1)) = a3
 generalize (e.Epoch != 0) = a5
 generalize (e.From != 0) = a6
 generalize (e.Until != 0) = a7
 generalize (e.N == 0) = a8
 revert a0 a1 a2 a3 a5 a6 a7 a8
 decide
theorem kind_5 [Fuel] (h : VC c) (hk : e.Kind = 5) : ((e.Tenant != (-1)) && (decide (0 ≤ e.Tenant) && decide (e.Tenant ≤ ((c.Tenants.length : Nat) : Int) - 1)) && (decide (0 ≤ e.Cell) && decide (e.Cell ≤ ((c.Cells.length : Nat) : Int) - 1)) && !(e.Other != (-1)) && !(e.Epoch != 0) && !(e.From != 0) && !(e.Until != 0) && (e.N == 0)) = true ↔ KindP c e := by
 simp only [Bool.and_eq_true, decide_eq_true_eq, Bool.not_eq_true', bne_iff_ne, ne_eq, beq_iff_eq, beq_eq_false_iff_ne, bne_eq_false_iff_eq]
 constructor
 ·intro q
  refine .ready hk ?_ ?_ ?_ ?_ ?_ <;> first | (simp only [tOk, cOk, oN, eN, vOk]; omega) | omega
 ·intro q
  cases q <;> simp only [tOk, cOk, oN, eN, vOk] at * <;> omega
theorem core_6 [Fuel] (h : VC c) (hk : e.Kind = 6) : (Option.bind (ref06_places e ((c.Tenants.length : Nat) : Int) ((c.Cells.length : Nat) : Int) c.Regions) fun x8 => Option.bind (bif x8 then ref06_numbers e ((c.Versions.length : Nat) : Int) else some default) fun x9 => some (x8 && x9)) = some ((e.Tenant != (-1)) && (decide (0 ≤ e.Tenant) && decide (e.Tenant ≤ ((c.Tenants.length : Nat) : Int) - 1)) && (decide (0 ≤ e.Cell) && decide (e.Cell ≤ ((c.Cells.length : Nat) : Int) - 1)) && !(e.Other != (-1)) && !(e.Epoch != 0) && !(e.From != 0) && !(e.Until != 0) && (e.N == 0)) := by
 have htl := h.tl; have hcl := h.cl; have hvl := h.vl; have hreg := h.reg
 unfold ref06_places ref06_places_k2 ref06_places_k1 ref06_numbers ref06_numbers_k2 ref06_numbers_k1; (try simp only [ixL_b, letD])
 rw [w64_eq (x := ((c.Tenants.length : Nat) : Int) - 1) (by omega) (by omega), w64_eq (x := ((c.Cells.length : Nat) : Int) - 1) (by omega) (by omega), w64_eq (x := c.Regions - 1) (by omega) (by omega), w64_eq (x := ((c.Versions.length : Nat) : Int) - 1) (by omega) (by omega)]
 simp only [hk, has_6_116, has_6_99, has_6_67, has_6_111, has_6_114, has_6_101, has_6_119, has_6_118, has_6_98, has_6_109, has_6_110, ref06_in, Option.bind_some, cond_true, cond_false, show (default : Bool) = false from rfl, Bool.not_true, Bool.not_false, Bool.true_and, Bool.false_and, Bool.and_true, Bool.and_false, Bool.or_true, Bool.true_or, Bool.false_or, Bool.or_false]
 generalize (e.Tenant != (-1)) = a0
 generalize (decide (0 ≤ e.Tenant) && decide (e.Tenant ≤ ((c.Tenants.length : Nat) : Int) - 1)) = a1
 generalize (decide (0 ≤ e.Cell) && decide (e.Cell ≤ ((c.Cells.length : Nat) : Int) - 1)) = a2
 generalize (e.Other != (-1)) = a3
 generalize (e.Epoch != 0) = a5
 generalize (e.From != 0) = a6
 generalize (e.Until != 0) = a7
 generalize (e.N == 0) = a8
 revert a0 a1 a2 a3 a5 a6 a7 a8
 decide
theorem kind_6 [Fuel] (h : VC c) (hk : e.Kind = 6) : ((e.Tenant != (-1)) && (decide (0 ≤ e.Tenant) && decide (e.Tenant ≤ ((c.Tenants.length : Nat) : Int) - 1)) && (decide (0 ≤ e.Cell) && decide (e.Cell ≤ ((c.Cells.length : Nat) : Int) - 1)) && !(e.Other != (-1)) && !(e.Epoch != 0) && !(e.From != 0) && !(e.Until != 0) && (e.N == 0)) = true ↔ KindP c e := by
 simp only [Bool.and_eq_true, decide_eq_true_eq, Bool.not_eq_true', bne_iff_ne, ne_eq, beq_iff_eq, beq_eq_false_iff_ne, bne_eq_false_iff_eq]
 constructor
 ·intro q
  refine .migrate hk ?_ ?_ ?_ ?_ ?_ <;> first | (simp only [tOk, cOk, oN, eN, vOk]; omega) | omega
 ·intro q
  cases q <;> simp only [tOk, cOk, oN, eN, vOk] at * <;> omega
theorem core_7 [Fuel] (h : VC c) (hk : e.Kind = 7) : (Option.bind (ref06_places e ((c.Tenants.length : Nat) : Int) ((c.Cells.length : Nat) : Int) c.Regions) fun x8 => Option.bind (bif x8 then ref06_numbers e ((c.Versions.length : Nat) : Int) else some default) fun x9 => some (x8 && x9)) = some ((e.Tenant != (-1)) && (decide (0 ≤ e.Tenant) && decide (e.Tenant ≤ ((c.Tenants.length : Nat) : Int) - 1)) && !(e.Cell != (-1)) && !(e.Other != (-1)) && !(e.Epoch != 0) && !(e.From != 0) && !(e.Until != 0) && (e.N == 0)) := by
 have htl := h.tl; have hcl := h.cl; have hvl := h.vl; have hreg := h.reg
 unfold ref06_places ref06_places_k2 ref06_places_k1 ref06_numbers ref06_numbers_k2 ref06_numbers_k1; (try simp only [ixL_b, letD])
 rw [w64_eq (x := ((c.Tenants.length : Nat) : Int) - 1) (by omega) (by omega), w64_eq (x := ((c.Cells.length : Nat) : Int) - 1) (by omega) (by omega), w64_eq (x := c.Regions - 1) (by omega) (by omega), w64_eq (x := ((c.Versions.length : Nat) : Int) - 1) (by omega) (by omega)]
 simp only [hk, has_7_116, has_7_99, has_7_67, has_7_111, has_7_114, has_7_101, has_7_119, has_7_118, has_7_98, has_7_109, has_7_110, ref06_in, Option.bind_some, cond_true, cond_false, show (default : Bool) = false from rfl, Bool.not_true, Bool.not_false, Bool.true_and, Bool.false_and, Bool.and_true, Bool.and_false, Bool.or_true, Bool.true_or, Bool.false_or, Bool.or_false]
 generalize (e.Tenant != (-1)) = a0
 generalize (decide (0 ≤ e.Tenant) && decide (e.Tenant ≤ ((c.Tenants.length : Nat) : Int) - 1)) = a1
 generalize (e.Cell != (-1)) = a2
 generalize (e.Other != (-1)) = a3
 generalize (e.Epoch != 0) = a5
 generalize (e.From != 0) = a6
 generalize (e.Until != 0) = a7
 generalize (e.N == 0) = a8
 revert a0 a1 a2 a3 a5 a6 a7 a8
 decide
theorem kind_7 [Fuel] (h : VC c) (hk : e.Kind = 7) : ((e.Tenant != (-1)) && (decide (0 ≤ e.Tenant) && decide (e.Tenant ≤ ((c.Tenants.length : Nat) : Int) - 1)) && !(e.Cell != (-1)) && !(e.Other != (-1)) && !(e.Epoch != 0) && !(e.From != 0) && !(e.Until != 0) && (e.N == 0)) = true ↔ KindP c e := by
 simp only [Bool.and_eq_true, decide_eq_true_eq, Bool.not_eq_true', bne_iff_ne, ne_eq, beq_iff_eq, beq_eq_false_iff_ne, bne_eq_false_iff_eq]
 constructor
 ·intro q
  refine .abandon hk ?_ ?_ ?_ ?_ ?_ <;> first | (simp only [tOk, cOk, oN, eN, vOk]; omega) | omega
 ·intro q
  cases q <;> simp only [tOk, cOk, oN, eN, vOk] at * <;> omega
theorem core_8 [Fuel] (h : VC c) (hk : e.Kind = 8) : (Option.bind (ref06_places e ((c.Tenants.length : Nat) : Int) ((c.Cells.length : Nat) : Int) c.Regions) fun x8 => Option.bind (bif x8 then ref06_numbers e ((c.Versions.length : Nat) : Int) else some default) fun x9 => some (x8 && x9)) = some ((e.Tenant != (-1)) && (decide (0 ≤ e.Tenant) && decide (e.Tenant ≤ ((c.Tenants.length : Nat) : Int) - 1)) && !(e.Cell != (-1)) && !(e.Other != (-1)) && !(e.Epoch != 0) && !(e.From != 0) && !(e.Until != 0) && (decide (0 ≤ e.N) && decide (e.N ≤ 1))) := by
 have htl := h.tl; have hcl := h.cl; have hvl := h.vl; have hreg := h.reg
 unfold ref06_places ref06_places_k2 ref06_places_k1 ref06_numbers ref06_numbers_k2 ref06_numbers_k1; (try simp only [ixL_b, letD])
 rw [w64_eq (x := ((c.Tenants.length : Nat) : Int) - 1) (by omega) (by omega), w64_eq (x := ((c.Cells.length : Nat) : Int) - 1) (by omega) (by omega), w64_eq (x := c.Regions - 1) (by omega) (by omega), w64_eq (x := ((c.Versions.length : Nat) : Int) - 1) (by omega) (by omega)]
 simp only [hk, has_8_116, has_8_99, has_8_67, has_8_111, has_8_114, has_8_101, has_8_119, has_8_118, has_8_98, has_8_109, has_8_110, ref06_in, Option.bind_some, cond_true, cond_false, show (default : Bool) = false from rfl, Bool.not_true, Bool.not_false, Bool.true_and, Bool.false_and, Bool.and_true, Bool.and_false, Bool.or_true, Bool.true_or, Bool.false_or, Bool.or_false]
 generalize (e.Tenant != (-1)) = a0
 generalize (decide (0 ≤ e.Tenant) && decide (e.Tenant ≤ ((c.Tenants.length : Nat) : Int) - 1)) = a1
 generalize (e.Cell != (-1)) = a2
 generalize (e.Other != (-1)) = a3
 generalize (e.Epoch != 0) = a5
 generalize (e.From != 0) = a6
 generalize (e.Until != 0) = a7
 generalize (decide (0 ≤ e.N) && decide (e.N ≤ 1)) = a8
 revert a0 a1 a2 a3 a5 a6 a7 a8
 decide
theorem kind_8 [Fuel] (h : VC c) (hk : e.Kind = 8) : ((e.Tenant != (-1)) && (decide (0 ≤ e.Tenant) && decide (e.Tenant ≤ ((c.Tenants.length : Nat) : Int) - 1)) && !(e.Cell != (-1)) && !(e.Other != (-1)) && !(e.Epoch != 0) && !(e.From != 0) && !(e.Until != 0) && (decide (0 ≤ e.N) && decide (e.N ≤ 1))) = true ↔ KindP c e := by
 simp only [Bool.and_eq_true, decide_eq_true_eq, Bool.not_eq_true', bne_iff_ne, ne_eq, beq_iff_eq, beq_eq_false_iff_ne, bne_eq_false_iff_eq]
 constructor
 ·intro q
  refine .shed hk ?_ ?_ ?_ ?_ ?_ <;> first | (simp only [tOk, cOk, oN, eN, vOk]; omega) | omega
 ·intro q
  cases q <;> simp only [tOk, cOk, oN, eN, vOk] at * <;> omega
theorem core_9 [Fuel] (h : VC c) (hk : e.Kind = 9) : (Option.bind (ref06_places e ((c.Tenants.length : Nat) : Int) ((c.Cells.length : Nat) : Int) c.Regions) fun x8 => Option.bind (bif x8 then ref06_numbers e ((c.Versions.length : Nat) : Int) else some default) fun x9 => some (x8 && x9)) = some (!(e.Tenant != (-1)) && (decide (0 ≤ e.Cell) && decide (e.Cell ≤ ((c.Cells.length : Nat) : Int) - 1)) && !(e.Other != (-1)) && !(e.Epoch != 0) && !(e.From != 0) && !(e.Until != 0) && (decide (1 ≤ e.N) && decide (e.N ≤ 3))) := by
 have htl := h.tl; have hcl := h.cl; have hvl := h.vl; have hreg := h.reg
 unfold ref06_places ref06_places_k2 ref06_places_k1 ref06_numbers ref06_numbers_k2 ref06_numbers_k1; (try simp only [ixL_b, letD])
 rw [w64_eq (x := ((c.Tenants.length : Nat) : Int) - 1) (by omega) (by omega), w64_eq (x := ((c.Cells.length : Nat) : Int) - 1) (by omega) (by omega), w64_eq (x := c.Regions - 1) (by omega) (by omega), w64_eq (x := ((c.Versions.length : Nat) : Int) - 1) (by omega) (by omega)]
 simp only [hk, has_9_116, has_9_99, has_9_67, has_9_111, has_9_114, has_9_101, has_9_119, has_9_118, has_9_98, has_9_109, has_9_110, ref06_in, Option.bind_some, cond_true, cond_false, show (default : Bool) = false from rfl, Bool.not_true, Bool.not_false, Bool.true_and, Bool.false_and, Bool.and_true, Bool.and_false, Bool.or_true, Bool.true_or, Bool.false_or, Bool.or_false]
 generalize (e.Tenant != (-1)) = a0
 generalize (decide (0 ≤ e.Tenant) && decide (e.Tenant ≤ ((c.Tenants.length : Nat) : Int) - 1)) = a1
 generalize (decide (0 ≤ e.Cell) && decide (e.Cell ≤ ((c.Cells.length : Nat) : Int) - 1)) = a2
 generalize (e.Other != (-1)) = a3
 generalize (e.Epoch != 0) = a5
 generalize (e.From != 0) = a6
 generalize (e.Until != 0) = a7
 generalize (decide (1 ≤ e.N) && decide (e.N ≤ 3)) = a8
 revert a0 a1 a2 a3 a5 a6 a7 a8
 decide
theorem kind_9 [Fuel] (h : VC c) (hk : e.Kind = 9) : (!(e.Tenant != (-1)) && (decide (0 ≤ e.Cell) && decide (e.Cell ≤ ((c.Cells.length : Nat) : Int) - 1)) && !(e.Other != (-1)) && !(e.Epoch != 0) && !(e.From != 0) && !(e.Until != 0) && (decide (1 ≤ e.N) && decide (e.N ≤ 3))) = true ↔ KindP c e := by
 simp only [Bool.and_eq_true, decide_eq_true_eq, Bool.not_eq_true', bne_iff_ne, ne_eq, beq_iff_eq, beq_eq_false_iff_ne, bne_eq_false_iff_eq]
 constructor
 ·intro q
  refine .mode hk ?_ ?_ ?_ ?_ ?_ <;> first | (simp only [tOk, cOk, oN, eN, vOk]; omega) | omega
 ·intro q
  cases q <;> simp only [tOk, cOk, oN, eN, vOk] at * <;> omega
theorem core_10 [Fuel] (h : VC c) (hk : e.Kind = 10) : (Option.bind (ref06_places e ((c.Tenants.length : Nat) : Int) ((c.Cells.length : Nat) : Int) c.Regions) fun x8 => Option.bind (bif x8 then ref06_numbers e ((c.Versions.length : Nat) : Int) else some default) fun x9 => some (x8 && x9)) = some (!(e.Tenant != (-1)) && (decide (0 ≤ e.Cell) && decide (e.Cell ≤ ((c.Cells.length : Nat) : Int) - 1)) && !(e.Other != (-1)) && !(e.Epoch != 0) && !(e.From != 0) && !(e.Until != 0) && (decide (0 ≤ e.N) && decide (e.N ≤ ((c.Versions.length : Nat) : Int) - 1))) := by
 have htl := h.tl; have hcl := h.cl; have hvl := h.vl; have hreg := h.reg
 unfold ref06_places ref06_places_k2 ref06_places_k1 ref06_numbers ref06_numbers_k2 ref06_numbers_k1; (try simp only [ixL_b, letD])
 rw [w64_eq (x := ((c.Tenants.length : Nat) : Int) - 1) (by omega) (by omega), w64_eq (x := ((c.Cells.length : Nat) : Int) - 1) (by omega) (by omega), w64_eq (x := c.Regions - 1) (by omega) (by omega), w64_eq (x := ((c.Versions.length : Nat) : Int) - 1) (by omega) (by omega)]
 simp only [hk, has_10_116, has_10_99, has_10_67, has_10_111, has_10_114, has_10_101, has_10_119, has_10_118, has_10_98, has_10_109, has_10_110, ref06_in, Option.bind_some, cond_true, cond_false, show (default : Bool) = false from rfl, Bool.not_true, Bool.not_false, Bool.true_and, Bool.false_and, Bool.and_true, Bool.and_false, Bool.or_true, Bool.true_or, Bool.false_or, Bool.or_false]
 generalize (e.Tenant != (-1)) = a0
 generalize (decide (0 ≤ e.Tenant) && decide (e.Tenant ≤ ((c.Tenants.length : Nat) : Int) - 1)) = a1
 generalize (decide (0 ≤ e.Cell) && decide (e.Cell ≤ ((c.Cells.length : Nat) : Int) - 1)) = a2
 generalize (e.Other != (-1)) = a3
 generalize (e.Epoch != 0) = a5
 generalize (e.From != 0) = a6
 generalize (e.Until != 0) = a7
 generalize (decide (0 ≤ e.N) && decide (e.N ≤ ((c.Versions.length : Nat) : Int) - 1)) = a8
 revert a0 a1 a2 a3 a5 a6 a7 a8
 decide
theorem kind_10 [Fuel] (h : VC c) (hk : e.Kind = 10) : (!(e.Tenant != (-1)) && (decide (0 ≤ e.Cell) && decide (e.Cell ≤ ((c.Cells.length : Nat) : Int) - 1)) && !(e.Other != (-1)) && !(e.Epoch != 0) && !(e.From != 0) && !(e.Until != 0) && (decide (0 ≤ e.N) && decide (e.N ≤ ((c.Versions.length : Nat) : Int) - 1))) = true ↔ KindP c e := by
 simp only [Bool.and_eq_true, decide_eq_true_eq, Bool.not_eq_true', bne_iff_ne, ne_eq, beq_iff_eq, beq_eq_false_iff_ne, bne_eq_false_iff_eq]
 constructor
 ·intro q
  refine .want hk ?_ ?_ ?_ ?_ ?_ <;> first | (simp only [tOk, cOk, oN, eN, vOk]; omega) | omega
 ·intro q
  cases q <;> simp only [tOk, cOk, oN, eN, vOk] at * <;> omega
theorem core_11 [Fuel] (h : VC c) (hk : e.Kind = 11) : (Option.bind (ref06_places e ((c.Tenants.length : Nat) : Int) ((c.Cells.length : Nat) : Int) c.Regions) fun x8 => Option.bind (bif x8 then ref06_numbers e ((c.Versions.length : Nat) : Int) else some default) fun x9 => some (x8 && x9)) = some (!(e.Tenant != (-1)) && (decide (0 ≤ e.Cell) && decide (e.Cell ≤ ((c.Cells.length : Nat) : Int) - 1)) && !(e.Other != (-1)) && !(e.Epoch != 0) && !(e.From != 0) && !(e.Until != 0) && (decide (0 ≤ e.N) && decide (e.N ≤ ((c.Versions.length : Nat) : Int) - 1))) := by
 have htl := h.tl; have hcl := h.cl; have hvl := h.vl; have hreg := h.reg
 unfold ref06_places ref06_places_k2 ref06_places_k1 ref06_numbers ref06_numbers_k2 ref06_numbers_k1; (try simp only [ixL_b, letD])
 rw [w64_eq (x := ((c.Tenants.length : Nat) : Int) - 1) (by omega) (by omega), w64_eq (x := ((c.Cells.length : Nat) : Int) - 1) (by omega) (by omega), w64_eq (x := c.Regions - 1) (by omega) (by omega), w64_eq (x := ((c.Versions.length : Nat) : Int) - 1) (by omega) (by omega)]
 simp only [hk, has_11_116, has_11_99, has_11_67, has_11_111, has_11_114, has_11_101, has_11_119, has_11_118, has_11_98, has_11_109, has_11_110, ref06_in, Option.bind_some, cond_true, cond_false, show (default : Bool) = false from rfl, Bool.not_true, Bool.not_false, Bool.true_and, Bool.false_and, Bool.and_true, Bool.and_false, Bool.or_true, Bool.true_or, Bool.false_or, Bool.or_false]
 generalize (e.Tenant != (-1)) = a0
 generalize (decide (0 ≤ e.Tenant) && decide (e.Tenant ≤ ((c.Tenants.length : Nat) : Int) - 1)) = a1
 generalize (decide (0 ≤ e.Cell) && decide (e.Cell ≤ ((c.Cells.length : Nat) : Int) - 1)) = a2
 generalize (e.Other != (-1)) = a3
 generalize (e.Epoch != 0) = a5
 generalize (e.From != 0) = a6
 generalize (e.Until != 0) = a7
 generalize (decide (0 ≤ e.N) && decide (e.N ≤ ((c.Versions.length : Nat) : Int) - 1)) = a8
 revert a0 a1 a2 a3 a5 a6 a7 a8
 decide
theorem kind_11 [Fuel] (h : VC c) (hk : e.Kind = 11) : (!(e.Tenant != (-1)) && (decide (0 ≤ e.Cell) && decide (e.Cell ≤ ((c.Cells.length : Nat) : Int) - 1)) && !(e.Other != (-1)) && !(e.Epoch != 0) && !(e.From != 0) && !(e.Until != 0) && (decide (0 ≤ e.N) && decide (e.N ≤ ((c.Versions.length : Nat) : Int) - 1))) = true ↔ KindP c e := by
 simp only [Bool.and_eq_true, decide_eq_true_eq, Bool.not_eq_true', bne_iff_ne, ne_eq, beq_iff_eq, beq_eq_false_iff_ne, bne_eq_false_iff_eq]
 constructor
 ·intro q
  refine .runs hk ?_ ?_ ?_ ?_ ?_ <;> first | (simp only [tOk, cOk, oN, eN, vOk]; omega) | omega
 ·intro q
  cases q <;> simp only [tOk, cOk, oN, eN, vOk] at * <;> omega
theorem core_12 [Fuel] (h : VC c) (hk : e.Kind = 12) : (Option.bind (ref06_places e ((c.Tenants.length : Nat) : Int) ((c.Cells.length : Nat) : Int) c.Regions) fun x8 => Option.bind (bif x8 then ref06_numbers e ((c.Versions.length : Nat) : Int) else some default) fun x9 => some (x8 && x9)) = some (!(e.Tenant != (-1)) && !(e.Cell != (-1)) && !(e.Other != (-1)) && !(e.Epoch != 0) && !(e.From != 0) && !(e.Until != 0) && (decide (0 ≤ e.N) && decide (e.N ≤ ((c.Versions.length : Nat) : Int) - 1))) := by
 have htl := h.tl; have hcl := h.cl; have hvl := h.vl; have hreg := h.reg
 unfold ref06_places ref06_places_k2 ref06_places_k1 ref06_numbers ref06_numbers_k2 ref06_numbers_k1; (try simp only [ixL_b, letD])
 rw [w64_eq (x := ((c.Tenants.length : Nat) : Int) - 1) (by omega) (by omega), w64_eq (x := ((c.Cells.length : Nat) : Int) - 1) (by omega) (by omega), w64_eq (x := c.Regions - 1) (by omega) (by omega), w64_eq (x := ((c.Versions.length : Nat) : Int) - 1) (by omega) (by omega)]
 simp only [hk, has_12_116, has_12_99, has_12_67, has_12_111, has_12_114, has_12_101, has_12_119, has_12_118, has_12_98, has_12_109, has_12_110, ref06_in, Option.bind_some, cond_true, cond_false, show (default : Bool) = false from rfl, Bool.not_true, Bool.not_false, Bool.true_and, Bool.false_and, Bool.and_true, Bool.and_false, Bool.or_true, Bool.true_or, Bool.false_or, Bool.or_false]
 generalize (e.Tenant != (-1)) = a0
 generalize (decide (0 ≤ e.Tenant) && decide (e.Tenant ≤ ((c.Tenants.length : Nat) : Int) - 1)) = a1
 generalize (e.Cell != (-1)) = a2
 generalize (e.Other != (-1)) = a3
 generalize (e.Epoch != 0) = a5
 generalize (e.From != 0) = a6
 generalize (e.Until != 0) = a7
 generalize (decide (0 ≤ e.N) && decide (e.N ≤ ((c.Versions.length : Nat) : Int) - 1)) = a8
 revert a0 a1 a2 a3 a5 a6 a7 a8
 decide
theorem kind_12 [Fuel] (h : VC c) (hk : e.Kind = 12) : (!(e.Tenant != (-1)) && !(e.Cell != (-1)) && !(e.Other != (-1)) && !(e.Epoch != 0) && !(e.From != 0) && !(e.Until != 0) && (decide (0 ≤ e.N) && decide (e.N ≤ ((c.Versions.length : Nat) : Int) - 1))) = true ↔ KindP c e := by
 simp only [Bool.and_eq_true, decide_eq_true_eq, Bool.not_eq_true', bne_iff_ne, ne_eq, beq_iff_eq, beq_eq_false_iff_ne, bne_eq_false_iff_eq]
 constructor
 ·intro q
  refine .prove hk ?_ ?_ ?_ ?_ ?_ <;> first | (simp only [tOk, cOk, oN, eN, vOk]; omega) | omega
 ·intro q
  cases q <;> simp only [tOk, cOk, oN, eN, vOk] at * <;> omega
theorem core_13 [Fuel] (h : VC c) (hk : e.Kind = 13) : (Option.bind (ref06_places e ((c.Tenants.length : Nat) : Int) ((c.Cells.length : Nat) : Int) c.Regions) fun x8 => Option.bind (bif x8 then ref06_numbers e ((c.Versions.length : Nat) : Int) else some default) fun x9 => some (x8 && x9)) = some (!(e.Tenant != (-1)) && !(e.Cell != (-1)) && (decide (0 ≤ e.Other) && decide (e.Other ≤ c.Regions - 1)) && !(e.Epoch != 0) && !(e.From != 0) && !(e.Until != 0) && (decide (0 ≤ e.N) && decide (e.N ≤ 1))) := by
 have htl := h.tl; have hcl := h.cl; have hvl := h.vl; have hreg := h.reg
 unfold ref06_places ref06_places_k2 ref06_places_k1 ref06_numbers ref06_numbers_k2 ref06_numbers_k1; (try simp only [ixL_b, letD])
 rw [w64_eq (x := ((c.Tenants.length : Nat) : Int) - 1) (by omega) (by omega), w64_eq (x := ((c.Cells.length : Nat) : Int) - 1) (by omega) (by omega), w64_eq (x := c.Regions - 1) (by omega) (by omega), w64_eq (x := ((c.Versions.length : Nat) : Int) - 1) (by omega) (by omega)]
 simp only [hk, has_13_116, has_13_99, has_13_67, has_13_111, has_13_114, has_13_101, has_13_119, has_13_118, has_13_98, has_13_109, has_13_110, ref06_in, Option.bind_some, cond_true, cond_false, show (default : Bool) = false from rfl, Bool.not_true, Bool.not_false, Bool.true_and, Bool.false_and, Bool.and_true, Bool.and_false, Bool.or_true, Bool.true_or, Bool.false_or, Bool.or_false]
 generalize (e.Tenant != (-1)) = a0
 generalize (decide (0 ≤ e.Tenant) && decide (e.Tenant ≤ ((c.Tenants.length : Nat) : Int) - 1)) = a1
 generalize (e.Cell != (-1)) = a2
 generalize (decide (0 ≤ e.Other) && decide (e.Other ≤ c.Regions - 1)) = a3
 generalize (e.Epoch != 0) = a5
 generalize (e.From != 0) = a6
 generalize (e.Until != 0) = a7
 generalize (decide (0 ≤ e.N) && decide (e.N ≤ 1)) = a8
 revert a0 a1 a2 a3 a5 a6 a7 a8
 decide
theorem kind_13 [Fuel] (h : VC c) (hk : e.Kind = 13) : (!(e.Tenant != (-1)) && !(e.Cell != (-1)) && (decide (0 ≤ e.Other) && decide (e.Other ≤ c.Regions - 1)) && !(e.Epoch != 0) && !(e.From != 0) && !(e.Until != 0) && (decide (0 ≤ e.N) && decide (e.N ≤ 1))) = true ↔ KindP c e := by
 simp only [Bool.and_eq_true, decide_eq_true_eq, Bool.not_eq_true', bne_iff_ne, ne_eq, beq_iff_eq, beq_eq_false_iff_ne, bne_eq_false_iff_eq]
 constructor
 ·intro q
  refine .evac hk ?_ ?_ ?_ ?_ ?_ <;> first | (simp only [tOk, cOk, oN, eN, vOk]; omega) | omega
 ·intro q
  cases q <;> simp only [tOk, cOk, oN, eN, vOk] at * <;> omega
theorem core_14 [Fuel] (h : VC c) (hk : e.Kind = 14) : (Option.bind (ref06_places e ((c.Tenants.length : Nat) : Int) ((c.Cells.length : Nat) : Int) c.Regions) fun x8 => Option.bind (bif x8 then ref06_numbers e ((c.Versions.length : Nat) : Int) else some default) fun x9 => some (x8 && x9)) = some (!(e.Tenant != (-1)) && !(e.Cell != (-1)) && !(e.Other != (-1)) && !(e.Epoch != 0) && !(e.From != 0) && !(e.Until != 0) && (e.N == 0)) := by
 have htl := h.tl; have hcl := h.cl; have hvl := h.vl; have hreg := h.reg
 unfold ref06_places ref06_places_k2 ref06_places_k1 ref06_numbers ref06_numbers_k2 ref06_numbers_k1; (try simp only [ixL_b, letD])
 rw [w64_eq (x := ((c.Tenants.length : Nat) : Int) - 1) (by omega) (by omega), w64_eq (x := ((c.Cells.length : Nat) : Int) - 1) (by omega) (by omega), w64_eq (x := c.Regions - 1) (by omega) (by omega), w64_eq (x := ((c.Versions.length : Nat) : Int) - 1) (by omega) (by omega)]
 simp only [hk, has_14_116, has_14_99, has_14_67, has_14_111, has_14_114, has_14_101, has_14_119, has_14_118, has_14_98, has_14_109, has_14_110, ref06_in, Option.bind_some, cond_true, cond_false, show (default : Bool) = false from rfl, Bool.not_true, Bool.not_false, Bool.true_and, Bool.false_and, Bool.and_true, Bool.and_false, Bool.or_true, Bool.true_or, Bool.false_or, Bool.or_false]
 generalize (e.Tenant != (-1)) = a0
 generalize (decide (0 ≤ e.Tenant) && decide (e.Tenant ≤ ((c.Tenants.length : Nat) : Int) - 1)) = a1
 generalize (e.Cell != (-1)) = a2
 generalize (e.Other != (-1)) = a3
 generalize (e.Epoch != 0) = a5
 generalize (e.From != 0) = a6
 generalize (e.Until != 0) = a7
 generalize (e.N == 0) = a8
 revert a0 a1 a2 a3 a5 a6 a7 a8
 decide
theorem kind_14 [Fuel] (h : VC c) (hk : e.Kind = 14) : (!(e.Tenant != (-1)) && !(e.Cell != (-1)) && !(e.Other != (-1)) && !(e.Epoch != 0) && !(e.From != 0) && !(e.Until != 0) && (e.N == 0)) = true ↔ KindP c e := by
 simp only [Bool.and_eq_true, decide_eq_true_eq, Bool.not_eq_true', bne_iff_ne, ne_eq, beq_iff_eq, beq_eq_false_iff_ne, bne_eq_false_iff_eq]
 constructor
 ·intro q
  refine .expand hk ?_ ?_ ?_ ?_ ?_ <;> first | (simp only [tOk, cOk, oN, eN, vOk]; omega) | omega
 ·intro q
  cases q <;> simp only [tOk, cOk, oN, eN, vOk] at * <;> omega
theorem core_15 [Fuel] (h : VC c) (hk : e.Kind = 15) : (Option.bind (ref06_places e ((c.Tenants.length : Nat) : Int) ((c.Cells.length : Nat) : Int) c.Regions) fun x8 => Option.bind (bif x8 then ref06_numbers e ((c.Versions.length : Nat) : Int) else some default) fun x9 => some (x8 && x9)) = some (!(e.Tenant != (-1)) && !(e.Cell != (-1)) && !(e.Other != (-1)) && !(e.Epoch != 0) && !(e.From != 0) && !(e.Until != 0) && (e.N == 0)) := by
 have htl := h.tl; have hcl := h.cl; have hvl := h.vl; have hreg := h.reg
 unfold ref06_places ref06_places_k2 ref06_places_k1 ref06_numbers ref06_numbers_k2 ref06_numbers_k1; (try simp only [ixL_b, letD])
 rw [w64_eq (x := ((c.Tenants.length : Nat) : Int) - 1) (by omega) (by omega), w64_eq (x := ((c.Cells.length : Nat) : Int) - 1) (by omega) (by omega), w64_eq (x := c.Regions - 1) (by omega) (by omega), w64_eq (x := ((c.Versions.length : Nat) : Int) - 1) (by omega) (by omega)]
 simp only [hk, has_15_116, has_15_99, has_15_67, has_15_111, has_15_114, has_15_101, has_15_119, has_15_118, has_15_98, has_15_109, has_15_110, ref06_in, Option.bind_some, cond_true, cond_false, show (default : Bool) = false from rfl, Bool.not_true, Bool.not_false, Bool.true_and, Bool.false_and, Bool.and_true, Bool.and_false, Bool.or_true, Bool.true_or, Bool.false_or, Bool.or_false]
 generalize (e.Tenant != (-1)) = a0
 generalize (decide (0 ≤ e.Tenant) && decide (e.Tenant ≤ ((c.Tenants.length : Nat) : Int) - 1)) = a1
 generalize (e.Cell != (-1)) = a2
 generalize (e.Other != (-1)) = a3
 generalize (e.Epoch != 0) = a5
 generalize (e.From != 0) = a6
 generalize (e.Until != 0) = a7
 generalize (e.N == 0) = a8
 revert a0 a1 a2 a3 a5 a6 a7 a8
 decide
theorem kind_15 [Fuel] (h : VC c) (hk : e.Kind = 15) : (!(e.Tenant != (-1)) && !(e.Cell != (-1)) && !(e.Other != (-1)) && !(e.Epoch != 0) && !(e.From != 0) && !(e.Until != 0) && (e.N == 0)) = true ↔ KindP c e := by
 simp only [Bool.and_eq_true, decide_eq_true_eq, Bool.not_eq_true', bne_iff_ne, ne_eq, beq_iff_eq, beq_eq_false_iff_ne, bne_eq_false_iff_eq]
 constructor
 ·intro q
  refine .contract hk ?_ ?_ ?_ ?_ ?_ <;> first | (simp only [tOk, cOk, oN, eN, vOk]; omega) | omega
 ·intro q
  cases q <;> simp only [tOk, cOk, oN, eN, vOk] at * <;> omega
theorem core_16 [Fuel] (h : VC c) (hk : e.Kind = 16) : (Option.bind (ref06_places e ((c.Tenants.length : Nat) : Int) ((c.Cells.length : Nat) : Int) c.Regions) fun x8 => Option.bind (bif x8 then ref06_numbers e ((c.Versions.length : Nat) : Int) else some default) fun x9 => some (x8 && x9)) = some (!(e.Tenant != (-1)) && !(e.Cell != (-1)) && !(e.Other != (-1)) && !(e.Epoch != 0) && !(e.From != 0) && !(e.Until != 0) && (decide (0 ≤ e.N) && decide (e.N ≤ 1073741824))) := by
 have htl := h.tl; have hcl := h.cl; have hvl := h.vl; have hreg := h.reg
 unfold ref06_places ref06_places_k2 ref06_places_k1 ref06_numbers ref06_numbers_k2 ref06_numbers_k1; (try simp only [ixL_b, letD])
 rw [w64_eq (x := ((c.Tenants.length : Nat) : Int) - 1) (by omega) (by omega), w64_eq (x := ((c.Cells.length : Nat) : Int) - 1) (by omega) (by omega), w64_eq (x := c.Regions - 1) (by omega) (by omega), w64_eq (x := ((c.Versions.length : Nat) : Int) - 1) (by omega) (by omega)]
 simp only [hk, has_16_116, has_16_99, has_16_67, has_16_111, has_16_114, has_16_101, has_16_119, has_16_118, has_16_98, has_16_109, has_16_110, ref06_in, Option.bind_some, cond_true, cond_false, show (default : Bool) = false from rfl, Bool.not_true, Bool.not_false, Bool.true_and, Bool.false_and, Bool.and_true, Bool.and_false, Bool.or_true, Bool.true_or, Bool.false_or, Bool.or_false]
 generalize (e.Tenant != (-1)) = a0
 generalize (decide (0 ≤ e.Tenant) && decide (e.Tenant ≤ ((c.Tenants.length : Nat) : Int) - 1)) = a1
 generalize (e.Cell != (-1)) = a2
 generalize (e.Other != (-1)) = a3
 generalize (e.Epoch != 0) = a5
 generalize (e.From != 0) = a6
 generalize (e.Until != 0) = a7
 generalize (decide (0 ≤ e.N) && decide (e.N ≤ 1073741824)) = a8
 revert a0 a1 a2 a3 a5 a6 a7 a8
 decide
theorem kind_16 [Fuel] (h : VC c) (hk : e.Kind = 16) : (!(e.Tenant != (-1)) && !(e.Cell != (-1)) && !(e.Other != (-1)) && !(e.Epoch != 0) && !(e.From != 0) && !(e.Until != 0) && (decide (0 ≤ e.N) && decide (e.N ≤ 1073741824))) = true ↔ KindP c e := by
 simp only [Bool.and_eq_true, decide_eq_true_eq, Bool.not_eq_true', bne_iff_ne, ne_eq, beq_iff_eq, beq_eq_false_iff_ne, bne_eq_false_iff_eq]
 constructor
 ·intro q
  refine .note hk ?_ ?_ ?_ ?_ ?_ <;> first | (simp only [tOk, cOk, oN, eN, vOk]; omega) | omega
 ·intro q
  cases q <;> simp only [tOk, cOk, oN, eN, vOk] at * <;> omega
theorem core_all [Fuel] (h : VC c) (hk : 1 ≤ e.Kind ∧ e.Kind ≤ 16) : ∃ b, (Option.bind (ref06_places e ((c.Tenants.length : Nat) : Int) ((c.Cells.length : Nat) : Int) c.Regions) fun x8 => Option.bind (bif x8 then ref06_numbers e ((c.Versions.length : Nat) : Int) else some default) fun x9 => some (x8 && x9)) = some b ∧ (b = true ↔ KindP c e) := by
 have : e.Kind = 1 ∨ e.Kind = 2 ∨ e.Kind = 3 ∨ e.Kind = 4 ∨ e.Kind = 5 ∨ e.Kind = 6 ∨ e.Kind = 7 ∨ e.Kind = 8 ∨ e.Kind = 9 ∨ e.Kind = 10 ∨ e.Kind = 11 ∨ e.Kind = 12 ∨ e.Kind = 13 ∨ e.Kind = 14 ∨ e.Kind = 15 ∨ e.Kind = 16 := by omega
 rcases this with hk | hk | hk | hk | hk | hk | hk | hk | hk | hk | hk | hk | hk | hk | hk | hk
 ·have hc := core_1 h hk
  exact ⟨_, hc, kind_1 h hk⟩
 ·have hc := core_2 h hk
  exact ⟨_, hc, kind_2 h hk⟩
 ·have hc := core_3 h hk
  exact ⟨_, hc, kind_3 h hk⟩
 ·have hc := core_4 h hk
  exact ⟨_, hc, kind_4 h hk⟩
 ·have hc := core_5 h hk
  exact ⟨_, hc, kind_5 h hk⟩
 ·have hc := core_6 h hk
  exact ⟨_, hc, kind_6 h hk⟩
 ·have hc := core_7 h hk
  exact ⟨_, hc, kind_7 h hk⟩
 ·have hc := core_8 h hk
  exact ⟨_, hc, kind_8 h hk⟩
 ·have hc := core_9 h hk
  exact ⟨_, hc, kind_9 h hk⟩
 ·have hc := core_10 h hk
  exact ⟨_, hc, kind_10 h hk⟩
 ·have hc := core_11 h hk
  exact ⟨_, hc, kind_11 h hk⟩
 ·have hc := core_12 h hk
  exact ⟨_, hc, kind_12 h hk⟩
 ·have hc := core_13 h hk
  exact ⟨_, hc, kind_13 h hk⟩
 ·have hc := core_14 h hk
  exact ⟨_, hc, kind_14 h hk⟩
 ·have hc := core_15 h hk
  exact ⟨_, hc, kind_15 h hk⟩
 ·have hc := core_16 h hk
  exact ⟨_, hc, kind_16 h hk⟩
theorem KindP.range [Fuel] (h : KindP c e) : 1 ≤ e.Kind ∧ e.Kind ≤ 16 := by cases h <;> omega
theorem ref06_valid [Fuel] (h : VC c) : ∃ b, ref06_Valid c e = some b ∧ (b = true ↔ ValidP c e) := by
 have htl := h.tl; have hcl := h.cl; have hvl := h.vl; have hreg := h.reg
 have m1 : minE ((c.Tenants.length : Nat) : Int) 32 = ((c.Tenants.length : Nat) : Int) := by unfold minE; split <;> omega
 have m2 : minE ((c.Cells.length : Nat) : Int) 16 = ((c.Cells.length : Nat) : Int) := by unfold minE; split <;> omega
 have m3 : minE c.Regions 4 = c.Regions := by unfold minE; split <;> omega
 have m4 : minE ((c.Versions.length : Nat) : Int) 30 = ((c.Versions.length : Nat) : Int) := by unfold minE; split <;> omega
 unfold ref06_Valid ref06_right ref06_in; (try simp only [ixL_b, letD])
 simp only [m1, m2, m3, m4, Option.bind_some]
 by_cases hk : 1 ≤ e.Kind ∧ e.Kind ≤ 16
 ·have ek : (decide (1 ≤ e.Kind) && decide (e.Kind ≤ 16)) = true := by simp; omega
  by_cases ht : 0 ≤ e.Tick ∧ e.Tick ≤ 1073741824
  ·have et : (decide (0 ≤ e.Tick) && decide (e.Tick ≤ 1073741824)) = true := by simp; omega
   obtain ⟨b, hb, hiff⟩ := core_all h hk
   simp only [ek, et, cond_true, Bool.true_and, Option.bind_some]
   refine ⟨b, ?_, by rw [hiff]; exact ⟨fun q => ⟨ht, q⟩, fun q => q.2⟩⟩
   generalize ref06_places e ((c.Tenants.length : Nat) : Int) ((c.Cells.length : Nat) : Int) c.Regions = A at hb ⊢
   cases A with
   | none => cases hb
   | some x => simp only [Option.bind_some] at hb ⊢; rw [← hb]; cases x <;> cases ref06_numbers e ((c.Versions.length : Nat) : Int) <;> rfl
  ·have et : (decide (0 ≤ e.Tick) && decide (e.Tick ≤ 1073741824)) = false := by simp; omega
   simp only [ek, et, cond_true, cond_false, Bool.and_false, Bool.false_and, Option.bind_some]
   exact ⟨false, rfl, fun q => Bool.noConfusion q, fun q => absurd q.1 ht⟩
 ·have ek : (decide (1 ≤ e.Kind) && decide (e.Kind ≤ 16)) = false := by simp; omega
  simp only [ek, cond_false, Bool.false_and, Option.bind_some]
  exact ⟨false, rfl, fun q => Bool.noConfusion q, fun q => absurd q.2.range hk⟩
end
end Go.CP
namespace Go.CP
open Go
set_option linter.unusedSimpArgs false
set_option linter.unusedVariables false
def zeroS : ApiState := { Tick := 0, Count := 0, Tenants := [], Cells := [], Proven := 0, Evacuating := 0, Low := 0, High := 0 }
def noS (e : Int) : ApiState × Int := (zeroS, e)
def fitS (c : ApiConfig) (s : ApiState) : ApiState × Int := bif decide (0 < (((overS c s).length : Nat) : Int)) then noS 10 else (s, 0)
def tAt (s : ApiState) (i : Int) : ApiTenantState := s.Tenants.getD i.toNat default
def cAt (s : ApiState) (i : Int) : ApiCellState := s.Cells.getD i.toNat default
def setT (s : ApiState) (i : Int) (t : ApiTenantState) : ApiState := { s with Tenants := s.Tenants.set i.toNat t }
def setC (s : ApiState) (i : Int) (t : ApiCellState) : ApiState := { s with Cells := s.Cells.set i.toNat t }
def frzB (c : ApiConfig) (s : ApiState) (i : Int) : Bool := hasB s.Evacuating (regionOf c i)
structure TS (c : ApiConfig) (x : ApiTenantState) : Prop where
 home : -1 ≤ x.Home ∧ x.Home < (c.Cells.length : Int)
 sb : -1 ≤ x.Standby ∧ x.Standby < (c.Cells.length : Int)
 nx : -1 ≤ x.Next ∧ x.Next < (c.Cells.length : Int)
 tg : -1 ≤ x.Target ∧ x.Target < (c.Cells.length : Int)
 wc : -1 ≤ x.Window.Cell ∧ x.Window.Cell < (c.Cells.length : Int)
 pl : x.Placed = true → 0 ≤ x.Home
 sh : x.Shed = true → x.Placed = true
 ep : 0 ≤ x.Epoch ∧ x.Epoch ≤ 1048576
 we : 0 ≤ x.Window.Epoch ∧ x.Window.Epoch ≤ 1048576
 wv : 0 ≤ x.Window.Version ∧ x.Window.Version < (c.Versions.length : Int)
 wf : 0 ≤ x.Window.From ∧ x.Window.From ≤ x.Window.Until ∧ x.Window.Until ≤ 1073741824
structure CS (c : ApiConfig) (x : ApiCellState) : Prop where
 mode : 1 ≤ x.Mode ∧ x.Mode ≤ 3
 run : 0 ≤ x.Running ∧ x.Running < (c.Versions.length : Int)
 wan : 0 ≤ x.Wanted ∧ x.Wanted < (c.Versions.length : Int)
 sin : 0 ≤ x.Since ∧ x.Since ≤ 1073741824
structure VS (c : ApiConfig) (s : ApiState) : Prop where
 tl : s.Tenants.length = c.Tenants.length
 cl : s.Cells.length = c.Cells.length
 t : ∀ x ∈ s.Tenants, TS c x
 cel : ∀ x ∈ s.Cells, CS c x
 tick : 0 ≤ s.Tick ∧ s.Tick ≤ 1073741824
 cnt : 0 ≤ s.Count ∧ s.Count ≤ 4096
 prov : 0 ≤ s.Proven ∧ s.Proven < 1073741824
 evac : 0 ≤ s.Evacuating ∧ s.Evacuating < 8
 lh : 0 ≤ s.Low ∧ s.Low ≤ s.High ∧ s.High ≤ 30
section
variable {α : Type} [Inhabited α]
theorem getD_set [Fuel] {xs : List α} {i : Nat} {a : α} (h : i < xs.length) : (xs.set i a).getD i default = a := by
 simp [List.getD_eq_getElem?_getD, h]
end
theorem set_len [Fuel] {α : Type} {xs : List α} {i : Nat} {a : α} : (xs.set i a).length = xs.length := List.length_set
theorem no_eq [Fuel] (e : Int) : ref12_no e = some (noS e) := rfl
theorem bif_some [Fuel] {α : Type} (b : Bool) (x y : α) : (bif b then some x else some y) = some (bif b then x else y) := by cases b <;> rfl
theorem eta2 [Fuel] {α β : Type} (x : α × β) : (x.1, x.2) = x := rfl
section
variable {c : ApiConfig} {s : ApiState} {e : ApiEntry}
theorem fit_eq [Fuel] (h : VC c) (hl : s.Tenants.length = c.Tenants.length) : ref12_fit c s = some (fitS c s) := by
 unfold ref12_fit fitS; (try simp only [ixL_b, letD])
 rw [ref11_over h hl]
 simp only [Option.bind_some]
 rw [← bif_some]
 rfl
def placeS (c : ApiConfig) (s : ApiState) (e : ApiEntry) : ApiState × Int :=
 bif (tAt s e.Tenant).Placed then noS 4
 else bif ((cAt s e.Cell).Mode != 1) || (decide (0 ≤ e.Other) && ((cAt s e.Other).Mode != 1)) then noS 6
 else bif frzB c s e.Cell || (decide (0 ≤ e.Other) && frzB c s e.Other) then noS 12
 else bif !mayB c e.Tenant e.Cell || (decide (0 ≤ e.Other) && (!mayB c e.Tenant e.Other || togetherB c e.Cell e.Other)) then noS 11
 else fitS c (setT s e.Tenant { tAt s e.Tenant with Placed := true, Home := e.Cell, Standby := e.Other })
theorem tlen [Fuel] (hv : VS c s) (ht : tOk c e) : 0 ≤ e.Tenant ∧ e.Tenant < ((s.Tenants.length : Nat) : Int) := by have := hv.tl; unfold tOk at ht; omega
theorem clen [Fuel] (hv : VS c s) (ht : cOk c e) : 0 ≤ e.Cell ∧ e.Cell < ((s.Cells.length : Nat) : Int) := by have := hv.cl; unfold cOk at ht; omega
theorem fit_set [Fuel] (h : VC c) (hv : VS c s) (i : Nat) (t : ApiTenantState) : ref12_fit c { s with Tenants := s.Tenants.set i t } = some (fitS c { s with Tenants := s.Tenants.set i t }) :=
 fit_eq h (by show (s.Tenants.set i t).length = _; rw [set_len, hv.tl])
theorem place_eq [Fuel] (h : VC c) (hv : VS c s) (ht : tOk c e) (hc : cOk c e) (ho : -1 ≤ e.Other ∧ e.Other < (c.Cells.length : Int)) : ref12_place c s e = some (placeS c s e) := by
 have h1 := tlen hv ht
 have h2 := clen hv hc
 have hcl := hv.cl
 have hn : e.Tenant.toNat < s.Tenants.length := by omega
 have h3 : ∀ {b : Bool}, (b && decide (0 ≤ e.Other)) = true → 0 ≤ e.Other ∧ e.Other < ((s.Cells.length : Nat) : Int) := fun q => by simp only [Bool.and_eq_true, decide_eq_true_eq] at q; omega
 unfold ref12_place placeS frzB tAt cAt setT; (try simp only [ixL_b, letD])
 simp only [idx_eq h1, cond_true, Option.bind_some, no_eq, eta2, idx_eq h2, ixG_if h3, ref12_frz h hv.evac.1, ref05_may h, ref12_tog h, getD_set hn, set_len, List.set_set, fit_set h hv, bif_some]
 cases decide (0 ≤ e.Other) <;> cases mayB c e.Tenant e.Other <;> cases mayB c e.Tenant e.Cell <;> cases hasB s.Evacuating (regionOf c e.Cell) <;> rfl
def grantedS (c : ApiConfig) (s : ApiState) (e : ApiEntry) : Int :=
 let x4 := tAt s e.Tenant
 let x5 := cAt s e.Cell
 bif ((x5.Mode == 3) || ((x5.Mode == 2) && (!(e.Cell == x4.Home)))) then 6
 else bif ((((e.Cell == x4.Home) && (e.Epoch != x4.Epoch)) && (e.Epoch != x4.Epoch + 1)) || ((!(e.Cell == x4.Home)) && (e.Epoch != x4.Epoch + 1))) then 7
 else bif ((e.N != x5.Running) || (x5.Running != x5.Wanted)) then 8
 else bif (((((decide (e.From < e.Tick)) || (decide (e.Tick + c.Lease < e.From))) || (decide (e.Until ≤ e.From))) || (decide (c.Lease < e.Until - e.From))) || (decide (e.From < x4.Window.Until))) then 9
 else bif ((!(e.Cell == x4.Home)) && (decide (e.Tick < x4.Window.Until))) then 9
 else 0
theorem ts_at [Fuel] (hv : VS c s) {i : Int} (h : 0 ≤ i ∧ i < ((s.Tenants.length : Nat) : Int)) : TS c (tAt s i) := hv.t _ (getD_mem (by omega))
theorem cs_at [Fuel] (hv : VS c s) {i : Int} (h : 0 ≤ i ∧ i < ((s.Cells.length : Nat) : Int)) : CS c (cAt s i) := hv.cel _ (getD_mem (by omega))
theorem granted_eq [Fuel] (h : VC c) (hv : VS c s) (ht : tOk c e) (hc : cOk c e) (hk : 0 ≤ e.Tick ∧ e.Tick ≤ 1073741824) (hw : 0 ≤ e.From ∧ e.From ≤ 1073741824 ∧ 0 ≤ e.Until ∧ e.Until ≤ 1073741824) : ref12_granted c s e = some (grantedS c s e) := by
 have h1 := tlen hv ht
 have h2 := clen hv hc
 have hle := h.lease
 have hT := ts_at hv h1
 have hep := hT.ep
 unfold tAt at hep
 unfold ref12_granted grantedS tAt cAt; (try simp only [ixL_b, letD])
 rw [idx_eq h1, idx_eq h2]
 simp only [Option.bind_some]
 rw [w64_eq (x := (s.Tenants.getD e.Tenant.toNat default).Epoch + 1) (by omega) (by omega), w64_eq (x := e.Tick + c.Lease) (by omega) (by omega), w64_eq (x := e.Until - e.From) (by omega) (by omega)]
 simp only [bif_some]
def afterGrant (t : ApiTenantState) (e : ApiEntry) : ApiTenantState :=
 let u := { t with Window := { Cell := e.Cell, Epoch := e.Epoch, Version := e.N, From := e.From, Until := e.Until : ApiWindow }, Epoch := e.Epoch }
 bif e.Cell == t.Home then u
 else bif e.Cell == t.Standby then { u with Home := e.Cell, Standby := -1, Next := -1, Target := -1, Shed := false }
 else { u with Home := e.Cell, Target := -1 }
def grantS (c : ApiConfig) (s : ApiState) (e : ApiEntry) : ApiState × Int :=
 let t := tAt s e.Tenant
 bif (!t.Placed) || (t.Shed && (e.Cell != t.Standby)) then noS 4
 else bif ((e.Cell != t.Home) && (e.Cell != t.Standby)) && (e.Cell != t.Target) then noS 5
 else bif grantedS c s e != 0 then noS (grantedS c s e)
 else fitS c (setT s e.Tenant (afterGrant t e))
theorem grant_eq [Fuel] (h : VC c) (hv : VS c s) (ht : tOk c e) (hc : cOk c e) (hk : 0 ≤ e.Tick ∧ e.Tick ≤ 1073741824) (hw : 0 ≤ e.From ∧ e.From ≤ 1073741824 ∧ 0 ≤ e.Until ∧ e.Until ≤ 1073741824) : ref12_grant c s e = some (grantS c s e) := by
 have h1 := tlen hv ht
 have hn : e.Tenant.toNat < s.Tenants.length := by omega
 unfold ref12_grant ref12_grant_k1 grantS tAt setT; (try simp only [ixL_b, letD])
 simp only [idx_eq h1, cond_true, Option.bind_some, no_eq, eta2, granted_eq h hv ht hc hk hw, getD_set hn, set_len, List.set_set, fit_set h hv, bif_some]
 unfold afterGrant
 cases (e.Cell == (s.Tenants.getD e.Tenant.toNat default).Home) <;> cases (e.Cell == (s.Tenants.getD e.Tenant.toNat default).Standby) <;> rfl
def cutW (w : ApiWindow) (tick : Int) : ApiWindow := { w with From := minE w.From (minE w.Until (tick + 1)), Until := minE w.Until (tick + 1) }
def cutS (s : ApiState) (e : ApiEntry) : ApiState × Int :=
 let t := tAt s e.Tenant
 bif !t.Placed then noS 4 else bif e.Epoch != t.Epoch then noS 7 else (setT s e.Tenant { t with Window := cutW t.Window e.Tick }, 0)
theorem cut_eq [Fuel] (hv : VS c s) (ht : tOk c e) (hk : 0 ≤ e.Tick ∧ e.Tick ≤ 1073741824) : ref12_cut s e = some (cutS s e) := by
 have h1 := tlen hv ht
 unfold ref12_cut ref12_Cut cutS tAt setT cutW; (try simp only [ixL_b, letD])
 rw [w64_eq (x := e.Tick + 1) (by omega) (by omega)]
 simp only [idx_eq h1, cond_true, Option.bind_some, no_eq, eta2, bif_some]
def standbyS (c : ApiConfig) (s : ApiState) (e : ApiEntry) : ApiState × Int :=
 let t := tAt s e.Tenant
 let ok := fitS c (setT s e.Tenant { t with Next := e.Cell })
 bif !t.Placed then noS 4
 else bif decide (e.Cell < 0) then ok
 else bif ((e.Cell == t.Home) || (e.Cell == t.Standby)) || (e.Cell == t.Target) then noS 5
 else bif (cAt s e.Cell).Mode != 1 then noS 6
 else bif frzB c s e.Cell then noS 12
 else bif (!mayB c e.Tenant e.Cell || togetherB c e.Cell t.Home) || togetherB c e.Cell t.Target then noS 11
 else ok
theorem standby_eq [Fuel] (h : VC c) (hv : VS c s) (ht : tOk c e) (hc : -1 ≤ e.Cell ∧ e.Cell < (c.Cells.length : Int)) : ref12_standby c s e = some (standbyS c s e) := by
 have h1 := tlen hv ht
 have hcl := hv.cl
 unfold ref12_standby ref12_standby_k1 standbyS tAt cAt setT frzB; (try simp only [ixL_b, letD])
 by_cases h0 : e.Cell < 0
 ·rw [decide_eq_true h0]
  simp only [idx_eq h1, cond_true, Option.bind_some, no_eq, eta2, fit_set h hv, bif_some]
 ·have h2 : 0 ≤ e.Cell ∧ e.Cell < ((s.Cells.length : Nat) : Int) := by omega
  rw [decide_eq_false h0]
  simp only [idx_eq h1, cond_true, cond_false, Option.bind_some, no_eq, eta2, idx_eq h2, ref12_frz h hv.evac.1, ref05_may h, ref12_tog h, fit_set h hv, bif_some]
  cases mayB c e.Tenant e.Cell <;> cases togetherB c e.Cell (s.Tenants.getD e.Tenant.toNat default).Home <;> rfl
def readyS (s : ApiState) (e : ApiEntry) : ApiState × Int :=
 let t := tAt s e.Tenant
 bif !t.Placed then noS 4 else bif e.Cell != t.Next then noS 5 else bif (cAt s e.Cell).Mode == 3 then noS 6
 else (setT s e.Tenant { t with Standby := e.Cell, Next := -1 }, 0)
theorem ready_eq [Fuel] (hv : VS c s) (ht : tOk c e) (hc : cOk c e) : ref12_ready s e = some (readyS s e) := by
 have h1 := tlen hv ht
 have h2 := clen hv hc
 have hn : e.Tenant.toNat < s.Tenants.length := by omega
 unfold ref12_ready readyS tAt cAt setT; (try simp only [ixL_b, letD])
 simp only [idx_eq h1, cond_true, Option.bind_some, no_eq, eta2, idx_eq h2, getD_set hn, List.set_set, bif_some]
def migrateS (c : ApiConfig) (s : ApiState) (e : ApiEntry) : ApiState × Int :=
 let t := tAt s e.Tenant
 bif ((!t.Placed) || t.Shed) || decide (0 ≤ t.Target) then noS 4
 else bif ((e.Cell == t.Home) || (e.Cell == t.Standby)) || (e.Cell == t.Next) then noS 5
 else bif (cAt s e.Cell).Mode != 1 then noS 6
 else bif frzB c s e.Cell then noS 12
 else bif (!mayB c e.Tenant e.Cell || togetherB c e.Cell t.Standby) || togetherB c e.Cell t.Next then noS 11
 else fitS c (setT s e.Tenant { t with Target := e.Cell })
theorem migrate_eq [Fuel] (h : VC c) (hv : VS c s) (ht : tOk c e) (hc : cOk c e) : ref12_migrate c s e = some (migrateS c s e) := by
 have h1 := tlen hv ht
 have h2 := clen hv hc
 unfold ref12_migrate migrateS tAt cAt setT frzB; (try simp only [ixL_b, letD])
 simp only [idx_eq h1, cond_true, Option.bind_some, no_eq, eta2, idx_eq h2, ref12_frz h hv.evac.1, ref05_may h, ref12_tog h, fit_set h hv, bif_some]
 cases mayB c e.Tenant e.Cell <;> cases togetherB c e.Cell (s.Tenants.getD e.Tenant.toNat default).Standby <;> rfl
def abandonS (s : ApiState) (e : ApiEntry) : ApiState × Int :=
 let t := tAt s e.Tenant
 bif (!t.Placed) || decide (t.Target < 0) then noS 4 else (setT s e.Tenant { t with Target := -1 }, 0)
theorem abandon_eq [Fuel] (hv : VS c s) (ht : tOk c e) : ref12_abandon s e = some (abandonS s e) := by
 have h1 := tlen hv ht
 unfold ref12_abandon abandonS tAt setT; (try simp only [ixL_b, letD])
 simp only [idx_eq h1, cond_true, Option.bind_some, no_eq, eta2, bif_some]
def shedS (c : ApiConfig) (s : ApiState) (e : ApiEntry) : ApiState × Int :=
 let t := tAt s e.Tenant
 bif e.N == 1 then
  (bif (!t.Placed) || t.Shed then noS 4 else bif decide (e.Tick < t.Window.Until) then noS 9 else (setT s e.Tenant { t with Shed := true, Target := -1 }, 0))
 else bif !t.Shed then noS 4 else bif (cAt s t.Home).Mode == 3 then noS 6 else fitS c (setT s e.Tenant { t with Shed := false })
theorem shed_eq [Fuel] (h : VC c) (hv : VS c s) (ht : tOk c e) : ref12_shed c s e = some (shedS c s e) := by
 have h1 := tlen hv ht
 have hn : e.Tenant.toNat < s.Tenants.length := by omega
 have hT := ts_at hv h1
 have hcl := hv.cl
 unfold ref12_shed shedS tAt cAt setT; (try simp only [ixL_b, letD])
 unfold tAt at hT
 simp only [idx_eq h1, cond_true, Option.bind_some, no_eq, eta2, getD_set hn, List.set_set, bif_some]
 cases hN : (e.N == 1) with
 | true => rfl
 | false =>
  simp only [cond_false]
  cases hs : (s.Tenants.getD e.Tenant.toNat default).Shed with
  | false => rfl
  | true =>
   have hp := hT.pl (hT.sh hs)
   have hh := hT.home
   have h2 : 0 ≤ (s.Tenants.getD e.Tenant.toNat default).Home ∧ (s.Tenants.getD e.Tenant.toNat default).Home < ((s.Cells.length : Nat) : Int) := by omega
   simp only [Bool.not_true, cond_false, idx_eq h2, Option.bind_some, fit_set h hv, bif_some]
end
end Go.CP
namespace Go.CP
open Go
set_option linter.unusedSimpArgs false
set_option linter.unusedVariables false
theorem drop_cons [Fuel] {α : Type} [Inhabited α] {xs : List α} {k : Nat} (h : k < xs.length) : xs.drop k = xs.getD k default :: xs.drop (k + 1) := by
 rw [List.drop_eq_getElem_cons h]
 simp [List.getD_eq_getElem?_getD, h]
def provenB (s : ApiState) (v : Int) : Bool := hasB s.Proven v
def openB (s : ApiState) (i : Int) : Bool := !provenB s (cAt s i).Running || !provenB s (cAt s i).Wanted
def othersF (s : ApiState) (cell : Int) : Nat → Int
 | 0 => 0
 | k + 1 => bif ((k : Int) != cell) && openB s k then othersF s cell k + 1 else othersF s cell k
theorem othersF_bd [Fuel] (s : ApiState) (cell : Int) : ∀ k, 0 ≤ othersF s cell k ∧ othersF s cell k ≤ k
 | 0 => by simp [othersF]
 | k + 1 => by
  have := othersF_bd s cell k
  rw [othersF]
  cases ((k : Int) != cell) && openB s k <;> simp only [cond_true, cond_false] <;> omega
section
variable {c : ApiConfig} {s : ApiState} {e : ApiEntry}
theorem proven_eq [Fuel] (hv : VS c s) (v : Int) : ref12_proven s v = some (provenB s v) := by
 unfold ref12_proven provenB; (try simp only [ixL_b, letD]); rw [ref04_has hv.prov.1]; rfl
theorem open_eq [Fuel] (hv : VS c s) {i : Int} (h : 0 ≤ i ∧ i < ((s.Cells.length : Nat) : Int)) : ref12_open s i = some (openB s i) := by
 unfold ref12_open openB cAt; (try simp only [ixL_b, letD])
 rw [idx_eq h]
 simp only [Option.bind_some, proven_eq hv, bif_some, ixG_ok h]
 cases provenB s (s.Cells.getD i.toNat default).Running <;> rfl
def wantS (c : ApiConfig) (s : ApiState) (e : ApiEntry) : ApiState × Int :=
 let x := cAt s e.Cell
 let v := c.Versions.getD e.N.toNat default
 bif x.Wanted == e.N then noS 4
 else bif decide (s.Low < v.Low) || decide (v.High < s.High) then noS 13
 else bif ((e.N != x.Running) && !provenB s e.N) && (s.Evacuating != 0) then noS 12
 else bif ((e.N != x.Running) && !provenB s e.N) && decide (c.Blast ≤ othersF s e.Cell s.Cells.length) then noS 14
 else (setC s e.Cell { x with Wanted := e.N }, 0)
theorem want_l [Fuel] (h : VC c) (hv : VS c s) (hc : cOk c e) : ∀ (m k : Nat), s.Cells.length - k < m → k ≤ s.Cells.length →
  ref12_want_l2 c s e (c.Versions.getD e.N.toNat default) e.Cell.toNat m (othersF s e.Cell k) (k : Int) = some (wantS c s e)
 | 0, _, hm, _ => absurd hm (Nat.not_lt_zero _)
 | m + 1, k, hm, hk => by
  have hcl := h.cl
  have hl := hv.cl
  have hb := othersF_bd s e.Cell k
  rw [ref12_want_l2]; (try simp only [ixL_b, letD])
  by_cases hlt : k < s.Cells.length
  ·rw [decide_eq_true (show (k : Int) < ((s.Cells.length : Nat) : Int) by omega)]
   have i1 : 0 ≤ (k : Int) ∧ (k : Int) < ((s.Cells.length : Nat) : Int) := by omega
   simp only [cond_true, open_eq hv i1, bif_some, Option.bind_some]
   unfold ref12_want_k1; (try simp only [ixL_b, letD])
   rw [w64_eq (x := (k : Int) + 1) (by omega) (by omega), w64_eq (x := othersF s e.Cell k + 1) (by omega) (by omega)]
   have next := want_l h hv hc m (k + 1) (by omega) (by omega)
   rw [othersF] at next
   have ec : ((k + 1 : Nat) : Int) = (k : Int) + 1 := by omega
   rw [ec] at next
   cases hne : ((k : Int) != e.Cell) <;> cases ho : openB s k <;> simp only [hne, ho, cond_true, cond_false, Bool.true_and, Bool.false_and, Bool.and_true, Bool.and_false] at next ⊢ <;> exact next
  ·rw [decide_eq_false (show ¬ (k : Int) < ((s.Cells.length : Nat) : Int) by omega)]
   have : k = s.Cells.length := by omega
   subst this
   unfold wantS cAt setC
   simp only [cond_false, Option.bind_some, no_eq, eta2, proven_eq hv, bif_some]
   cases (e.N != (s.Cells.getD e.Cell.toNat default).Running) <;> rfl
theorem want_eq [Fuel] (h : VC c) (hv : VS c s) (hc : cOk c e) (hn : vOk c e) : ref12_want c s e = some (wantS c s e) := by
 have h2 := clen hv hc
 have hl := hv.cl
 have hcl := h.cl
 unfold ref12_want; (try simp only [ixL_b, letD])
 rw [idx_eq h2, idx_eq hn]
 simp only [Option.bind_some]
 have := want_l h hv hc fuel 0 (by rw [fuel_eq]; omega) (by omega)
 simpa [othersF] using this
def busyB (e : ApiEntry) (t : ApiTenantState) : Bool := (t.Window.Cell == e.Cell) && decide (e.Tick < t.Window.Until)
def runsS (s : ApiState) (e : ApiEntry) : ApiState × Int :=
 let x := cAt s e.Cell
 bif (e.N != x.Wanted) || (x.Running == x.Wanted) then noS 4
 else bif !provenB s e.N && (s.Evacuating != 0) then noS 12
 else bif s.Tenants.any (busyB e) then noS 9
 else (setC s e.Cell { x with Running := e.N, Since := e.Tick }, 0)
theorem runs_l [Fuel] (h : VC c) (hv : VS c s) (hc : cOk c e) : ∀ (m k : Nat), s.Tenants.length - k < m → k ≤ s.Tenants.length →
  ref12_runs_l1 s e e.Cell.toNat m (k : Int) = some (bif (s.Tenants.drop k).any (busyB e) then noS 9 else (setC s e.Cell { cAt s e.Cell with Running := e.N, Since := e.Tick }, 0))
 | 0, _, hm, _ => absurd hm (Nat.not_lt_zero _)
 | m + 1, k, hm, hk => by
  have htl := h.tl
  have hl := hv.tl
  have h2 := clen hv hc
  have hn : e.Cell.toNat < s.Cells.length := by omega
  rw [ref12_runs_l1]; (try simp only [ixL_b, letD])
  by_cases hlt : k < s.Tenants.length
  ·rw [decide_eq_true (show (k : Int) < ((s.Tenants.length : Nat) : Int) by omega)]
   have i1 : 0 ≤ (k : Int) ∧ (k : Int) < ((s.Tenants.length : Nat) : Int) := by omega
   simp only [cond_true, idx_eq i1, Option.bind_some, Int.toNat_natCast, no_eq, eta2]
   rw [drop_cons hlt, List.any_cons, w64_eq (x := (k : Int) + 1) (by omega) (by omega)]
   have next := runs_l h hv hc m (k + 1) (by omega) (by omega)
   have ec : ((k + 1 : Nat) : Int) = (k : Int) + 1 := by omega
   rw [ec] at next
   rw [next]
   unfold busyB
   cases ((s.Tenants.getD k default).Window.Cell == e.Cell) && decide (e.Tick < (s.Tenants.getD k default).Window.Until) <;> rfl
  ·rw [decide_eq_false (show ¬ (k : Int) < ((s.Tenants.length : Nat) : Int) by omega)]
   have : k = s.Tenants.length := by omega
   subst this
   unfold cAt setC
   simp only [cond_false, Option.bind_some, getD_set hn, List.set_set, List.drop_length, List.any_nil]
theorem runs_eq [Fuel] (h : VC c) (hv : VS c s) (hc : cOk c e) : ref12_runs s e = some (runsS s e) := by
 have h2 := clen hv hc
 have hl := hv.tl
 have htl := h.tl
 unfold ref12_runs runsS; (try simp only [ixL_b, letD])
 rw [idx_eq h2]
 have := runs_l h hv hc fuel 0 (by rw [fuel_eq]; omega) (by omega)
 unfold cAt at this ⊢
 simp only [List.drop_zero] at this
 simp only [chk, cond_true, Option.bind_some, no_eq, eta2, proven_eq hv, bif_some]
 have t2 : ref12_runs_l1 s e e.Cell.toNat fuel 0 = _ := this
 rw [t2]
 simp only [bif_some]
def bakedB (c : ApiConfig) (e : ApiEntry) (x : ApiCellState) : Bool := (((x.Mode != 3) && (x.Running == e.N)) && (x.Wanted == e.N)) && decide (c.Bake ≤ e.Tick - x.Since)
def proveS (c : ApiConfig) (s : ApiState) (e : ApiEntry) : ApiState × Int :=
 bif provenB s e.N then noS 4 else bif s.Cells.any (bakedB c e) then ({ s with Proven := orK .i64 s.Proven (shlK .i64 1 (IntKind.u64.wrap e.N)) }, 0) else noS 15
theorem prove_l [Fuel] (h : VC c) (hv : VS c s) (hn : vOk c e) (hk : 0 ≤ e.Tick ∧ e.Tick ≤ 1073741824) : ∀ (m k : Nat), s.Cells.length - k < m → k ≤ s.Cells.length →
  ref12_prove_l1 c s e m (k : Int) = some (bif (s.Cells.drop k).any (bakedB c e) then ({ s with Proven := orK .i64 s.Proven (shlK .i64 1 (IntKind.u64.wrap e.N)) }, 0) else noS 15)
 | 0, _, hm, _ => absurd hm (Nat.not_lt_zero _)
 | m + 1, k, hm, hk2 => by
  have hcl := h.cl
  have hvl := h.vl
  have hl := hv.cl
  unfold vOk at hn
  have hu : (0 : Int) ≤ IntKind.u64.wrap e.N := by rw [u64_eq (by omega) (by omega)]; omega
  rw [ref12_prove_l1]; (try simp only [ixL_b, letD])
  by_cases hlt : k < s.Cells.length
  ·rw [decide_eq_true (show (k : Int) < ((s.Cells.length : Nat) : Int) by omega)]
   have i1 : 0 ≤ (k : Int) ∧ (k : Int) < ((s.Cells.length : Nat) : Int) := by omega
   have hC := cs_at hv i1
   have hsin := hC.sin
   unfold cAt at hsin
   simp only [Int.toNat_natCast] at hsin
   simp only [cond_true, idx_eq i1, Option.bind_some, Int.toNat_natCast]
   rw [drop_cons hlt, List.any_cons, w64_eq (x := (k : Int) + 1) (by omega) (by omega), w64_eq (x := e.Tick - (s.Cells.getD k default).Since) (by omega) (by omega), decide_eq_true hu]
   have next := prove_l h hv (show vOk c e from hn) hk m (k + 1) (by omega) (by omega)
   have ec : ((k + 1 : Nat) : Int) = (k : Int) + 1 := by omega
   rw [ec] at next
   rw [next]
   unfold bakedB
   cases ((((s.Cells.getD k default).Mode != 3) && ((s.Cells.getD k default).Running == e.N)) && ((s.Cells.getD k default).Wanted == e.N)) && decide (c.Bake ≤ e.Tick - (s.Cells.getD k default).Since) <;> rfl
  ·rw [decide_eq_false (show ¬ (k : Int) < ((s.Cells.length : Nat) : Int) by omega)]
   have : k = s.Cells.length := by omega
   subst this
   simp only [cond_false, Option.bind_some, no_eq, eta2, List.drop_length, List.any_nil]
theorem prove_eq [Fuel] (h : VC c) (hv : VS c s) (hn : vOk c e) (hk : 0 ≤ e.Tick ∧ e.Tick ≤ 1073741824) : ref12_prove c s e = some (proveS c s e) := by
 have hl := hv.cl
 have hcl := h.cl
 unfold ref12_prove proveS; (try simp only [ixL_b, letD])
 have := prove_l h hv hn hk fuel 0 (by rw [fuel_eq]; omega) (by omega)
 simp only [List.drop_zero] at this
 have t2 : ref12_prove_l1 c s e fuel 0 = _ := this
 simp only [Option.bind_some, no_eq, eta2, proven_eq hv, t2, bif_some]
def oldB (c : ApiConfig) (s : ApiState) (x : ApiCellState) : Bool := decide ((c.Versions.getD x.Running.toNat default).High ≤ s.High) || decide ((c.Versions.getD x.Wanted.toNat default).High ≤ s.High)
def expandS (c : ApiConfig) (s : ApiState) : ApiState × Int :=
 bif decide (s.Low < s.High) then noS 4 else bif decide (30 ≤ s.High) then noS 2 else bif s.Cells.any (oldB c s) then noS 13 else ({ s with High := s.High + 1 }, 0)
theorem expand_l [Fuel] (h : VC c) (hv : VS c s) : ∀ (m k : Nat), s.Cells.length - k < m → k ≤ s.Cells.length →
  ref12_expand_l1 c s m (k : Int) = some (bif (s.Cells.drop k).any (oldB c s) then noS 13 else ({ s with High := s.High + 1 }, 0))
 | 0, _, hm, _ => absurd hm (Nat.not_lt_zero _)
 | m + 1, k, hm, hk2 => by
  have hcl := h.cl
  have hl := hv.cl
  have hlh := hv.lh
  rw [ref12_expand_l1]; (try simp only [ixL_b, letD])
  by_cases hlt : k < s.Cells.length
  ·rw [decide_eq_true (show (k : Int) < ((s.Cells.length : Nat) : Int) by omega)]
   have i1 : 0 ≤ (k : Int) ∧ (k : Int) < ((s.Cells.length : Nat) : Int) := by omega
   have hC := cs_at hv i1
   have hr := hC.run
   have hw := hC.wan
   unfold cAt at hr hw
   simp only [Int.toNat_natCast] at hr hw
   simp only [cond_true, idx_eq i1, Option.bind_some, Int.toNat_natCast, idx_eq hr, ixG_if (fun _ => hw), no_eq, eta2]
   rw [drop_cons hlt, List.any_cons, w64_eq (x := (k : Int) + 1) (by omega) (by omega)]
   have next := expand_l h hv m (k + 1) (by omega) (by omega)
   have ec : ((k + 1 : Nat) : Int) = (k : Int) + 1 := by omega
   rw [ec] at next
   rw [next]
   unfold oldB
   cases decide ((c.Versions.getD (s.Cells.getD k default).Running.toNat default).High ≤ s.High) with
   | true => rfl
   | false =>
    simp only [Bool.not_false, cond_true, Bool.false_or]
    cases decide ((c.Versions.getD (s.Cells.getD k default).Wanted.toNat default).High ≤ s.High) <;> rfl
  ·rw [decide_eq_false (show ¬ (k : Int) < ((s.Cells.length : Nat) : Int) by omega)]
   have : k = s.Cells.length := by omega
   subst this
   rw [w64_eq (x := s.High + 1) (by omega) (by omega)]
   simp only [cond_false, List.drop_length, List.any_nil]
theorem expand_eq [Fuel] (h : VC c) (hv : VS c s) : ref12_expand c s = some (expandS c s) := by
 have hl := hv.cl
 have hcl := h.cl
 unfold ref12_expand expandS; (try simp only [ixL_b, letD])
 have := expand_l h hv fuel 0 (by rw [fuel_eq]; omega) (by omega)
 simp only [List.drop_zero] at this
 have t2 : ref12_expand_l1 c s fuel 0 = _ := this
 simp only [Option.bind_some, no_eq, eta2, t2, bif_some]
end
end Go.CP
namespace Go.CP
open Go
set_option linter.unusedSimpArgs false
set_option linter.unusedVariables false
def validB [Fuel] (c : ApiConfig) (e : ApiEntry) : Bool := (ref06_Valid c e).getD false
def bump (s : ApiState) (e : ApiEntry) : ApiState := { s with Tick := e.Tick, Count := s.Count + 1 }
def modeS (s : ApiState) (e : ApiEntry) : ApiState × Int :=
 bif (cAt s e.Cell).Mode == e.N then noS 4 else (setC s e.Cell { cAt s e.Cell with Mode := e.N, Since := e.Tick }, 0)
def evacS (s : ApiState) (e : ApiEntry) : ApiState × Int :=
 bif hasB s.Evacuating e.Other == (e.N == 1) then noS 4 else ({ s with Evacuating := xorK .i64 s.Evacuating (shlK .i64 1 (IntKind.u64.wrap e.Other)) }, 0)
def contractS (s : ApiState) : ApiState × Int := bif s.High == s.Low then noS 4 else ({ s with Low := s.High }, 0)
def kindS (c : ApiConfig) (s : ApiState) (e : ApiEntry) : ApiState × Int :=
 bif e.Kind == 1 then placeS c s e else bif e.Kind == 2 then grantS c s e else bif e.Kind == 3 then cutS s e else bif e.Kind == 4 then standbyS c s e
 else bif e.Kind == 5 then readyS s e else bif e.Kind == 6 then migrateS c s e else bif e.Kind == 7 then abandonS s e else bif e.Kind == 8 then shedS c s e
 else bif e.Kind == 9 then modeS s e else bif e.Kind == 10 then wantS c s e else bif e.Kind == 11 then runsS s e else bif e.Kind == 12 then proveS c s e
 else bif e.Kind == 13 then evacS s e else bif e.Kind == 14 then expandS c s else bif e.Kind == 15 then contractS s else (s, 0)
def applyS [Fuel] (c : ApiConfig) (s : ApiState) (e : ApiEntry) : ApiState × Int :=
 bif !validB c e then noS 1 else bif decide (4096 ≤ s.Count) then noS 2 else bif decide (e.Tick < s.Tick) then noS 3 else kindS c (bump s e) e
section
variable {c : ApiConfig} {s : ApiState} {e : ApiEntry}
theorem valid_eq [Fuel] (h : VC c) : ref06_Valid c e = some (validB c e) ∧ (validB c e = true ↔ ValidP c e) := by
 obtain ⟨b, h1, h2⟩ := ref06_valid (e := e) h
 have : validB c e = b := by unfold validB; rw [h1]; rfl
 rw [this]; exact ⟨h1, h2⟩
theorem VS.bump [Fuel] (hv : VS c s) (hk : 0 ≤ e.Tick ∧ e.Tick ≤ 1073741824) (hc : s.Count < 4096) : VS c (bump s e) :=
 ⟨hv.tl, hv.cl, hv.t, hv.cel, hk, by have := hv.cnt; constructor <;> (show _ ≤ _; simp only [CP.bump]; omega), hv.prov, hv.evac, hv.lh⟩
theorem VS.setT [Fuel] (hv : VS c s) {i : Int} {t : ApiTenantState} (ht : TS c t) : VS c (setT s i t) := by
 refine ⟨by show (s.Tenants.set _ _).length = _; rw [set_len, hv.tl], hv.cl, fun x hx => ?_, hv.cel, hv.tick, hv.cnt, hv.prov, hv.evac, hv.lh⟩
 rcases List.mem_or_eq_of_mem_set hx with h1 | h1
 ·exact hv.t x h1
 ·rw [h1]; exact ht
theorem VS.setC [Fuel] (hv : VS c s) {i : Int} {t : ApiCellState} (ht : CS c t) : VS c (setC s i t) := by
 refine ⟨hv.tl, by show (s.Cells.set _ _).length = _; rw [set_len, hv.cl], hv.t, fun x hx => ?_, hv.tick, hv.cnt, hv.prov, hv.evac, hv.lh⟩
 rcases List.mem_or_eq_of_mem_set hx with h1 | h1
 ·exact hv.cel x h1
 ·rw [h1]; exact ht
theorem apply_eq [Fuel] (h : VC c) (hv : VS c s) : ref12_Apply c s e = some (applyS c s e) := by
 obtain ⟨v1, v2⟩ := valid_eq (e := e) h
 have hcnt := hv.cnt
 have htl := hv.tl
 have hcl := hv.cl
 have ctl := h.tl
 have ccl := h.cl
 unfold ref12_Apply applyS; (try simp only [ixL_b, letD])
 simp only [v1, Option.bind_some, no_eq, eta2]
 cases hb : validB c e with
 | false => rfl
 | true =>
  obtain ⟨hk, hkind⟩ := v2.1 hb
  simp only [Bool.not_true, cond_false]
  by_cases h4 : 4096 ≤ s.Count
  ·rw [decide_eq_true h4]; rfl
  ·rw [decide_eq_false h4]
   by_cases h5 : e.Tick < s.Tick
   ·rw [decide_eq_true h5]; rfl
   ·rw [decide_eq_false h5]
    simp only [cond_false]
    have hcp : ref12_Copied s = some s := by
     unfold ref12_Copied; (try simp only [ixL_b, letD])
     rw [decide_eq_true (show (([] : List ApiTenantState).length + s.Tenants.length) * 88 ≤ 140737488355328 by simp; omega), decide_eq_true (show (([] : List ApiCellState).length + s.Cells.length) * 32 ≤ 140737488355328 by simp; omega)]
     rfl
    rw [hcp]
    simp only [Option.bind_some]
    rw [w64_eq (x := s.Count + 1) (by omega) (by omega)]
    have hv' : VS c (bump s e) := hv.bump hk (by omega)
    have hs : { s with Tick := e.Tick, Count := s.Count + 1 } = bump s e := rfl
    have hc : { c with Cells := c.Cells, Tenants := c.Tenants } = c := rfl
    rw [hs, hc]
    unfold kindS
    cases hkind with
    | place k t ce o w n => simp only [k, place_eq h hv' t ce ⟨o.1, o.2.1⟩]; rfl
    | grant k t ce o ep w n => simp only [k, grant_eq h hv' t ce hk w]; rfl
    | cut k t ce o ep w n => simp only [k, cut_eq hv' t hk]; rfl
    | standby k t ce o w n => simp only [k, standby_eq h hv' t ce]; rfl
    | ready k t ce o w n => simp only [k, ready_eq hv' t ce]; rfl
    | migrate k t ce o w n => simp only [k, migrate_eq h hv' t ce]; rfl
    | abandon k t ce o w n => simp only [k, abandon_eq hv' t]; rfl
    | shed k t ce o w n => simp only [k, shed_eq h hv' t]; rfl
    | mode k t ce o w n =>
     have h2 := clen hv ce
     have hn : e.Cell.toNat < s.Cells.length := by omega
     have h3 : ∀ a, idx (s.Cells.set e.Cell.toNat a) e.Cell = some a := fun a => by rw [idx_eq (by rw [set_len]; exact h2), getD_set hn]
     rw [k]
     simp only [idx_eq h2, h3, cond_true, Option.bind_some, getD_set hn, List.set_set, bif_some]
     unfold ref12_Apply_k1; (try simp only [ixL_b, letD])
     simp only [bif_some]
     rfl
    | want k t ce o w n => simp only [k, want_eq h hv' ce n]; rfl
    | runs k t ce o w n => simp only [k, runs_eq h hv' ce]; rfl
    | prove k t ce o w n => simp only [k, prove_eq h hv' n hk]; rfl
    | evac k t ce o w n =>
     have hreg := h.reg
     have hu : (0 : Int) ≤ IntKind.u64.wrap e.Other := by rw [u64_eq (by omega) (by omega)]; omega
     unfold ref12_Apply_k1; (try simp only [ixL_b, letD])
     rw [k, ref04_has hv.evac.1, decide_eq_true hu]
     simp only [chk, cond_true, Option.bind_some, bif_some]
     rfl
    | expand k t ce o w n => simp only [k, expand_eq h hv']; rfl
    | contract k t ce o w n =>
     unfold ref12_Apply_k1; (try simp only [ixL_b, letD])
     rw [k]
     simp only [bif_some]
     rfl
    | note k t ce o w n =>
     unfold ref12_Apply_k1; (try simp only [ixL_b, letD])
     rw [k]
     rfl
end
end Go.CP
namespace Go.CP
open Go
set_option linter.unusedSimpArgs false
set_option linter.unusedVariables false
def Good (c : ApiConfig) (r : ApiState × Int) : Prop := r.2 = 0 → VS c r.1
section
variable {c : ApiConfig} {s : ApiState} {e : ApiEntry}
theorem Good.bif [Fuel] {b : Bool} {x y : ApiState × Int} (hx : b = true → Good c x) (hy : b = false → Good c y) : Good c (bif b then x else y) := by
 cases b with
 | true => exact hx rfl
 | false => exact hy rfl
theorem Good.no [Fuel] {k : Int} (h : k ≠ 0) : Good c (noS k) := fun q => absurd q h
theorem Good.ok [Fuel] (h : VS c s) : Good c (s, 0) := fun _ => h
theorem Good.fit [Fuel] (h : VS c s) : Good c (fitS c s) := Good.bif (fun _ => Good.no (by decide)) (fun _ => Good.ok h)
theorem toNat_ofInt64 [Fuel] {a : Int} (h0 : 0 ≤ a) (h1 : a < 18446744073709551616) : (BitVec.ofInt 64 a).toNat = a.toNat := by
 rw [BitVec.toNat_ofInt]
 have : a % ((2 : Nat) ^ 64 : Nat) = a := Int.emod_eq_of_lt h0 (by simpa using h1)
 rw [this]
theorem shl_pow [Fuel] {n : Int} (h : 0 ≤ n ∧ n < 62) : shlK .i64 1 (IntKind.u64.wrap n) = 2 ^ n.toNat := by
 rw [u64_eq h.1 (by omega)]
 unfold shlK
 rw [show min n.toNat IntKind.i64.bits = n.toNat from Nat.min_eq_left (by show _ ≤ 64; omega), Int.one_mul]
 have hp : (0 : Int) < 2 ^ n.toNat := Int.pow_pos (by decide)
 have hlt : (2 : Int) ^ n.toNat < 9223372036854775808 := by
  have hh : (2 : Nat) ^ n.toNat ≤ 2 ^ 62 := Nat.pow_le_pow_right (by decide) (by omega)
  have e1 : ((2 : Int) ^ n.toNat) = ((2 ^ n.toNat : Nat) : Int) := by simp
  rw [e1]
  have : (2 : Nat) ^ 62 = 4611686018427387904 := rfl
  omega
 exact w64_eq (by omega) hlt
theorem or_bound [Fuel] {a n : Int} (ha : 0 ≤ a ∧ a < 1073741824) (hn : 0 ≤ n ∧ n < 30) : 0 ≤ orK .i64 a (shlK .i64 1 (IntKind.u64.wrap n)) ∧ orK .i64 a (shlK .i64 1 (IntKind.u64.wrap n)) < 1073741824 := by
 rw [shl_pow ⟨hn.1, by omega⟩]
 have hpn : (2 : Nat) ^ n.toNat < 2 ^ 30 := Nat.pow_lt_pow_right (by decide) (by omega)
 obtain ⟨q, hq⟩ : ∃ q : Nat, q = 2 ^ n.toNat := ⟨_, rfl⟩
 rw [← hq] at hpn
 have e1 : ((2 : Int) ^ n.toNat) = (q : Int) := by rw [hq]; simp
 have h30 : (2 : Nat) ^ 30 = 1073741824 := rfl
 rw [e1]
 unfold orK
 have e2 : (BitVec.ofInt IntKind.i64.bits a ||| BitVec.ofInt IntKind.i64.bits (q : Int)).toNat = a.toNat ||| q := by
  show (BitVec.ofInt 64 a ||| BitVec.ofInt 64 (q : Int)).toNat = _
  rw [BitVec.toNat_or, toNat_ofInt64 ha.1 (by omega), toNat_ofInt64 (by omega) (by omega), Int.toNat_natCast]
 rw [e2]
 have hlt : a.toNat ||| q < 2 ^ 30 := Nat.or_lt_two_pow (by omega) hpn
 generalize a.toNat ||| q = z at hlt ⊢
 have hw : IntKind.i64.wrap (z : Int) = (z : Int) := w64_eq (by omega) (by omega)
 rw [hw]
 omega
theorem xor_bound [Fuel] {a n : Int} (ha : 0 ≤ a ∧ a < 8) (hn : 0 ≤ n ∧ n < 3) : 0 ≤ xorK .i64 a (shlK .i64 1 (IntKind.u64.wrap n)) ∧ xorK .i64 a (shlK .i64 1 (IntKind.u64.wrap n)) < 8 := by
 have h1 : a = 0 ∨ a = 1 ∨ a = 2 ∨ a = 3 ∨ a = 4 ∨ a = 5 ∨ a = 6 ∨ a = 7 := by omega
 have h2 : n = 0 ∨ n = 1 ∨ n = 2 := by omega
 rcases h1 with rfl | rfl | rfl | rfl | rfl | rfl | rfl | rfl <;> rcases h2 with rfl | rfl | rfl <;> decide
theorem cut_w [Fuel] {w : ApiWindow} {tick : Int} (h : 0 ≤ w.From ∧ w.From ≤ w.Until ∧ w.Until ≤ 1073741824) (ht : 0 ≤ tick) : 0 ≤ (cutW w tick).From ∧ (cutW w tick).From ≤ (cutW w tick).Until ∧ (cutW w tick).Until ≤ 1073741824 := by
 unfold cutW minE
 simp only
 (repeat' split) <;> omega
theorem kind_good [Fuel] (h : VC c) (hv : VS c s) (hk : 0 ≤ e.Tick ∧ e.Tick ≤ 1073741824) (hkind : KindP c e) : Good c (kindS c s e) := by
 unfold kindS
 have hcl := hv.cl
 have hvl := h.vl
 cases hkind with
 | place k t ce o w n =>
  rw [k]
  show Good c (placeS c s e)
  unfold placeS
  have hT := ts_at hv (tlen hv t)
  unfold cOk at ce
  refine Good.bif (fun _ => Good.no (by decide)) (fun _ => Good.bif (fun _ => Good.no (by decide)) (fun _ => Good.bif (fun _ => Good.no (by decide)) (fun _ => Good.bif (fun _ => Good.no (by decide)) (fun _ => Good.fit (hv.setT ?_)))))
  exact ⟨⟨by show _ ≤ e.Cell; omega, ce.2⟩, ⟨o.1, o.2.1⟩, hT.nx, hT.tg, hT.wc, fun _ => ce.1, fun _ => rfl, hT.ep, hT.we, hT.wv, hT.wf⟩
 | grant k t ce o ep w n =>
  rw [k]
  show Good c (grantS c s e)
  unfold grantS
  have hT := ts_at hv (tlen hv t)
  unfold cOk at ce
  unfold vOk at n
  refine Good.bif (fun _ => Good.no (by decide)) (fun hpl => Good.bif (fun _ => Good.no (by decide)) (fun _ => Good.bif (fun hg => Good.no (by simpa using hg)) (fun hg => Good.fit (hv.setT ?_))))
  have hg0 : grantedS c s e = 0 := by simpa using hg
  have hwin : e.From < e.Until := by
   unfold grantedS at hg0
   simp only at hg0
   revert hg0
   cases ((cAt s e.Cell).Mode == 3 || (cAt s e.Cell).Mode == 2 && !(e.Cell == (tAt s e.Tenant).Home)) with
   | true => intro q; cases q
   | false =>
    cases (((e.Cell == (tAt s e.Tenant).Home) && (e.Epoch != (tAt s e.Tenant).Epoch)) && (e.Epoch != (tAt s e.Tenant).Epoch + 1)) || ((!(e.Cell == (tAt s e.Tenant).Home)) && (e.Epoch != (tAt s e.Tenant).Epoch + 1)) with
    | true => intro q; cases q
    | false =>
     cases ((e.N != (cAt s e.Cell).Running) || ((cAt s e.Cell).Running != (cAt s e.Cell).Wanted)) with
     | true => intro q; cases q
     | false =>
      simp only [cond_false]
      by_cases hu : e.Until ≤ e.From
      ·rw [decide_eq_true hu]; simp
      ·intro _; omega
  have hpl' : (tAt s e.Tenant).Placed = true := by
   cases hp : (tAt s e.Tenant).Placed with
   | true => rfl
   | false => rw [hp] at hpl; cases hpl
  unfold afterGrant
  simp only
  have hW : 0 ≤ e.From ∧ e.From ≤ e.Until ∧ e.Until ≤ 1073741824 := by omega
  cases (e.Cell == (tAt s e.Tenant).Home) with
  | true => exact ⟨hT.home, hT.sb, hT.nx, hT.tg, ⟨by show _ ≤ e.Cell; omega, ce.2⟩, hT.pl, hT.sh, ⟨by show 0 ≤ e.Epoch; omega, ep.2⟩, ⟨by show 0 ≤ e.Epoch; omega, ep.2⟩, n, hW⟩
  | false =>
   cases (e.Cell == (tAt s e.Tenant).Standby) with
   | true => exact ⟨⟨by show _ ≤ e.Cell; omega, ce.2⟩, ⟨by show (-1 : Int) ≤ -1; decide, by show (-1 : Int) < _; omega⟩, ⟨by show (-1 : Int) ≤ -1; decide, by show (-1 : Int) < _; omega⟩, ⟨by show (-1 : Int) ≤ -1; decide, by show (-1 : Int) < _; omega⟩, ⟨by show _ ≤ e.Cell; omega, ce.2⟩, fun _ => ce.1, (fun q => by cases q), ⟨by show 0 ≤ e.Epoch; omega, ep.2⟩, ⟨by show 0 ≤ e.Epoch; omega, ep.2⟩, n, hW⟩
   | false => exact ⟨⟨by show _ ≤ e.Cell; omega, ce.2⟩, hT.sb, hT.nx, ⟨by show (-1 : Int) ≤ -1; decide, by show (-1 : Int) < _; omega⟩, ⟨by show _ ≤ e.Cell; omega, ce.2⟩, fun _ => ce.1, hT.sh, ⟨by show 0 ≤ e.Epoch; omega, ep.2⟩, ⟨by show 0 ≤ e.Epoch; omega, ep.2⟩, n, hW⟩
 | cut k t ce o ep w n =>
  rw [k]
  show Good c (cutS s e)
  unfold cutS
  have hT := ts_at hv (tlen hv t)
  refine Good.bif (fun _ => Good.no (by decide)) (fun _ => Good.bif (fun _ => Good.no (by decide)) (fun _ => Good.ok (hv.setT ?_)))
  exact ⟨hT.home, hT.sb, hT.nx, hT.tg, hT.wc, hT.pl, hT.sh, hT.ep, hT.we, hT.wv, cut_w hT.wf hk.1⟩
 | standby k t ce o w n =>
  rw [k]
  show Good c (standbyS c s e)
  unfold standbyS
  have hT := ts_at hv (tlen hv t)
  have hok : Good c (fitS c (CP.setT s e.Tenant { tAt s e.Tenant with Next := e.Cell })) := Good.fit (hv.setT ⟨hT.home, hT.sb, ce, hT.tg, hT.wc, hT.pl, hT.sh, hT.ep, hT.we, hT.wv, hT.wf⟩)
  exact Good.bif (fun _ => Good.no (by decide)) (fun _ => Good.bif (fun _ => hok) (fun _ => Good.bif (fun _ => Good.no (by decide)) (fun _ => Good.bif (fun _ => Good.no (by decide)) (fun _ => Good.bif (fun _ => Good.no (by decide)) (fun _ => Good.bif (fun _ => Good.no (by decide)) (fun _ => hok))))))
 | ready k t ce o w n =>
  rw [k]
  show Good c (readyS s e)
  unfold readyS
  have hT := ts_at hv (tlen hv t)
  unfold cOk at ce
  refine Good.bif (fun _ => Good.no (by decide)) (fun _ => Good.bif (fun _ => Good.no (by decide)) (fun _ => Good.bif (fun _ => Good.no (by decide)) (fun _ => Good.ok (hv.setT ?_))))
  exact ⟨hT.home, ⟨by show _ ≤ e.Cell; omega, ce.2⟩, ⟨by show (-1 : Int) ≤ -1; decide, by show (-1 : Int) < _; omega⟩, hT.tg, hT.wc, hT.pl, hT.sh, hT.ep, hT.we, hT.wv, hT.wf⟩
 | migrate k t ce o w n =>
  rw [k]
  show Good c (migrateS c s e)
  unfold migrateS
  have hT := ts_at hv (tlen hv t)
  unfold cOk at ce
  refine Good.bif (fun _ => Good.no (by decide)) (fun _ => Good.bif (fun _ => Good.no (by decide)) (fun _ => Good.bif (fun _ => Good.no (by decide)) (fun _ => Good.bif (fun _ => Good.no (by decide)) (fun _ => Good.bif (fun _ => Good.no (by decide)) (fun _ => Good.fit (hv.setT ?_))))))
  exact ⟨hT.home, hT.sb, hT.nx, ⟨by show _ ≤ e.Cell; omega, ce.2⟩, hT.wc, hT.pl, hT.sh, hT.ep, hT.we, hT.wv, hT.wf⟩
 | abandon k t ce o w n =>
  rw [k]
  show Good c (abandonS s e)
  unfold abandonS
  have hT := ts_at hv (tlen hv t)
  have := h.cl
  refine Good.bif (fun _ => Good.no (by decide)) (fun _ => Good.ok (hv.setT ?_))
  exact ⟨hT.home, hT.sb, hT.nx, ⟨by show (-1 : Int) ≤ -1; decide, by show (-1 : Int) < _; omega⟩, hT.wc, hT.pl, hT.sh, hT.ep, hT.we, hT.wv, hT.wf⟩
 | shed k t ce o w n =>
  rw [k]
  show Good c (shedS c s e)
  unfold shedS
  have hT := ts_at hv (tlen hv t)
  have := h.cl
  refine Good.bif (fun _ => Good.bif (fun _ => Good.no (by decide)) (fun hp => Good.bif (fun _ => Good.no (by decide)) (fun _ => Good.ok (hv.setT ?_)))) (fun _ => Good.bif (fun _ => Good.no (by decide)) (fun _ => Good.bif (fun _ => Good.no (by decide)) (fun _ => Good.fit (hv.setT ?_))))
  ·have hpl : (tAt s e.Tenant).Placed = true := by
    cases hq : (tAt s e.Tenant).Placed with
    | true => rfl
    | false => rw [hq] at hp; cases hp
   exact ⟨hT.home, hT.sb, hT.nx, ⟨by show (-1 : Int) ≤ -1; decide, by show (-1 : Int) < _; omega⟩, hT.wc, hT.pl, fun _ => hpl, hT.ep, hT.we, hT.wv, hT.wf⟩
  ·exact ⟨hT.home, hT.sb, hT.nx, hT.tg, hT.wc, hT.pl, fun q => (by cases q), hT.ep, hT.we, hT.wv, hT.wf⟩
 | mode k t ce o w n =>
  rw [k]
  show Good c (modeS s e)
  unfold modeS
  have hC := cs_at hv (clen hv ce)
  exact Good.bif (fun _ => Good.no (by decide)) (fun _ => Good.ok (hv.setC ⟨n, hC.run, hC.wan, hk⟩))
 | want k t ce o w n =>
  rw [k]
  show Good c (wantS c s e)
  unfold wantS
  have hC := cs_at hv (clen hv ce)
  exact Good.bif (fun _ => Good.no (by decide)) (fun _ => Good.bif (fun _ => Good.no (by decide)) (fun _ => Good.bif (fun _ => Good.no (by decide)) (fun _ => Good.bif (fun _ => Good.no (by decide)) (fun _ => Good.ok (hv.setC ⟨hC.mode, hC.run, n, hC.sin⟩)))))
 | runs k t ce o w n =>
  rw [k]
  show Good c (runsS s e)
  unfold runsS
  have hC := cs_at hv (clen hv ce)
  exact Good.bif (fun _ => Good.no (by decide)) (fun _ => Good.bif (fun _ => Good.no (by decide)) (fun _ => Good.bif (fun _ => Good.no (by decide)) (fun _ => Good.ok (hv.setC ⟨hC.mode, n, hC.wan, hk⟩))))
 | prove k t ce o w n =>
  rw [k]
  show Good c (proveS c s e)
  unfold proveS
  unfold vOk at n
  have hb := or_bound hv.prov ⟨n.1, by omega⟩
  exact Good.bif (fun _ => Good.no (by decide)) (fun _ => Good.bif (fun _ => Good.ok ⟨hv.tl, hv.cl, hv.t, hv.cel, hv.tick, hv.cnt, hb, hv.evac, hv.lh⟩) (fun _ => Good.no (by decide)))
 | evac k t ce o w n =>
  rw [k]
  show Good c (evacS s e)
  unfold evacS
  have hreg := h.reg
  have hb := xor_bound hv.evac ⟨o.1, by omega⟩
  exact Good.bif (fun _ => Good.no (by decide)) (fun _ => Good.ok ⟨hv.tl, hv.cl, hv.t, hv.cel, hv.tick, hv.cnt, hv.prov, hb, hv.lh⟩)
 | expand k t ce o w n =>
  rw [k]
  show Good c (expandS c s)
  unfold expandS
  have hlh := hv.lh
  refine Good.bif (fun _ => Good.no (by decide)) (fun h1 => Good.bif (fun _ => Good.no (by decide)) (fun h2 => Good.bif (fun _ => Good.no (by decide)) (fun _ => Good.ok ⟨hv.tl, hv.cl, hv.t, hv.cel, hv.tick, hv.cnt, hv.prov, hv.evac, ?_⟩)))
  have h2 := of_decide_eq_false h2
  exact ⟨hlh.1, by show s.Low ≤ s.High + 1; omega, by show s.High + 1 ≤ 30; omega⟩
 | contract k t ce o w n =>
  rw [k]
  show Good c (contractS s)
  unfold contractS
  have hlh := hv.lh
  exact Good.bif (fun _ => Good.no (by decide)) (fun _ => Good.ok ⟨hv.tl, hv.cl, hv.t, hv.cel, hv.tick, hv.cnt, hv.prov, hv.evac, by show 0 ≤ s.High; omega, Int.le_refl _, hlh.2.2⟩)
 | note k t ce o w n => rw [k]; exact Good.ok hv
theorem apply_good [Fuel] (h : VC c) (hv : VS c s) : Good c (applyS c s e) := by
 unfold applyS
 refine Good.bif (fun _ => Good.no (by decide)) (fun hb => Good.bif (fun _ => Good.no (by decide)) (fun h4 => Good.bif (fun _ => Good.no (by decide)) (fun _ => ?_)))
 have hV := ((valid_eq (e := e) h).2).1 (by simpa using hb)
 have h4 := of_decide_eq_false h4
 exact kind_good h (hv.bump hV.1 (by omega)) hV.1 hV.2
end
end Go.CP
namespace Go.CP
open Go
set_option linter.unusedSimpArgs false
set_option linter.unusedVariables false
structure TR (t0 : MakeTape) (t : MakeTape) (b : Int) : Prop where
 tb : TB t b
 l : t.L = t0.L
 at_ : t0.At ≤ t.At
theorem TR.eta [Fuel] {t0 t : MakeTape} {b : Int} (h : TR t0 t b) : TR t0 { L := t.L, At := t.At } b := h
theorem TR.up [Fuel] {t0 t : MakeTape} {b b' : Int} (h : TR t0 t b) (hb : b ≤ b') : TR t0 t b' := ⟨h.tb.up hb, h.l, h.at_⟩
theorem next_step [Fuel] {t : MakeTape} {b n : Int} (h : TB t b) (h1 : 1 ≤ n) (h2 : n ≤ 4611686018427387904) (hb : b ≤ 1000000000) {r : Int × MakeTape} (hr : make_Tape_Next t n = some r) :
  r.2.L = t.L ∧ t.At ≤ r.2.At ∧ (t.L.length ≠ 0 → t.At + 1 ≤ r.2.At) := by
 have hlo := h.lo
 have hhi := h.hi
 unfold make_Tape_Next at hr; simp only [ixL_b, letD] at hr
 by_cases h0 : ((t.L.length : Nat) : Int) = 0
 ·have : ((((t.L.length : Nat) : Int)) == 0) = true := by simpa using h0
  rw [this] at hr
  cases hr
  exact ⟨rfl, Int.le_refl _, fun q => absurd (by omega) q⟩
 ·have e : ((((t.L.length : Nat) : Int)) == 0) = false := by simpa using h0
  rw [e] at hr
  simp only [cond_false] at hr
  obtain ⟨_, hr⟩ := chkD hr
  obtain ⟨x, _, hr⟩ := bind_elim hr
  obtain ⟨_, hr⟩ := chkD hr
  obtain ⟨y, _, hr⟩ := bind_elim hr
  obtain ⟨z, _, hr⟩ := bind_elim hr
  have hr := Option.some.inj hr
  subst hr
  rw [w64_eq (x := t.At + 1) (by omega) (by omega)]
  exact ⟨rfl, by show t.At ≤ t.At + 1; omega, fun _ => Int.le_refl _⟩
section
variable {t0 t : MakeTape} {b : Int}
theorem next_tr [Fuel] {n : Int} (h : TR t0 t b) (h1 : 1 ≤ n) (h2 : n ≤ 4611686018427387904) (hb : b ≤ 1000000000) :
  Ok (make_Tape_Next t n) (fun r => 0 ≤ r.1 ∧ r.1 < n ∧ TR t0 r.2 (b + 1)) := by
 obtain ⟨r, hr, q1, q2, q3⟩ := next_ok h.tb h1 h2 hb
 obtain ⟨s1, s2, _⟩ := next_step h.tb h1 h2 hb hr
 exact ⟨r, hr, q1, q2, q3, by rw [s1, h.l], Int.le_trans h.at_ s2⟩
theorem range_tr [Fuel] {lo hi : Int} (h : TR t0 t b) (h1 : lo ≤ hi) (h2 : -1000000000 ≤ lo) (h3 : hi ≤ 1000000000) (hb : b ≤ 1000000000) :
  Ok (make_Tape_Range t lo hi) (fun r => lo ≤ r.1 ∧ r.1 ≤ hi ∧ TR t0 r.2 (b + 1)) := by
 unfold make_Tape_Range; (try simp only [ixL_b, letD])
 rw [w64_eq (x := hi - lo) (by omega) (by omega), w64_eq (x := hi - lo + 1) (by omega) (by omega)]
 refine Ok.bind (next_tr h (by omega) (by omega) hb) (fun r hr => Ok.some ?_)
 rw [w64_eq (by omega) (by omega)]
 exact ⟨by show lo ≤ lo + r.1; omega, by show lo + r.1 ≤ hi; omega, hr.2.2⟩
theorem yes_tr [Fuel] {n : Int} (h : TR t0 t b) (h1 : 1 ≤ n) (h2 : n ≤ 4611686018427387904) (hb : b ≤ 1000000000) :
  Ok (make_Tape_Yes t n) (fun r => TR t0 r.2 (b + 1)) := by
 unfold make_Tape_Yes; (try simp only [ixL_b, letD])
 exact Ok.bind (next_tr h h1 h2 hb) (fun r hr => Ok.some hr.2.2)
theorem pick_tr [Fuel] {l : List Int} (h : TR t0 t b) (hl : l.length ≤ 1000) (hb : b ≤ 1000000000) : Ok (make_pick t l) (fun r => TR t0 r.2 (b + 1)) := by
 unfold make_pick; (try simp only [ixL_b, letD])
 refine Ok.cond (fun _ => Ok.some (h.up (by omega))) (fun h0 => ?_)
 have : ((l.length : Nat) : Int) ≠ 0 := by simpa using h0
 exact Ok.bind (next_tr h (by omega) (by omega) hb) (fun r hr => Ok.idx ⟨hr.1, hr.2.1⟩ (fun x _ _ => Ok.some hr.2.2))
end
section
variable {c : ApiConfig} {s : ApiState}
theorem homes_l [Fuel] (h : VC c) (t : Int) : ∀ (m k : Nat) (l : List Int), c.Cells.length - k < m → k ≤ c.Cells.length → l.length ≤ k → Ok (ref05_Homes_l2 c t m l (k : Int)) (fun r => r.length ≤ c.Cells.length)
 | 0, _, _, hm, _, _ => absurd hm (Nat.not_lt_zero _)
 | m + 1, k, l, hm, hk, hl => by
  have hcl := h.cl
  rw [ref05_Homes_l2]; (try simp only [ixL_b, letD])
  refine Ok.cond (fun hlt => ?_) (fun _ => Ok.some (by omega))
  have hlt := of_decide_eq_true hlt
  refine Ok.bindE (ref05_may h t k) ?_
  unfold ref05_Homes_k1; (try simp only [ixL_b, letD])
  rw [w64_eq (x := (k : Int) + 1) (by omega) (by omega)]
  have ec : (k : Int) + 1 = ((k + 1 : Nat) : Int) := by omega
  rw [ec]
  exact Ok.cond (fun _ => Ok.chk (dT (by show _ ≤ 140737488355328; simp; omega)) (homes_l h t m (k + 1) _ (by omega) (by omega) (by simp; omega))) (fun _ => homes_l h t m (k + 1) _ (by omega) (by omega) (by omega))
theorem homes_ok [Fuel] (h : VC c) (t : Int) : Ok (ref05_Homes c t) (fun r => r.length ≤ 16) := by
 have hcl := h.cl
 unfold ref05_Homes; (try simp only [ixL_b, letD])
 exact (homes_l h t fuel 0 [] (by rw [fuel_eq]; omega) (by omega) (by simp)).mono (fun r hr => by omega)
theorem standbys_l [Fuel] (h : VC c) (t hm0 : Int) : ∀ (m k : Nat) (l : List Int), c.Cells.length - k < m → k ≤ c.Cells.length → l.length ≤ k → Ok (ref05_Standbys_l2 c t hm0 m l (k : Int)) (fun r => r.length ≤ c.Cells.length)
 | 0, _, _, hm, _, _ => absurd hm (Nat.not_lt_zero _)
 | m + 1, k, l, hm, hk, hl => by
  have hcl := h.cl
  rw [ref05_Standbys_l2]; (try simp only [ixL_b, letD])
  refine Ok.cond (fun hlt => ?_) (fun _ => Ok.some (by omega))
  have hlt := of_decide_eq_true hlt
  refine Ok.bindE (ref05_may h t k) ?_
  simp only [ref05_apart h, bif_some, Option.bind_some]
  unfold ref05_Standbys_k1; (try simp only [ixL_b, letD])
  rw [w64_eq (x := (k : Int) + 1) (by omega) (by omega)]
  have ec : (k : Int) + 1 = ((k + 1 : Nat) : Int) := by omega
  rw [ec]
  exact Ok.cond (fun _ => Ok.chk (dT (by show _ ≤ 140737488355328; simp; omega)) (standbys_l h t hm0 m (k + 1) _ (by omega) (by omega) (by simp; omega))) (fun _ => standbys_l h t hm0 m (k + 1) _ (by omega) (by omega) (by omega))
theorem standbys_ok [Fuel] (h : VC c) (t hm0 : Int) : Ok (ref05_Standbys c t hm0) (fun r => r.length ≤ 16) := by
 have hcl := h.cl
 unfold ref05_Standbys; (try simp only [ixL_b, letD])
 exact (standbys_l h t hm0 fuel 0 [] (by rw [fuel_eq]; omega) (by omega) (by simp)).mono (fun r hr => by omega)
abbrev ER (t0 : MakeTape) (B b : Int) (r : ApiEntry × MakeTape) : Prop := TR t0 r.2 b ∧ r.1.Tick ≤ B
theorem platform_ok [Fuel] (h : VC c) (hv : VS c s) {t0 t : MakeTape} {b : Int} (hT : TR t0 t b) (hb : b ≤ 1000000) (tick : Int) (htk : 0 ≤ tick ∧ tick ≤ 1100000000) : Ok (make_platform t c s tick) (ER t0 (tick + 10001) (b + 3)) := by
 have hcl := h.cl
 have hvl := h.vl
 have hle := h.lease
 have hba := h.bake
 have hreg := h.reg
 have hl := hv.cl
 unfold make_platform make_none; (try simp only [ixL_b, letD])
 refine Ok.bindE rfl (Ok.bind (next_tr hT (by omega) (by omega) (by omega)) (fun r6 q6 => Ok.idx ⟨q6.1, by omega⟩ (fun x7 _ _ => Ok.bind (next_tr q6.2.2 (by omega) (by omega) (by omega)) (fun r8 q8 => ?_))))
 have k3 : ∀ (x5 : ApiEntry) (t' : MakeTape) (b' : Int), TR t0 t' b' → b' ≤ b + 3 → x5.Tick ≤ tick + 10001 → Ok (make_platform_k1 t' x5) (ER t0 (tick + 10001) (b + 3)) := fun x5 t' b' ht hb' hx => Ok.some ⟨ht.up hb', hx⟩
 have q8' := q8.2.2
 have k1 : ∀ (x5 : ApiEntry) (g : Bool), x5.Tick ≤ tick + 10001 → Ok (make_platform_k2 c s tick x5 x7 r8.2 r6.1 r8.1 g) (ER t0 (tick + 10001) (b + 3)) := by
  intro x5 g hx
  unfold make_platform_k2; (try simp only [ixL_b, letD])
  refine Ok.cond (fun _ => Ok.bind (next_tr q8' (by omega) (by omega) (by omega)) (fun r q => k3 _ _ _ q.2.2 (by omega) (by show w64 (tick + r.1) ≤ _; rw [w64_eq (by omega) (by omega)]; omega))) (fun _ => ?_)
  refine Ok.cond (fun _ => ?_) (fun _ => ?_)
  ·rw [w64_eq (x := c.Bake + 1) (by omega) (by omega)]
   exact Ok.bind (next_tr q8' (by omega) (by omega) (by omega)) (fun r q => k3 _ _ _ q.2.2 (by omega) (by show w64 (tick + r.1) ≤ _; rw [w64_eq (by omega) (by omega)]; omega))
  ·refine Ok.cond (fun _ => ?_) (fun _ => ?_)
   ·refine Ok.bind (next_tr q8' (by omega) (by omega) (by omega)) (fun r q => Ok.bindE (ref04_has hv.evac.1) ?_)
    exact Ok.cond (fun _ => k3 _ _ _ q.2.2 (by omega) hx) (fun _ => k3 _ _ _ q.2.2 (by omega) hx)
   ·refine Ok.cond (fun _ => ?_) (fun _ => ?_)
    ·exact Ok.cond (fun _ => k3 _ _ _ q8' (by omega) hx) (fun _ => k3 _ _ _ q8' (by omega) hx)
    ·exact Ok.bind (next_tr q8' (by omega) (by omega) (by omega)) (fun r q => k3 _ _ _ q.2.2 (by omega) hx)
 have k2 : ∀ (x5 : ApiEntry) (g : Bool), x5.Tick ≤ tick + 10001 → Ok (make_platform_k3 c s tick x5 x7 r8.2 r6.1 r8.1 g) (ER t0 (tick + 10001) (b + 3)) := by
  intro x5 g hx
  unfold make_platform_k3; (try simp only [ixL_b, letD])
  refine Ok.cond (fun _ => Ok.bind (next_tr q8' (by omega) (by omega) (by omega)) (fun r q => k3 _ _ _ q.2.2 (by omega) hx)) (fun _ => ?_)
  exact Ok.cond (fun _ => k1 _ _ hx) (fun _ => Ok.cond (fun _ => k1 _ _ hx) (fun _ => k1 _ _ hx))
 refine Ok.cond (fun _ => Ok.bind (range_tr q8' (by omega) (by omega) (by omega) (by omega)) (fun r q => k3 _ _ _ q.2.2 (by omega) (by show tick ≤ _; omega))) (fun _ => ?_)
 refine Ok.cond (fun _ => k3 _ _ _ q8' (by omega) (by show tick ≤ _; omega)) (fun _ => ?_)
 exact Ok.cond (fun _ => k2 _ _ (by show tick ≤ _; omega)) (fun _ => Ok.cond (fun _ => k2 _ _ (by show tick ≤ _; omega)) (fun _ => k2 _ _ (by show tick ≤ _; omega)))
theorem grant_ok [Fuel] (h : VC c) (hv : VS c s) {t0 t : MakeTape} {b : Int} (hT : TR t0 t b) (hb : b ≤ 1000000) {e : ApiEntry} (ht : tOk c e) (hp : (tAt s e.Tenant).Placed = true) {B : Int} (hB1 : e.Tick ≤ B) (hB2 : (tAt s e.Tenant).Window.Until ≤ B) : Ok (make_grant t c s e) (ER t0 B (b + 9)) := by
 have hle := h.lease
 have hl := hv.cl
 have h1 := tlen hv ht
 have hTS := ts_at hv h1
 unfold make_grant; (try simp only [ixL_b, letD])
 refine Ok.bindE (idx_eq h1) ?_
 show Ok (Option.bind (bif (decide (0 ≤ (tAt s e.Tenant).Target)) then make_Tape_Yes t 2 else some (default, t)) _) _
 have k1 : ∀ (p4 : ApiEntry) (t' : MakeTape) (b' : Int), TR t0 t' b' → b' ≤ b + 9 → p4.Tick ≤ B → Ok (make_grant_k1 t' p4) (ER t0 B (b + 9)) := fun _ t' b' ht hb' hx => Ok.some ⟨ht.up hb', hx⟩
 have k2 : ∀ (p4 : ApiEntry) (t' : MakeTape) (b' : Int), 0 ≤ p4.Cell → p4.Cell < ((s.Cells.length : Nat) : Int) → TR t0 t' b' → b' ≤ b + 6 → p4.Tick ≤ B → Ok (make_grant_k2 c s t' p4) (ER t0 B (b + 9)) := by
  intro p4 t' b' g1 g2 ht' hb' hx
  unfold make_grant_k2; (try simp only [ixL_b, letD])
  refine Ok.bind (range_tr ht' (by omega) (by omega) (by omega) (by omega)) (fun r q => Ok.idx ⟨g1, g2⟩ (fun x _ _ => Ok.bind (yes_tr q.2.2 (by omega) (by omega) (by omega)) (fun r2 q2 => ?_)))
  exact Ok.cond (fun _ => Ok.bind (next_tr q2 (by omega) (by omega) (by omega)) (fun r3 q3 => k1 _ _ _ q3.2.2 (by omega) hx)) (fun _ => k1 _ _ _ q2 (by omega) hx)
 have k3 : ∀ (p4 : ApiEntry) (x5 : ApiTenantState) (t' : MakeTape) (b' : Int), 0 ≤ p4.Cell → p4.Cell < ((s.Cells.length : Nat) : Int) → TR t0 t' b' → b' ≤ b + 4 → p4.Tick ≤ B → Ok (make_grant_k3 c s x5 t' p4) (ER t0 B (b + 9)) := by
  intro p4 x5 t' b' g1 g2 ht' hb' hx
  unfold make_grant_k3; (try simp only [ixL_b, letD])
  refine Ok.bind (yes_tr ht' (by omega) (by omega) (by omega)) (fun r q => ?_)
  exact Ok.cond (fun _ => Ok.bind (next_tr q (by omega) (by omega) (by omega)) (fun r3 q3 => k2 _ _ _ g1 g2 q3.2.2 (by omega) hx)) (fun _ => k2 _ _ _ g1 g2 q (by omega) hx)
 have k4 : ∀ (p4 : ApiEntry) (x5 : ApiTenantState) (t' : MakeTape) (b' : Int), 0 ≤ p4.Cell → p4.Cell < ((s.Cells.length : Nat) : Int) → TR t0 t' b' → b' ≤ b + 3 → p4.Tick ≤ B → x5.Window.Until ≤ B → Ok (make_grant_k4 c s x5 t' p4) (ER t0 B (b + 9)) := by
  intro p4 x5 t' b' g1 g2 ht' hb' hx hu
  unfold make_grant_k4; (try simp only [ixL_b, letD])
  have step : Ok (bif (p4.Cell != x5.Home) then make_Tape_Next t' 4 else some (default, t')) (fun r => TR t0 r.2 (b' + 1)) :=
   Ok.cond (fun _ => (next_tr ht' (by omega) (by omega) (by omega)).mono (fun r q => q.2.2)) (fun _ => Ok.some (ht'.up (by omega)))
  refine Ok.bind step (fun r q => ?_)
  exact Ok.cond (fun _ => k3 _ _ _ _ g1 g2 q (by omega) (by show maxE _ _ ≤ B; unfold maxE; split <;> omega)) (fun _ => k3 _ _ _ _ g1 g2 q (by omega) hx)
 have k5 : ∀ (p4 : ApiEntry) (x5 : ApiTenantState) (t' : MakeTape) (b' : Int), 0 ≤ p4.Cell → p4.Cell < ((s.Cells.length : Nat) : Int) → TR t0 t' b' → b' ≤ b + 2 → p4.Tick ≤ B → x5.Window.Until ≤ B → Ok (make_grant_k5 c s x5 t' p4) (ER t0 B (b + 9)) := by
  intro p4 x5 t' b' g1 g2 ht' hb' hx hu
  unfold make_grant_k5; (try simp only [ixL_b, letD])
  have step : Ok (bif (!((p4.Cell != x5.Home) || (x5.Epoch == 0))) then make_Tape_Yes t' 4 else some (default, t')) (fun r => TR t0 r.2 (b' + 1)) :=
   Ok.cond (fun _ => yes_tr ht' (by omega) (by omega) (by omega)) (fun _ => Ok.some (ht'.up (by omega)))
  refine Ok.bind step (fun r q => ?_)
  exact Ok.cond (fun _ => k4 _ _ _ _ g1 g2 q (by omega) hx hu) (fun _ => k4 _ _ _ _ g1 g2 q (by omega) hx hu)
 have htg := hTS.tg
 have hsb := hTS.sb
 have hho := hTS.home
 have hpl := hTS.pl hp
 have step1 : Ok (bif (decide (0 ≤ (tAt s e.Tenant).Target)) then make_Tape_Yes t 2 else some (default, t)) (fun r => TR t0 r.2 (b + 1)) :=
  Ok.cond (fun _ => yes_tr hT (by omega) (by omega) (by omega)) (fun _ => Ok.some (hT.up (by omega)))
 refine Ok.bind step1 (fun r6 q6 => ?_)
 refine Ok.cond (fun hc => ?_) (fun _ => ?_)
 ·simp only [Bool.and_eq_true] at hc
  have := of_decide_eq_true hc.1
  exact k5 _ _ _ _ this (by show (tAt s e.Tenant).Target < _; omega) q6 (by omega) hB1 hB2
 ·have step2 : Ok (bif (decide (0 ≤ (tAt s e.Tenant).Standby)) then make_Tape_Yes r6.2 5 else some (default, r6.2)) (fun r => TR t0 r.2 (b + 1 + 1)) :=
   Ok.cond (fun _ => yes_tr q6 (by omega) (by omega) (by omega)) (fun _ => Ok.some (q6.up (by omega)))
  refine Ok.bind step2 (fun r7 q7 => ?_)
  refine Ok.cond (fun hc => ?_) (fun _ => ?_)
  ·simp only [Bool.and_eq_true] at hc
   have := of_decide_eq_true hc.1
   exact k5 _ _ _ _ this (by show (tAt s e.Tenant).Standby < _; omega) q7 (by omega) hB1 hB2
  ·exact k5 _ _ _ _ hpl (by show (tAt s e.Tenant).Home < _; omega) q7 (by omega) hB1 hB2
theorem entry_k2_ok [Fuel] (h : VC c) (hv : VS c s) {t0 t : MakeTape} {b : Int} (hT : TR t0 t b) (hb : b ≤ 100000) (tick : Int) (htk : 0 ≤ tick ∧ tick ≤ 1100000000) {B : Int} (hB : tick + 10001 ≤ B) (hU : ∀ x ∈ s.Tenants, x.Window.Until ≤ B) : Ok (make_Entry_k2 c s t tick) (ER t0 B (b + 12)) := by
 have htl := hv.tl
 have ctl := h.tl
 unfold make_Entry_k2; (try simp only [ixL_b, letD])
 have step : Ok (bif (!(((c.Tenants.length : Nat) : Int) == 0)) then make_Tape_Yes t 4 else some (default, t)) (fun r => TR t0 r.2 (b + 1)) :=
  Ok.cond (fun _ => yes_tr hT.eta (by omega) (by omega) (by omega)) (fun _ => Ok.some (hT.up (by omega)))
 refine Ok.bind step (fun r9 q9 => ?_)
 refine Ok.cond (fun _ => ?_) (fun hn => ?_)
 ·exact Ok.bind (platform_ok h hv q9 (by omega) tick htk) (fun r q => Ok.some ⟨q.1.up (by omega), by have := q.2; show r.1.Tick ≤ B; omega⟩)
 ·have hne : ((c.Tenants.length : Nat) : Int) ≠ 0 := by
   simp only [Bool.or_eq_false_iff] at hn
   simpa using hn.1
  refine Ok.bind (next_tr q9 (by omega) (by omega) (by omega)) (fun r11 q11 => ?_)
  have i1 : 0 ≤ r11.1 ∧ r11.1 < ((s.Tenants.length : Nat) : Int) := by omega
  refine Ok.bindE (idx_eq i1) ?_
  show Ok (bif (!(tAt s r11.1).Placed) then _ else _) _
  refine Ok.cond (fun _ => ?_) (fun hp => ?_)
  ·unfold make_none; (try simp only [ixL_b, letD])
   refine Ok.bindE rfl (Ok.bind (homes_ok h _) (fun x14 q14 => Ok.bind (pick_tr q11.2.2 (by omega) (by omega)) (fun x15 q15 => Ok.bind (standbys_ok h _ _) (fun x16 q16 => Ok.bind (pick_tr q15 (by omega) (by omega)) (fun x17 q17 => Ok.some ⟨q17.up (by omega), by show tick ≤ B; omega⟩)))))
  ·have hp : (tAt s r11.1).Placed = true := by simpa using hp
   unfold make_none; (try simp only [ixL_b, letD])
   refine Ok.bindE rfl (Ok.bind (next_tr q11.2.2 (by omega) (by omega) (by omega)) (fun r19 q19 => ?_))
   have q19' := q19.2.2
   have k1 : ∀ (x18 : ApiEntry) (t' : MakeTape) (b' : Int), TR t0 t' b' → b' ≤ b + 12 → x18.Tick ≤ B → Ok (make_Entry_k1 t' x18) (ER t0 B (b + 12)) := fun _ t' b' ht hb' hx => Ok.some ⟨ht.up hb', hx⟩
   refine Ok.cond (fun _ => k1 _ _ _ q19' (by omega) (by show tick ≤ B; omega)) (fun _ => ?_)
   refine Ok.cond (fun _ => Ok.bind (standbys_ok h _ _) (fun x20 q20 => Ok.bind (pick_tr q19' (by omega) (by omega)) (fun x21 q21 => k1 _ _ _ q21 (by omega) (by show tick ≤ B; omega)))) (fun _ => ?_)
   refine Ok.cond (fun _ => k1 _ _ _ q19' (by omega) (by show tick ≤ B; omega)) (fun _ => ?_)
   refine Ok.cond (fun _ => Ok.bind (homes_ok h _) (fun x20 q20 => Ok.bind (pick_tr q19' (by omega) (by omega)) (fun x21 q21 => k1 _ _ _ q21 (by omega) (by show tick ≤ B; omega)))) (fun _ => ?_)
   refine Ok.cond (fun _ => k1 _ _ _ q19' (by omega) (by show tick ≤ B; omega)) (fun _ => ?_)
   refine Ok.cond (fun _ => Ok.cond (fun _ => k1 _ _ _ q19' (by omega) (by show tick ≤ B; omega)) (fun _ => k1 _ _ _ q19' (by omega) (by show tick ≤ B; omega))) (fun _ => ?_)
   exact Ok.bind (grant_ok h hv q19' (by omega) (show tOk c _ from ⟨i1.1, by show r11.1 < _; omega⟩) hp (B := B) (by show tick ≤ B; omega) (hU _ (getD_mem (by show r11.1.toNat < _; omega)))) (fun r q => Ok.some ⟨q.1.up (by omega), q.2⟩)
theorem entry_ok [Fuel] (h : VC c) (hv : VS c s) {t : MakeTape} {b : Int} (hT : TB t b) (hb : b ≤ 10000) {B : Int} (hB : s.Tick + 10004 ≤ B) (hU : ∀ x ∈ s.Tenants, x.Window.Until ≤ B) : Ok (make_Entry t c s) (fun r => TB r.2 (b + 14) ∧ r.2.L = t.L ∧ (t.L.length ≠ 0 → t.At + 1 ≤ r.2.At) ∧ r.1.Tick ≤ B) := by
 have htk := hv.tick
 unfold make_Entry; (try simp only [ixL_b, letD])
 obtain ⟨r4, e4, q4⟩ := next_ok hT (n := 4) (by omega) (by omega) (by omega)
 obtain ⟨s1, s2, s3⟩ := next_step hT (by omega) (by omega) (by omega) e4
 have hR : TR r4.2 r4.2 (b + 1) := ⟨q4.2.2, rfl, Int.le_refl _⟩
 have fin : ∀ r : ApiEntry × MakeTape, ER r4.2 B (b + 1 + 1 + 12) r → TB r.2 (b + 14) ∧ r.2.L = t.L ∧ (t.L.length ≠ 0 → t.At + 1 ≤ r.2.At) ∧ r.1.Tick ≤ B := by
  rintro r ⟨hr, hrt⟩
  refine ⟨hr.tb.up (by omega), by rw [hr.l, s1], fun hn => ?_, hrt⟩
  have := s3 hn
  have := hr.at_
  omega
 refine Ok.bindE e4 (Ok.bind (yes_tr hR (by omega) (by omega) (by omega)) (fun r5 q5 => ?_))
 rw [w64_eq (x := s.Tick + r4.1) (by omega) (by omega), w64_eq (x := s.Tick - 1) (by omega) (by omega)]
 exact Ok.cond (fun _ => (entry_k2_ok h hv q5 (by omega) _ (by unfold maxE; split <;> omega) (B := B) (by unfold maxE; split <;> omega) hU).mono fin) (fun _ => (entry_k2_ok h hv q5 (by omega) _ (by omega) (B := B) (by omega) hU).mono fin)
end
end Go.CP
namespace Go.CP
open Go
set_option linter.unusedSimpArgs false
set_option linter.unusedVariables false
def t0S : ApiTenantState := { Placed := false, Shed := false, Home := (-1), Standby := (-1), Next := (-1), Target := (-1), Epoch := 0, Window := { Cell := (-1), Epoch := 0, Version := 0, From := 0, Until := 0 : ApiWindow } }
def c0S : ApiCellState := { Mode := 1, Running := 0, Wanted := 0, Since := 0 }
def newS (c : ApiConfig) : ApiState := { Tick := 0, Count := 0, Tenants := List.replicate c.Tenants.length t0S, Cells := List.replicate c.Cells.length c0S, Proven := 1, Evacuating := 0, Low := 0, High := 0 }
section
variable {c : ApiConfig} {s : ApiState}
theorem t0_ts [Fuel] (h : VC c) : TS c t0S := by
 have hcl := h.cl
 have hvl := h.vl
 refine ⟨?_, ?_, ?_, ?_, ?_, fun q => (by cases q), fun q => (by cases q), ?_, ?_, ?_, ?_⟩ <;> simp only [t0S] <;> omega
theorem c0_cs [Fuel] (h : VC c) : CS c c0S := by
 have hvl := h.vl
 refine ⟨?_, ?_, ?_, ?_⟩ <;> simp only [c0S] <;> omega
theorem new_vs [Fuel] (h : VC c) : VS c (newS c) := by
 refine ⟨by simp [newS], by simp [newS], fun x hx => ?_, fun x hx => ?_, ?_, ?_, ?_, ?_, ?_⟩
 ·rw [List.eq_of_mem_replicate hx]; exact t0_ts h
 ·rw [List.eq_of_mem_replicate hx]; exact c0_cs h
 all_goals (simp only [newS]; omega)
theorem repl_snoc [Fuel] {α : Type} (n : Nat) (a : α) : List.replicate n a ++ [a] = List.replicate (n + 1) a := by rw [List.replicate_succ']
theorem new_l2 [Fuel] (h : VC c) (ts : List ApiTenantState) : ∀ (m k : Nat), c.Cells.length - k < m → k ≤ c.Cells.length →
  ref12_New_l1 c m { Tick := 0, Count := 0, Tenants := ts, Cells := List.replicate k c0S, Proven := 1, Evacuating := 0, Low := 0, High := 0 } (k : Int) = some { Tick := 0, Count := 0, Tenants := ts, Cells := List.replicate c.Cells.length c0S, Proven := 1, Evacuating := 0, Low := 0, High := 0 }
 | 0, _, hm, _ => absurd hm (Nat.not_lt_zero _)
 | m + 1, k, hm, hk => by
  have hcl := h.cl
  rw [ref12_New_l1]; dsimp only
  by_cases hlt : k < c.Cells.length
  ·rw [decide_eq_true (show (k : Int) < ((c.Cells.length : Nat) : Int) by omega), decide_eq_true (show ((List.replicate k c0S).length + [{ Mode := 1, Running := 0, Wanted := 0, Since := 0 : ApiCellState }].length) * 32 ≤ 140737488355328 by simp; omega), w64_eq (x := (k : Int) + 1) (by omega) (by omega)]
   have := new_l2 h ts m (k + 1) (by omega) (by omega)
   rw [← repl_snoc] at this
   simpa [chk, c0S] using this
  ·rw [decide_eq_false (show ¬ (k : Int) < ((c.Cells.length : Nat) : Int) by omega)]
   have : k = c.Cells.length := by omega
   subst this; rfl
theorem new_l1 [Fuel] (h : VC c) : ∀ (m k : Nat), c.Tenants.length - k < m → k ≤ c.Tenants.length → ref12_New_l2 c m { Tick := 0, Count := 0, Tenants := List.replicate k t0S, Cells := [], Proven := 1, Evacuating := 0, Low := 0, High := 0 } (k : Int) = some (newS c)
 | 0, _, hm, _ => absurd hm (Nat.not_lt_zero _)
 | m + 1, k, hm, hk => by
  have hcl := h.cl
  have htl := h.tl
  rw [ref12_New_l2]; dsimp only
  by_cases hlt : k < c.Tenants.length
  ·rw [decide_eq_true (show (k : Int) < ((c.Tenants.length : Nat) : Int) by omega), decide_eq_true (show ((List.replicate k t0S).length + [{ Placed := false, Shed := false, Home := -1, Standby := -1, Next := -1, Target := -1, Epoch := 0, Window := { Cell := -1, Epoch := 0, Version := 0, From := 0, Until := 0 } : ApiTenantState }].length) * 88 ≤ 140737488355328 by simp; omega), w64_eq (x := (k : Int) + 1) (by omega) (by omega)]
   have := new_l1 h m (k + 1) (by omega) (by omega)
   rw [← repl_snoc] at this
   simpa [chk, t0S] using this
  ·rw [decide_eq_false (show ¬ (k : Int) < ((c.Tenants.length : Nat) : Int) by omega)]
   have : k = c.Tenants.length := by omega
   subst this
   have := new_l2 h (List.replicate c.Tenants.length t0S) fuel 0 (by rw [fuel_eq]; omega) (by omega)
   simpa [newS] using this
theorem new_eq [Fuel] (h : VC c) : ref12_New c = some (newS c) := by
 have htl := h.tl
 unfold ref12_New; (try simp only [ixL_b, letD])
 have := new_l1 h fuel 0 (by rw [fuel_eq]; omega) (by omega)
 simpa using this
def runS [Fuel] (c : ApiConfig) : ApiState → List ApiEntry → ApiState
 | s, [] => s
 | s, e :: r => runS c (applyS c s e).1 r
def okS [Fuel] (c : ApiConfig) : ApiState → List ApiEntry → Prop
 | _, [] => True
 | s, e :: r => (applyS c s e).2 = 0 ∧ okS c (applyS c s e).1 r
theorem run_snoc [Fuel] (l : List ApiEntry) (e : ApiEntry) : ∀ s, runS c s (l ++ [e]) = (applyS c (runS c s l) e).1 := by
 induction l with
 | nil => intro s; rfl
 | cons a l ih => intro s; exact ih _
theorem ok_snoc [Fuel] (l : List ApiEntry) (e : ApiEntry) : ∀ s, okS c s l → (applyS c (runS c s l) e).2 = 0 → okS c s (l ++ [e]) := by
 induction l with
 | nil => intro s _ h; exact ⟨h, trivial⟩
 | cons a l ih => intro s h h2; exact ⟨h.1, ih _ h.2 h2⟩
theorem run_vs [Fuel] (h : VC c) (l : List ApiEntry) : ∀ s, VS c s → okS c s l → VS c (runS c s l) := by
 induction l with
 | nil => intro s hv _; exact hv
 | cons a l ih => intro s hv ho; exact ih _ (apply_good h hv ho.1) ho.2
theorem fold_l [Fuel] (h : VC c) {l : List ApiEntry} (hl : l.length ≤ 1000) : ∀ (m k : Nat) (s : ApiState), VS c s → okS c s (l.drop k) → k ≤ l.length → l.length - k < m →
  ref12_Fold_l1 c l m s (k : Int) = some (runS c s (l.drop k), (l.length : Int), 0)
 | 0, _, _, _, _, _, hm => absurd hm (Nat.not_lt_zero _)
 | m + 1, k, s, hv, ho, hk, hm => by
  rw [ref12_Fold_l1]; (try simp only [ixL_b, letD])
  by_cases hlt : k < l.length
  ·have i1 : 0 ≤ (k : Int) ∧ (k : Int) < ((l.length : Nat) : Int) := by omega
   rw [decide_eq_true i1.2, idx_eq i1]
   simp only [cond_true, Option.bind_some, Int.toNat_natCast, apply_eq h hv]
   rw [drop_cons hlt] at ho ⊢
   obtain ⟨h0, ho⟩ := ho
   rw [h0, w64_eq (x := (k : Int) + 1) (by omega) (by omega)]
   have := fold_l h hl m (k + 1) _ (apply_good h hv h0) ho (by omega) (by omega)
   have ec : ((k + 1 : Nat) : Int) = (k : Int) + 1 := by omega
   rw [ec] at this
   exact this
  ·rw [decide_eq_false (show ¬ (k : Int) < ((l.length : Nat) : Int) by omega), List.drop_eq_nil_of_le (by omega)]
   rfl
theorem fold_eq [Fuel] (h : VC c) {l : List ApiEntry} (hl : l.length ≤ 1000) (ho : okS c (newS c) l) : ref12_Fold c l = some (runS c (newS c) l, (l.length : Int), 0) := by
 unfold ref12_Fold; (try simp only [ixL_b, letD])
 rw [new_eq h]
 have := fold_l h hl fuel 0 (newS c) (new_vs h) (by simpa using ho) (by omega) (by rw [fuel_eq]; omega)
 simpa using this
def Reached [Fuel] (c : ApiConfig) (s : ApiState) : Prop := ∃ l, okS c (newS c) l ∧ l.length ≤ 1000 ∧ runS c (newS c) l = s
theorem Reached.vs [Fuel] (h : VC c) (hr : Reached c s) : VS c s := by
 obtain ⟨l, h1, h2, rfl⟩ := hr
 exact run_vs h l _ (new_vs h) h1
end
end Go.CP
namespace Go.CP
open Go
set_option linter.unusedSimpArgs false
set_option linter.unusedVariables false
def placeT (t : ApiTenantState) (e : ApiEntry) : ApiTenantState := { t with Placed := true, Home := e.Cell, Standby := e.Other }
inductive Step (c : ApiConfig) (s : ApiState) (e : ApiEntry) : ApiState → Prop
 | place (k : e.Kind = 1) (t : tOk c e) (ce : cOk c e) (o : -1 ≤ e.Other ∧ e.Other < (c.Cells.length : Int) ∧ e.Other ≠ e.Cell)
   (np : (tAt s e.Tenant).Placed = false) (m1 : (cAt s e.Cell).Mode = 1) (m2 : 0 ≤ e.Other → (cAt s e.Other).Mode = 1)
   (f1 : frzB c s e.Cell = false) (f2 : 0 ≤ e.Other → frzB c s e.Other = false)
   (y1 : mayB c e.Tenant e.Cell = true) (y2 : 0 ≤ e.Other → mayB c e.Tenant e.Other = true ∧ togetherB c e.Cell e.Other = false)
   (fit : overS c (setT (bump s e) e.Tenant (placeT (tAt s e.Tenant) e)) = []) :
   Step c s e (setT (bump s e) e.Tenant (placeT (tAt s e.Tenant) e))
 | grant (k : e.Kind = 2) (t : tOk c e) (ce : cOk c e) (ep : 1 ≤ e.Epoch ∧ e.Epoch ≤ 1048576) (w : 0 ≤ e.From ∧ e.From ≤ 1073741824 ∧ 0 ≤ e.Until ∧ e.Until ≤ 1073741824) (n : vOk c e)
   (pl : (tAt s e.Tenant).Placed = true) (sh : (tAt s e.Tenant).Shed = true → e.Cell = (tAt s e.Tenant).Standby)
   (cl : e.Cell = (tAt s e.Tenant).Home ∨ e.Cell = (tAt s e.Tenant).Standby ∨ e.Cell = (tAt s e.Tenant).Target)
   (m1 : (cAt s e.Cell).Mode ≠ 3) (m2 : (cAt s e.Cell).Mode = 2 → e.Cell = (tAt s e.Tenant).Home)
   (eq : (e.Cell = (tAt s e.Tenant).Home ∧ e.Epoch = (tAt s e.Tenant).Epoch) ∨ e.Epoch = (tAt s e.Tenant).Epoch + 1)
   (v1 : e.N = (cAt s e.Cell).Running) (v2 : (cAt s e.Cell).Running = (cAt s e.Cell).Wanted)
   (w1 : e.Tick ≤ e.From) (w2 : e.From ≤ e.Tick + c.Lease) (w3 : e.From < e.Until) (w4 : e.Until - e.From ≤ c.Lease) (w5 : (tAt s e.Tenant).Window.Until ≤ e.From)
   (w6 : e.Cell ≠ (tAt s e.Tenant).Home → (tAt s e.Tenant).Window.Until ≤ e.Tick)
   (fit : overS c (setT (bump s e) e.Tenant (afterGrant (tAt s e.Tenant) e)) = []) :
   Step c s e (setT (bump s e) e.Tenant (afterGrant (tAt s e.Tenant) e))
 | cut (k : e.Kind = 3) (t : tOk c e) (pl : (tAt s e.Tenant).Placed = true) (ep : e.Epoch = (tAt s e.Tenant).Epoch) (ep1 : 1 ≤ e.Epoch) :
   Step c s e (setT (bump s e) e.Tenant { tAt s e.Tenant with Window := cutW (tAt s e.Tenant).Window e.Tick })
 | standby0 (k : e.Kind = 4) (t : tOk c e) (ce : e.Cell = -1) (pl : (tAt s e.Tenant).Placed = true)
   (fit : overS c (setT (bump s e) e.Tenant { tAt s e.Tenant with Next := e.Cell }) = []) :
   Step c s e (setT (bump s e) e.Tenant { tAt s e.Tenant with Next := e.Cell })
 | standby (k : e.Kind = 4) (t : tOk c e) (ce : cOk c e) (pl : (tAt s e.Tenant).Placed = true)
   (n1 : e.Cell ≠ (tAt s e.Tenant).Home) (n2 : e.Cell ≠ (tAt s e.Tenant).Standby) (n3 : e.Cell ≠ (tAt s e.Tenant).Target)
   (m1 : (cAt s e.Cell).Mode = 1) (f1 : frzB c s e.Cell = false) (y1 : mayB c e.Tenant e.Cell = true)
   (t1 : togetherB c e.Cell (tAt s e.Tenant).Home = false) (t2 : togetherB c e.Cell (tAt s e.Tenant).Target = false)
   (fit : overS c (setT (bump s e) e.Tenant { tAt s e.Tenant with Next := e.Cell }) = []) :
   Step c s e (setT (bump s e) e.Tenant { tAt s e.Tenant with Next := e.Cell })
 | ready (k : e.Kind = 5) (t : tOk c e) (ce : cOk c e) (pl : (tAt s e.Tenant).Placed = true) (n1 : e.Cell = (tAt s e.Tenant).Next) (m1 : (cAt s e.Cell).Mode ≠ 3) :
   Step c s e (setT (bump s e) e.Tenant { tAt s e.Tenant with Standby := e.Cell, Next := -1 })
 | migrate (k : e.Kind = 6) (t : tOk c e) (ce : cOk c e) (pl : (tAt s e.Tenant).Placed = true) (sh : (tAt s e.Tenant).Shed = false) (tg : (tAt s e.Tenant).Target < 0)
   (n1 : e.Cell ≠ (tAt s e.Tenant).Home) (n2 : e.Cell ≠ (tAt s e.Tenant).Standby) (n3 : e.Cell ≠ (tAt s e.Tenant).Next)
   (m1 : (cAt s e.Cell).Mode = 1) (f1 : frzB c s e.Cell = false) (y1 : mayB c e.Tenant e.Cell = true)
   (t1 : togetherB c e.Cell (tAt s e.Tenant).Standby = false) (t2 : togetherB c e.Cell (tAt s e.Tenant).Next = false)
   (fit : overS c (setT (bump s e) e.Tenant { tAt s e.Tenant with Target := e.Cell }) = []) :
   Step c s e (setT (bump s e) e.Tenant { tAt s e.Tenant with Target := e.Cell })
 | abandon (k : e.Kind = 7) (t : tOk c e) (pl : (tAt s e.Tenant).Placed = true) (tg : 0 ≤ (tAt s e.Tenant).Target) :
   Step c s e (setT (bump s e) e.Tenant { tAt s e.Tenant with Target := -1 })
 | shed (k : e.Kind = 8) (t : tOk c e) (n : e.N = 1) (pl : (tAt s e.Tenant).Placed = true) (sh : (tAt s e.Tenant).Shed = false) (w : (tAt s e.Tenant).Window.Until ≤ e.Tick) :
   Step c s e (setT (bump s e) e.Tenant { tAt s e.Tenant with Shed := true, Target := -1 })
 | back (k : e.Kind = 8) (t : tOk c e) (n : e.N = 0) (sh : (tAt s e.Tenant).Shed = true) (m1 : (cAt s (tAt s e.Tenant).Home).Mode ≠ 3)
   (fit : overS c (setT (bump s e) e.Tenant { tAt s e.Tenant with Shed := false }) = []) :
   Step c s e (setT (bump s e) e.Tenant { tAt s e.Tenant with Shed := false })
 | mode (k : e.Kind = 9) (ce : cOk c e) (n : 1 ≤ e.N ∧ e.N ≤ 3) (m1 : (cAt s e.Cell).Mode ≠ e.N) :
   Step c s e (setC (bump s e) e.Cell { cAt s e.Cell with Mode := e.N, Since := e.Tick })
 | want (k : e.Kind = 10) (ce : cOk c e) (n : vOk c e) (n1 : (cAt s e.Cell).Wanted ≠ e.N)
   (v1 : (c.Versions.getD e.N.toNat default).Low ≤ s.Low) (v2 : s.High ≤ (c.Versions.getD e.N.toNat default).High)
   (f : e.N = (cAt s e.Cell).Running ∨ provenB s e.N = true ∨ (s.Evacuating = 0 ∧ othersF s e.Cell s.Cells.length < c.Blast)) :
   Step c s e (setC (bump s e) e.Cell { cAt s e.Cell with Wanted := e.N })
 | runs (k : e.Kind = 11) (ce : cOk c e) (n : vOk c e) (n1 : e.N = (cAt s e.Cell).Wanted) (n2 : (cAt s e.Cell).Running ≠ (cAt s e.Cell).Wanted)
   (f : provenB s e.N = true ∨ s.Evacuating = 0) (w : s.Tenants.any (busyB e) = false) :
   Step c s e (setC (bump s e) e.Cell { cAt s e.Cell with Running := e.N, Since := e.Tick })
 | prove (k : e.Kind = 12) (n : vOk c e) (n1 : provenB s e.N = false) (b : s.Cells.any (bakedB c e) = true) :
   Step c s e { bump s e with Proven := orK .i64 s.Proven (shlK .i64 1 (IntKind.u64.wrap e.N)) }
 | evac (k : e.Kind = 13) (o : 0 ≤ e.Other ∧ e.Other < c.Regions) (n : e.N = 0 ∨ e.N = 1) (n1 : hasB s.Evacuating e.Other ≠ (e.N == 1)) :
   Step c s e { bump s e with Evacuating := xorK .i64 s.Evacuating (shlK .i64 1 (IntKind.u64.wrap e.Other)) }
 | expand (k : e.Kind = 14) (h1 : s.High ≤ s.Low) (h2 : s.High < 30) (h3 : s.Cells.any (oldB c s) = false) :
   Step c s e { bump s e with High := s.High + 1 }
 | contract (k : e.Kind = 15) (h1 : s.High ≠ s.Low) : Step c s e { bump s e with Low := s.High }
 | note (k : e.Kind = 16) : Step c s e (bump s e)
section
variable {c : ApiConfig} {s : ApiState} {e : ApiEntry}
theorem noB [Fuel] {b : Bool} {k : Int} {y : ApiState × Int} (hk : k ≠ 0) (h : (bif b then noS k else y).2 = 0) : b = false ∧ (bif b then noS k else y) = y ∧ y.2 = 0 := by
 cases b with
 | true => exact absurd h hk
 | false => exact ⟨rfl, rfl, h⟩
theorem fitB [Fuel] {s : ApiState} (h : (fitS c s).2 = 0) : overS c s = [] ∧ fitS c s = (s, 0) := by
 unfold fitS at h ⊢
 obtain ⟨h1, h2, h3⟩ := noB (by decide) h
 have : (overS c s).length = 0 := by have := of_decide_eq_false h1; omega
 exact ⟨List.eq_nil_of_length_eq_zero this, h2⟩
theorem fit_ok [Fuel] {s : ApiState} (h : overS c s = []) : fitS c s = (s, 0) := by unfold fitS; rw [h]; rfl
theorem others_bump [Fuel] (s : ApiState) (e : ApiEntry) (cell : Int) : ∀ n, othersF (bump s e) cell n = othersF s cell n
 | 0 => rfl
 | n + 1 => by
  have ih := others_bump s e cell n
  unfold othersF
  rw [ih]; rfl
theorem kind_step [Fuel] (hkind : KindP c e) (hz : (kindS c (bump s e) e).2 = 0) : Step c s e (kindS c (bump s e) e).1 := by
 unfold kindS at hz ⊢
 cases hkind with
 | place k t ce o w n =>
  rw [k] at hz ⊢
  change (placeS c (bump s e) e).2 = 0 at hz
  show Step c s e (placeS c (bump s e) e).1
  unfold placeS at hz ⊢
  obtain ⟨b1, e1, hz⟩ := noB (by decide) hz
  obtain ⟨b2, e2, hz⟩ := noB (by decide) hz
  obtain ⟨b3, e3, hz⟩ := noB (by decide) hz
  obtain ⟨b4, e4, hz⟩ := noB (by decide) hz
  obtain ⟨f, e5⟩ := fitB hz
  rw [e1, e2, e3, e4, e5]
  simp only [Bool.or_eq_false_iff, Bool.and_eq_false_imp, bne_eq_false_iff_eq, decide_eq_true_eq, Bool.not_eq_false'] at b2 b3 b4
  exact .place k t ce o b1 b2.1 b2.2 b3.1 b3.2 b4.1 b4.2 f
 | grant k t ce o ep w n =>
  rw [k] at hz ⊢
  change (grantS c (bump s e) e).2 = 0 at hz
  show Step c s e (grantS c (bump s e) e).1
  unfold grantS at hz ⊢
  obtain ⟨b1, e1, hz⟩ := noB (by decide) hz
  obtain ⟨b2, e2, hz⟩ := noB (by decide) hz
  have hg : grantedS c (bump s e) e = 0 := by
   cases hq : (grantedS c (bump s e) e != 0) with
   | false => simpa using hq
   | true => rw [hq] at hz; exact hz
  rw [hg] at hz
  change (fitS c _).2 = 0 at hz
  obtain ⟨f, e5⟩ := fitB hz
  rw [e1, e2, hg]
  show Step c s e (fitS c _).1
  rw [e5]
  have hg' := hg
  unfold grantedS at hg
  simp only at hg
  have nb : ∀ {b : Bool} {k y : Int}, k ≠ 0 → (bif b then k else y) = 0 → b = false ∧ y = 0 := by
   intro b k y hk h
   cases b with
   | true => exact absurd h hk
   | false => exact ⟨rfl, h⟩
  obtain ⟨g1, hg⟩ := nb (by decide) hg
  obtain ⟨g2, hg⟩ := nb (by decide) hg
  obtain ⟨g3, hg⟩ := nb (by decide) hg
  obtain ⟨g4, hg⟩ := nb (by decide) hg
  obtain ⟨g5, hg⟩ := nb (by decide) hg
  change _ = false at b1 b2
  have t0 : tAt (bump s e) e.Tenant = tAt s e.Tenant := rfl
  have c0 : cAt (bump s e) e.Cell = cAt s e.Cell := rfl
  rw [t0] at b1 b2 g1 g2 g4 g5
  rw [c0] at g1 g3
  rw [t0] at f ⊢
  simp only [Bool.or_eq_false_iff, Bool.and_eq_false_imp, bne_eq_false_iff_eq, beq_eq_false_iff_ne, decide_eq_false_iff_not, Bool.not_eq_true', bne_iff_ne, beq_iff_eq, Bool.not_eq_false', Bool.not_eq_eq_eq_not, Bool.not_false, Bool.not_true] at b1 b2 g1 g2 g3 g4 g5
  refine .grant k t ce ep w n b1.1 b1.2 ?_ g1.1 ?_ ?_ g3.1 g3.2 (by omega) (by omega) (by omega) (by omega) (by omega) ?_ f
  ·rcases Decidable.em (e.Cell = (tAt s e.Tenant).Home) with q | q
   ·exact .inl q
   ·rcases Decidable.em (e.Cell = (tAt s e.Tenant).Standby) with q2 | q2
    ·exact .inr (.inl q2)
    ·exact .inr (.inr (by revert b2; simp [q, q2]))
  ·intro q
   have := g1.2 q
   simpa using this
  ·rcases Decidable.em (e.Cell = (tAt s e.Tenant).Home) with q | q
   ·rcases Decidable.em (e.Epoch = (tAt s e.Tenant).Epoch) with q2 | q2
    ·exact .inl ⟨q, q2⟩
    ·exact .inr (by have := g2.1; revert this; simp [q, q2])
   ·exact .inr (g2.2 q)
  ·intro q
   have := g5 q
   omega
 | cut k t ce o ep w n =>
  rw [k] at hz ⊢
  change (cutS (bump s e) e).2 = 0 at hz
  show Step c s e (cutS (bump s e) e).1
  unfold cutS at hz ⊢
  obtain ⟨b1, e1, hz⟩ := noB (by decide) hz
  obtain ⟨b2, e2, hz⟩ := noB (by decide) hz
  rw [e1, e2]
  simp only [Bool.not_eq_false', bne_eq_false_iff_eq] at b1 b2
  exact .cut k t b1 b2 ep.1
 | standby k t ce o w n =>
  rw [k] at hz ⊢
  change (standbyS c (bump s e) e).2 = 0 at hz
  show Step c s e (standbyS c (bump s e) e).1
  unfold standbyS at hz ⊢
  obtain ⟨b1, e1, hz⟩ := noB (by decide) hz
  rw [e1]
  simp only [Bool.not_eq_false'] at b1
  by_cases hc : e.Cell < 0
  ·rw [decide_eq_true hc] at hz ⊢
   change (fitS c _).2 = 0 at hz
   obtain ⟨f, e5⟩ := fitB hz
   show Step c s e (fitS c _).1
   rw [e5]
   exact .standby0 k t (by omega) b1 f
  ·rw [decide_eq_false hc] at hz ⊢
   rw [cond_false] at hz ⊢
   obtain ⟨b2, e2, hz⟩ := noB (by decide) hz
   obtain ⟨b3, e3, hz⟩ := noB (by decide) hz
   obtain ⟨b4, e4, hz⟩ := noB (by decide) hz
   obtain ⟨b5, e6, hz⟩ := noB (by decide) hz
   obtain ⟨f, e5⟩ := fitB hz
   rw [e2, e3, e4, e6, e5]
   simp only [Bool.or_eq_false_iff, bne_eq_false_iff_eq, beq_eq_false_iff_ne, Bool.not_eq_false'] at b2 b3 b4 b5
   exact .standby k t ⟨by omega, ce.2⟩ b1 b2.1.1 b2.1.2 b2.2 b3 b4 b5.1.1 b5.1.2 b5.2 f
 | ready k t ce o w n =>
  rw [k] at hz ⊢
  change (readyS (bump s e) e).2 = 0 at hz
  show Step c s e (readyS (bump s e) e).1
  unfold readyS at hz ⊢
  obtain ⟨b1, e1, hz⟩ := noB (by decide) hz
  obtain ⟨b2, e2, hz⟩ := noB (by decide) hz
  obtain ⟨b3, e3, hz⟩ := noB (by decide) hz
  rw [e1, e2, e3]
  simp only [Bool.not_eq_false', bne_eq_false_iff_eq, beq_eq_false_iff_ne] at b1 b2 b3
  exact .ready k t ce b1 b2 b3
 | migrate k t ce o w n =>
  rw [k] at hz ⊢
  change (migrateS c (bump s e) e).2 = 0 at hz
  show Step c s e (migrateS c (bump s e) e).1
  unfold migrateS at hz ⊢
  obtain ⟨b1, e1, hz⟩ := noB (by decide) hz
  obtain ⟨b2, e2, hz⟩ := noB (by decide) hz
  obtain ⟨b3, e3, hz⟩ := noB (by decide) hz
  obtain ⟨b4, e4, hz⟩ := noB (by decide) hz
  obtain ⟨b5, e6, hz⟩ := noB (by decide) hz
  obtain ⟨f, e5⟩ := fitB hz
  rw [e1, e2, e3, e4, e6, e5]
  simp only [Bool.or_eq_false_iff, bne_eq_false_iff_eq, beq_eq_false_iff_ne, Bool.not_eq_false', decide_eq_false_iff_not, Int.not_le] at b1 b2 b3 b4 b5
  exact .migrate k t ce b1.1.1 b1.1.2 b1.2 b2.1.1 b2.1.2 b2.2 b3 b4 b5.1.1 b5.1.2 b5.2 f
 | abandon k t ce o w n =>
  rw [k] at hz ⊢
  change (abandonS (bump s e) e).2 = 0 at hz
  show Step c s e (abandonS (bump s e) e).1
  unfold abandonS at hz ⊢
  obtain ⟨b1, e1, hz⟩ := noB (by decide) hz
  rw [e1]
  simp only [Bool.or_eq_false_iff, Bool.not_eq_false', decide_eq_false_iff_not, Int.not_lt] at b1
  exact .abandon k t b1.1 b1.2
 | shed k t ce o w n =>
  rw [k] at hz ⊢
  change (shedS c (bump s e) e).2 = 0 at hz
  show Step c s e (shedS c (bump s e) e).1
  unfold shedS at hz ⊢
  rcases n with n | n
  ·rw [n] at hz ⊢
   change (bif _ then noS 4 else _ : ApiState × Int).2 = 0 at hz
   show Step c s e (bif _ then noS 4 else _ : ApiState × Int).1
   obtain ⟨b1, e1, hz⟩ := noB (by decide) hz
   obtain ⟨b2, e2, hz⟩ := noB (by decide) hz
   obtain ⟨f, e5⟩ := fitB hz
   rw [e1, e2, e5]
   simp only [Bool.not_eq_false', beq_eq_false_iff_ne] at b1 b2
   exact .back k t n b1 b2 f
  ·rw [n] at hz ⊢
   change (bif _ then noS 4 else _ : ApiState × Int).2 = 0 at hz
   show Step c s e (bif _ then noS 4 else _ : ApiState × Int).1
   obtain ⟨b1, e1, hz⟩ := noB (by decide) hz
   obtain ⟨b2, e2, hz⟩ := noB (by decide) hz
   rw [e1, e2]
   simp only [Bool.or_eq_false_iff, Bool.not_eq_false', decide_eq_false_iff_not, Int.not_lt] at b1 b2
   exact .shed k t n b1.1 b1.2 b2
 | mode k t ce o w n =>
  rw [k] at hz ⊢
  change (modeS (bump s e) e).2 = 0 at hz
  show Step c s e (modeS (bump s e) e).1
  unfold modeS at hz ⊢
  obtain ⟨b1, e1, hz⟩ := noB (by decide) hz
  rw [e1]
  simp only [beq_eq_false_iff_ne] at b1
  exact .mode k ce n b1
 | want k t ce o w n =>
  rw [k] at hz ⊢
  change (wantS c (bump s e) e).2 = 0 at hz
  show Step c s e (wantS c (bump s e) e).1
  unfold wantS at hz ⊢
  obtain ⟨b1, e1, hz⟩ := noB (by decide) hz
  obtain ⟨b2, e2, hz⟩ := noB (by decide) hz
  obtain ⟨b3, e3, hz⟩ := noB (by decide) hz
  obtain ⟨b4, e4, hz⟩ := noB (by decide) hz
  rw [e1, e2, e3, e4]
  simp only [others_bump, Bool.or_eq_false_iff, Bool.and_eq_false_imp, bne_eq_false_iff_eq, beq_eq_false_iff_ne, decide_eq_false_iff_not, bne_iff_ne, Bool.and_eq_true, Bool.not_eq_true', Int.not_lt, Int.not_le] at b1 b2 b3 b4
  refine .want k ce n b1 b2.1 b2.2 ?_
  rcases Decidable.em (e.N = (cAt s e.Cell).Running) with q | q
  ·exact .inl q
  ·cases hp : provenB s e.N with
   | true => exact .inr (.inl rfl)
   | false => exact .inr (.inr ⟨b3 ⟨q, hp⟩, b4 ⟨q, hp⟩⟩)
 | runs k t ce o w n =>
  rw [k] at hz ⊢
  change (runsS (bump s e) e).2 = 0 at hz
  show Step c s e (runsS (bump s e) e).1
  unfold runsS at hz ⊢
  obtain ⟨b1, e1, hz⟩ := noB (by decide) hz
  obtain ⟨b2, e2, hz⟩ := noB (by decide) hz
  obtain ⟨b3, e3, hz⟩ := noB (by decide) hz
  rw [e1, e2, e3]
  simp only [Bool.or_eq_false_iff, Bool.and_eq_false_imp, bne_eq_false_iff_eq, beq_eq_false_iff_ne, Bool.not_eq_true'] at b1 b2
  refine .runs k ce n b1.1 b1.2 ?_ b3
  cases hp : provenB s e.N with
  | true => exact .inl rfl
  | false => exact .inr (b2 hp)
 | prove k t ce o w n =>
  rw [k] at hz ⊢
  change (proveS c (bump s e) e).2 = 0 at hz
  show Step c s e (proveS c (bump s e) e).1
  unfold proveS at hz ⊢
  obtain ⟨b1, e1, hz⟩ := noB (by decide) hz
  rw [e1]
  cases hb : (bump s e).Cells.any (bakedB c e) with
  | false => rw [hb] at hz; cases hz
  | true => exact .prove k n b1 hb
 | evac k t ce o w n =>
  rw [k] at hz ⊢
  change (evacS (bump s e) e).2 = 0 at hz
  show Step c s e (evacS (bump s e) e).1
  unfold evacS at hz ⊢
  obtain ⟨b1, e1, hz⟩ := noB (by decide) hz
  rw [e1]
  exact .evac k o n (fun q => by rw [show hasB (bump s e).Evacuating e.Other = hasB s.Evacuating e.Other from rfl, q] at b1; simp at b1)
 | expand k t ce o w n =>
  rw [k] at hz ⊢
  change (expandS c (bump s e)).2 = 0 at hz
  show Step c s e (expandS c (bump s e)).1
  unfold expandS at hz ⊢
  obtain ⟨b1, e1, hz⟩ := noB (by decide) hz
  obtain ⟨b2, e2, hz⟩ := noB (by decide) hz
  obtain ⟨b3, e3, hz⟩ := noB (by decide) hz
  rw [e1, e2, e3]
  simp only [decide_eq_false_iff_not, Int.not_lt, Int.not_le] at b1 b2
  exact .expand k b1 b2 b3
 | contract k t ce o w n =>
  rw [k] at hz ⊢
  change (contractS (bump s e)).2 = 0 at hz
  show Step c s e (contractS (bump s e)).1
  unfold contractS at hz ⊢
  obtain ⟨b1, e1, hz⟩ := noB (by decide) hz
  rw [e1]
  exact .contract k (beq_eq_false_iff_ne.1 b1)
 | note k t ce o w n =>
  rw [k]
  exact .note k
theorem apply_step [Fuel] (h : VC c) (hz : (applyS c s e).2 = 0) : ValidP c e ∧ s.Count < 4096 ∧ s.Tick ≤ e.Tick ∧ Step c s e (applyS c s e).1 := by
 unfold applyS at hz ⊢
 obtain ⟨b1, e1, hz⟩ := noB (by decide) hz
 obtain ⟨b2, e2, hz⟩ := noB (by decide) hz
 obtain ⟨b3, e3, hz⟩ := noB (by decide) hz
 rw [e1, e2, e3]
 have hV := ((valid_eq (e := e) h).2).1 (by simpa using b1)
 simp only [decide_eq_false_iff_not, Int.not_lt, Int.not_le] at b2 b3
 exact ⟨hV, b2, b3, kind_step hV.2 hz⟩
end
end Go.CP
namespace Go.CP
open Go
set_option linter.unusedSimpArgs false
set_option linter.unusedVariables false
def hit (i : Int) (n : Int) (j : Nat) : Int := if i = (j : Int) then n else 0
def dl (t : ApiTenantState) (d : ApiTenant) (j : Nat) : Int :=
 if t.Placed then (if t.Shed then 0 else hit t.Home d.Load j + hit t.Target d.Load j) + (hit t.Standby d.Shadow j + hit t.Next d.Shadow j) else 0
theorem addAt_get [Fuel] (l : List Int) (i n : Int) {j : Nat} (hj : j < l.length) : (addAt l i n).getD j 0 = l.getD j 0 + hit i n j := by
 unfold addAt hit
 by_cases hi : 0 ≤ i ∧ i < (l.length : Int)
 ·rw [if_pos hi]
  by_cases e : i = (j : Int)
  ·have : i.toNat = j := by omega
   rw [if_pos e, this]
   simp [List.getD_eq_getElem?_getD, List.getElem?_set, hj]
  ·have : i.toNat ≠ j := by omega
   rw [if_neg e]
   simp [List.getD_eq_getElem?_getD, List.getElem?_set, this]
 ·rw [if_neg hi, if_neg (by omega)]; simp
theorem book1_get [Fuel] (l : List Int) (t : ApiTenantState) (d : ApiTenant) {j : Nat} (hj : j < l.length) : (book1 l t d).getD j 0 = l.getD j 0 + dl t d j := by
 unfold book1 dl
 cases t.Placed with
 | false => simp
 | true =>
  cases t.Shed with
  | true =>
   simp only [if_true]
   rw [addAt_get _ _ _ (by rw [addAt_len]; exact hj), addAt_get _ _ _ hj]; omega
  | false =>
   simp only [if_true, Bool.false_eq_true, if_false]
   rw [addAt_get _ _ _ (by simp only [addAt_len]; exact hj), addAt_get _ _ _ (by simp only [addAt_len]; exact hj), addAt_get _ _ _ (by rw [addAt_len]; exact hj), addAt_get _ _ _ hj]; omega
def sumD (c : ApiConfig) (ts : List ApiTenantState) (j : Nat) : Nat → Int
 | 0 => 0
 | k + 1 => sumD c ts j k + dl (ts.getD k default) (c.Tenants.getD k default) j
theorem bookF_get [Fuel] (c : ApiConfig) (ts : List ApiTenantState) (l : List Int) {j : Nat} (hj : j < l.length) : ∀ k, (bookF c ts k l).getD j 0 = l.getD j 0 + sumD c ts j k
 | 0 => by simp [bookF, sumD]
 | k + 1 => by rw [bookF, book1_get _ _ _ (by rw [bookF_len]; exact hj), bookF_get c ts l hj k, sumD]; omega
theorem repl_get [Fuel] (n : Nat) {j : Nat} : (List.replicate n (0 : Int)).getD j 0 = 0 := by
 simp only [List.getD_eq_getElem?_getD, List.getElem?_replicate]
 split <;> rfl
section
variable {c : ApiConfig} {s : ApiState} {r : Int}
theorem booked_get [Fuel] {j : Nat} (hj : j < c.Cells.length) : (bookedS c s).getD j 0 = sumD c s.Tenants j s.Tenants.length := by
 unfold bookedS; rw [bookF_get _ _ _ (by simpa using hj), repl_get]; omega
theorem hit_nn [Fuel] {i n : Int} (h : 0 ≤ n) (j : Nat) : 0 ≤ hit i n j := by unfold hit; split <;> omega
theorem hit_neg [Fuel] {i n : Int} (h : i < 0) (j : Nat) : hit i n j = 0 := by unfold hit; rw [if_neg (by omega)]
end
theorem okT [Fuel] {m : Option Bool} (h : Ok m (fun b => b = true)) : m = some true := by obtain ⟨b, e, q⟩ := h; rw [e, q]
end Go.CP
namespace Go.CP
open Go
set_option linter.unusedSimpArgs false
set_option linter.unusedVariables false
section
variable {c : ApiConfig} {s : ApiState} {e : ApiEntry}
theorem tf [Fuel] {b : Bool} {p : Prop} (h : b = true) (w : b = false) : p := by rw [h] at w; cases w
theorem nn1 [Fuel] {p : Prop} (w : (0 : Int) ≤ -1) : p := absurd w (by decide)
theorem tog_symm [Fuel] (a b : Int) : togetherB c a b = togetherB c b a := by
 have h : ∀ x y : Bool, (x && y) = (y && x) := by decide
 unfold togetherB apartB
 rw [h (decide (0 ≤ a)), h (decide (0 ≤ regionOf c a))]
 have : (regionOf c a != regionOf c b) = (regionOf c b != regionOf c a) := by rw [Bool.eq_iff_iff]; simp only [bne_iff_ne, ne_eq]; exact ⟨fun q w => q w.symm, fun q w => q w.symm⟩
 rw [this]
theorem tog_neg [Fuel] {a b : Int} (h : b < 0) : togetherB c a b = false := by
 unfold togetherB; rw [decide_eq_false (show ¬ 0 ≤ b by omega)]; simp
theorem tog_neg' [Fuel] {a b : Int} (h : a < 0) : togetherB c a b = false := by rw [tog_symm]; exact tog_neg h
theorem tog_self [Fuel] {a : Int} (h : 0 ≤ a) : togetherB c a a = true := by
 unfold togetherB apartB; rw [decide_eq_true h]; simp
structure TInv (c : ApiConfig) (tick : Int) (i : Nat) (t : ApiTenantState) : Prop where
 np : t.Placed = false → t = t0S
 hs : togetherB c t.Home t.Standby = false
 hn : togetherB c t.Home t.Next = false
 ts : togetherB c t.Target t.Standby = false
 tn : togetherB c t.Target t.Next = false
 ht : 0 ≤ t.Target → t.Home ≠ t.Target
 tsh : t.Shed = true → t.Target = -1
 win : tick < t.Window.Until → t.Placed = true ∧ t.Shed = false ∧ t.Window.Cell = t.Home
 ep : t.Epoch = t.Window.Epoch
 wl : t.Window.Until ≤ tick + 2 * c.Lease
 mh : 0 ≤ t.Home → mayB c i t.Home = true
 ms : 0 ≤ t.Standby → mayB c i t.Standby = true
 mn : 0 ≤ t.Next → mayB c i t.Next = true
 mt : 0 ≤ t.Target → mayB c i t.Target = true
 mo : 0 ≤ t.Target ∧ 0 ≤ t.Next → t.Target ≠ t.Next
theorem TInv.later [Fuel] (h : VC c) {a b : Int} {i : Nat} {t : ApiTenantState} (q : TInv c a i t) (hab : a ≤ b) : TInv c b i t :=
 ⟨q.np, q.hs, q.hn, q.ts, q.tn, q.ht, q.tsh, fun w => q.win (by omega), q.ep, by have := q.wl; omega, q.mh, q.ms, q.mn, q.mt, q.mo⟩
structure CInv (c : ApiConfig) (s : ApiState) (x : ApiCellState) : Prop where
 r1 : (c.Versions.getD x.Running.toNat default).Low ≤ s.Low
 r2 : s.High ≤ (c.Versions.getD x.Running.toNat default).High
 w1 : (c.Versions.getD x.Wanted.toNat default).Low ≤ s.Low
 w2 : s.High ≤ (c.Versions.getD x.Wanted.toNat default).High
 si : x.Since ≤ s.Tick
structure Inv (c : ApiConfig) (s : ApiState) : Prop where
 vs : VS c s
 t : ∀ i, i < s.Tenants.length → TInv c s.Tick i (s.Tenants.getD i default)
 cel : ∀ x ∈ s.Cells, CInv c s x
 ov : overS c s = []
theorem over_nil [Fuel] : overS c s = [] ↔ ∀ j, j < c.Cells.length → sumD c s.Tenants j s.Tenants.length ≤ (c.Cells.getD j default).Capacity := by
 have key : ∀ k, k ≤ c.Cells.length → (overF c (bookedS c s) k = [] ↔ ∀ j, j < k → sumD c s.Tenants j s.Tenants.length ≤ (c.Cells.getD j default).Capacity) := by
  intro k
  induction k with
  | zero => intro _; exact ⟨fun _ j hj => absurd hj (Nat.not_lt_zero _), fun _ => rfl⟩
  | succ k ih =>
   intro hk
   rw [overF, booked_get (by omega)]
   by_cases hc : (c.Cells.getD k default).Capacity < sumD c s.Tenants k s.Tenants.length
   ·rw [if_pos hc]
    constructor
    ·intro q; simp at q
    ·intro q; have := q k (by omega); omega
   ·rw [if_neg hc, ih (by omega)]
    constructor
    ·intro q j hj
     by_cases e : j = k
     ·subst e; omega
     ·exact q j (by omega)
    ·intro q j hj; exact q j (by omega)
 exact key _ (Nat.le_refl _)
theorem sum_set [Fuel] {ts : List ApiTenantState} {i : Nat} {t : ApiTenantState} (hi : i < ts.length) (j : Nat) : ∀ n, sumD c (ts.set i t) j n = sumD c ts j n + (if i < n then dl t (c.Tenants.getD i default) j - dl (ts.getD i default) (c.Tenants.getD i default) j else 0)
 | 0 => by simp [sumD]
 | n + 1 => by
  rw [sumD, sumD, sum_set hi j n]
  by_cases e : i = n
  ·subst e
   rw [getD_set hi, if_neg (by omega), if_pos (by omega)]; omega
  ·have : (ts.set i t).getD n default = ts.getD n default := by simp [List.getD_eq_getElem?_getD, List.getElem?_set, e]
   rw [this]
   by_cases q : i < n
   ·rw [if_pos q, if_pos (by omega)]; omega
   ·rw [if_neg q, if_neg (by omega)]; omega
theorem over_less [Fuel] {t : ApiTenantState} {i : Int} (hi : 0 ≤ i ∧ i < ((s.Tenants.length : Nat) : Int)) (h0 : overS c s = [])
  (hd : ∀ j, dl t (c.Tenants.getD i.toNat default) j ≤ dl (tAt s i) (c.Tenants.getD i.toNat default) j) : overS c (setT (bump s e) i t) = [] := by
 rw [over_nil] at h0 ⊢
 intro j hj
 have := h0 j hj
 show sumD c (s.Tenants.set i.toNat t) j (s.Tenants.set i.toNat t).length ≤ _
 rw [List.length_set, sum_set (by omega) j, if_pos (by omega)]
 have := hd j
 unfold tAt at this
 omega
theorem over_same [Fuel] {s' : ApiState} (h0 : overS c s = []) (he : s'.Tenants = s.Tenants) : overS c s' = [] := by
 rw [over_nil] at h0 ⊢; rw [he]; exact h0
theorem tenant_nn [Fuel] (h : VC c) {i : Int} (hi : 0 ≤ i ∧ i < (c.Tenants.length : Int)) : 0 ≤ (c.Tenants.getD i.toNat default).Load ∧ 0 ≤ (c.Tenants.getD i.toNat default).Shadow := by
 have := tenant_bd h (by omega : i.toNat < c.Tenants.length); omega
theorem inv_setT [Fuel] (h : VC c) (hI : Inv c s) (hge : s.Tick ≤ e.Tick) {t : ApiTenantState} (ht : tOk c e) (hv : VS c (setT (bump s e) e.Tenant t)) (hq : TInv c e.Tick e.Tenant.toNat t) (hov : overS c (setT (bump s e) e.Tenant t) = []) : Inv c (setT (bump s e) e.Tenant t) := by
 have htl := hI.vs.tl
 unfold tOk at ht
 refine ⟨hv, fun i hi => ?_, fun x hx => ?_, hov⟩
 ·have hi' : i < s.Tenants.length := by simpa [setT, bump] using hi
  show TInv c e.Tick i ((s.Tenants.set e.Tenant.toNat t).getD i default)
  by_cases q : i = e.Tenant.toNat
  ·subst q; rw [getD_set hi']; exact hq
  ·have : (s.Tenants.set e.Tenant.toNat t).getD i default = s.Tenants.getD i default := by simp [List.getD_eq_getElem?_getD, List.getElem?_set, Ne.symm q]
   rw [this]; exact (hI.t i hi').later h hge
 ·have q := hI.cel x hx
  exact ⟨q.r1, q.r2, q.w1, q.w2, by have := q.si; show x.Since ≤ e.Tick; omega⟩
theorem inv_cells [Fuel] (h : VC c) (hI : Inv c s) (hge : s.Tick ≤ e.Tick) {s' : ApiState} (hv : VS c s') (ht : s'.Tenants = s.Tenants) (hk : s'.Tick = e.Tick) (hc : ∀ x ∈ s'.Cells, CInv c s' x) : Inv c s' := by
 refine ⟨hv, fun i hi => ?_, hc, over_same hI.ov ht⟩
 rw [hk, ht]
 exact (hI.t i (by rw [← ht]; exact hi)).later h hge
theorem cinv_set [Fuel] (hI : Inv c s) (hge : s.Tick ≤ e.Tick) {x : ApiCellState} (hx : CInv c (bump s e) x) : ∀ y ∈ (setC (bump s e) e.Cell x).Cells, CInv c (setC (bump s e) e.Cell x) y := by
 intro y hy
 rcases List.mem_or_eq_of_mem_set hy with q | q
 ·have q := hI.cel y q
  exact ⟨q.r1, q.r2, q.w1, q.w2, by have := q.si; show y.Since ≤ e.Tick; omega⟩
 ·subst q; exact ⟨hx.r1, hx.r2, hx.w1, hx.w2, hx.si⟩
theorem inv_step [Fuel] (h : VC c) (hI : Inv c s) (hz : (applyS c s e).2 = 0) : Inv c (applyS c s e).1 := by
 have hv := apply_good h hI.vs hz
 obtain ⟨hV, hcnt, hge, hst⟩ := apply_step h hz
 have hk := hV.1
 have hle := h.lease
 have htl := hI.vs.tl
 generalize (applyS c s e).1 = s' at hv hst
 have tin : tOk c e → TInv c e.Tick e.Tenant.toNat (tAt s e.Tenant) := fun t => (hI.t _ (by unfold tOk at t; omega)).later h hge
 have tci : ∀ {t : Int}, 0 ≤ t → ((t.toNat : Nat) : Int) = t := fun {t} q => by omega
 have cin : cOk c e → CInv c s (cAt s e.Cell) := fun t => hI.cel _ (getD_mem (by have := hI.vs.cl; unfold cOk at t; omega))
 cases hst with
 | place k t ce o np m1 m2 f1 f2 y1 y2 fit =>
  refine inv_setT h hI hge t hv ?_ fit
  have q := tin t
  have e0 := q.np np
  unfold tOk at t; unfold cOk at ce
  unfold placeT
  rw [e0]
  refine ⟨fun w => tf rfl w, ?_, tog_neg (by show (-1 : Int) < 0; omega), tog_neg' (by show (-1 : Int) < 0; omega), tog_neg (by show (-1 : Int) < 0; omega), fun w => nn1 w, fun w => tf w rfl, fun w => ?_, rfl, ?_, fun _ => ?_, fun w => ?_, fun w => nn1 w, fun w => nn1 w, fun w => nn1 w.1⟩
  ·show togetherB c e.Cell e.Other = false
   rcases Int.lt_or_le e.Other 0 with q | q
   ·exact tog_neg q
   ·exact (y2 q).2
  ·exact absurd w (by show ¬ e.Tick < 0; omega)
  ·show (0 : Int) ≤ _; omega
  ·rw [tci t.1]; exact y1
  ·rw [tci t.1]; exact (y2 w).1
 | grant k t ce ep w n pl sh cl m1 m2 eq v1 v2 w1 w2 w3 w4 w5 w6 fit =>
  refine inv_setT h hI hge t hv ?_ fit
  have q := tin t
  unfold cOk at ce
  unfold afterGrant
  simp only
  have hpl : (tAt s e.Tenant).Placed = true := pl
  cases hh : (e.Cell == (tAt s e.Tenant).Home) with
  | true =>
   have hh' : e.Cell = (tAt s e.Tenant).Home := by simpa using hh
   have hns : (tAt s e.Tenant).Shed = false := by
    cases hs : (tAt s e.Tenant).Shed with
    | false => rfl
    | true =>
     have e1 := sh hs
     have := q.hs
     rw [← hh', ← e1, tog_self ce.1] at this
     cases this
   exact ⟨fun w => tf hpl w, q.hs, q.hn, q.ts, q.tn, q.ht, q.tsh, fun _ => ⟨hpl, hns, hh'⟩, rfl, by show e.Until ≤ _; omega, q.mh, q.ms, q.mn, q.mt, q.mo⟩
  | false =>
   have hh' : e.Cell ≠ (tAt s e.Tenant).Home := by simpa using hh
   cases hb : (e.Cell == (tAt s e.Tenant).Standby) with
   | true =>
    have hb' : e.Cell = (tAt s e.Tenant).Standby := by simpa using hb
    exact ⟨fun w => tf hpl w, tog_neg (by show (-1 : Int) < 0; omega), tog_neg (by show (-1 : Int) < 0; omega), tog_neg (by show (-1 : Int) < 0; omega), tog_neg (by show (-1 : Int) < 0; omega), fun w => nn1 w, fun w => tf w rfl, fun _ => ⟨hpl, rfl, rfl⟩, rfl, by show e.Until ≤ _; omega,
     fun _ => by show mayB c _ e.Cell = true; rw [hb']; exact q.ms (by omega), fun w => nn1 w, fun w => nn1 w, fun w => nn1 w, fun w => nn1 w.1⟩
   | false =>
    have hb' : e.Cell ≠ (tAt s e.Tenant).Standby := by simpa using hb
    have ht' : e.Cell = (tAt s e.Tenant).Target := by rcases cl with a | a | a <;> first | exact absurd a hh' | exact absurd a hb' | exact a
    have hns : (tAt s e.Tenant).Shed = false := by
     cases hs : (tAt s e.Tenant).Shed with
     | false => rfl
     | true => exact absurd (sh hs) hb'
    exact ⟨fun w => tf hpl w, by show togetherB c e.Cell _ = false; rw [ht']; exact q.ts, by show togetherB c e.Cell _ = false; rw [ht']; exact q.tn, tog_neg' (by show (-1 : Int) < 0; omega), tog_neg' (by show (-1 : Int) < 0; omega), fun w => nn1 w, fun _ => rfl, fun _ => ⟨hpl, hns, rfl⟩, rfl, by show e.Until ≤ _; omega,
     fun _ => by show mayB c _ e.Cell = true; rw [ht']; exact q.mt (by omega), q.ms, q.mn, fun w => nn1 w, fun w => nn1 w.1⟩
 | cut k t pl ep ep1 =>
  refine inv_setT h hI hge t hv ?_ (over_less (by unfold tOk at t; omega) hI.ov (fun j => Int.le_refl _))
  have q := tin t
  have hu : (cutW (tAt s e.Tenant).Window e.Tick).Until ≤ (tAt s e.Tenant).Window.Until := by unfold cutW minE; simp only; split <;> omega
  exact ⟨fun w => tf pl w, q.hs, q.hn, q.ts, q.tn, q.ht, q.tsh, fun w => q.win (by have w : e.Tick < (cutW (tAt s e.Tenant).Window e.Tick).Until := w; omega), q.ep, by have := q.wl; show (cutW _ _).Until ≤ _; omega, q.mh, q.ms, q.mn, q.mt, q.mo⟩
 | standby0 k t ce pl fit =>
  refine inv_setT h hI hge t hv ?_ fit
  have q := tin t
  rw [ce]
  exact ⟨fun w => tf pl w, q.hs, tog_neg (by show (-1 : Int) < 0; omega), q.ts, tog_neg (by show (-1 : Int) < 0; omega), q.ht, q.tsh, q.win, q.ep, q.wl, q.mh, q.ms, fun w => nn1 w, q.mt, fun w => nn1 w.2⟩
 | standby k t ce pl n1 n2 n3 m1 f1 y1 t1 t2 fit =>
  refine inv_setT h hI hge t hv ?_ fit
  have q := tin t
  unfold tOk at t
  exact ⟨fun w => tf pl w, q.hs, by rw [tog_symm]; exact t1, q.ts, by rw [tog_symm]; exact t2, q.ht, q.tsh, q.win, q.ep, q.wl, q.mh, q.ms, fun _ => by rw [tci t.1]; exact y1, q.mt, fun _ => fun w => n3 w.symm⟩
 | ready k t ce pl n1 m1 =>
  refine inv_setT h hI hge t hv ?_ (over_less (by unfold tOk at t; omega) hI.ov (fun j => ?_))
  ·have q := tin t
   unfold cOk at ce
   exact ⟨fun w => tf pl w, by show togetherB c _ e.Cell = false; rw [n1]; exact q.hn, tog_neg (by show (-1 : Int) < 0; omega), by show togetherB c _ e.Cell = false; rw [n1]; exact q.tn, tog_neg (by show (-1 : Int) < 0; omega), q.ht, q.tsh, q.win, q.ep, q.wl, q.mh, fun _ => by show mayB c _ e.Cell = true; rw [n1]; exact q.mn (by omega), fun w => nn1 w, q.mt, fun w => nn1 w.2⟩
  ·unfold tOk at t
   have hd := tenant_nn h t
   unfold dl
   simp only [pl, if_true]
   have z := hit_neg (i := -1) (n := (c.Tenants.getD e.Tenant.toNat default).Shadow) (by omega) j
   have p := hit_nn (i := (tAt s e.Tenant).Standby) hd.2 j
   rw [z, n1]
   omega
 | migrate k t ce pl sh tg n1 n2 n3 m1 f1 y1 t1 t2 fit =>
  refine inv_setT h hI hge t hv ?_ fit
  have q := tin t
  unfold tOk at t
  exact ⟨fun w => tf pl w, q.hs, q.hn, t1, t2, fun _ => fun w => n1 w.symm, fun w => tf w sh, q.win, q.ep, q.wl, q.mh, q.ms, q.mn, fun _ => by rw [tci t.1]; exact y1, fun _ => n3⟩
 | abandon k t pl tg =>
  refine inv_setT h hI hge t hv ?_ (over_less (by unfold tOk at t; omega) hI.ov (fun j => ?_))
  ·have q := tin t
   exact ⟨fun w => tf pl w, q.hs, q.hn, tog_neg' (by show (-1 : Int) < 0; omega), tog_neg' (by show (-1 : Int) < 0; omega), fun w => nn1 w, fun _ => rfl, q.win, q.ep, q.wl, q.mh, q.ms, q.mn, fun w => nn1 w, fun w => nn1 w.1⟩
  ·unfold tOk at t
   have hd := tenant_nn h t
   unfold dl
   simp only [pl, if_true]
   have z := hit_neg (i := -1) (n := (c.Tenants.getD e.Tenant.toNat default).Load) (by omega) j
   have p := hit_nn (i := (tAt s e.Tenant).Target) hd.1 j
   rw [z]
   split <;> omega
 | shed k t n pl sh w =>
  refine inv_setT h hI hge t hv ?_ (over_less (by unfold tOk at t; omega) hI.ov (fun j => ?_))
  ·have q := tin t
   exact ⟨fun w => tf pl w, q.hs, q.hn, tog_neg' (by show (-1 : Int) < 0; omega), tog_neg' (by show (-1 : Int) < 0; omega), fun w => nn1 w, fun _ => rfl, fun w' => by have w' : e.Tick < (tAt s e.Tenant).Window.Until := w'; omega, q.ep, q.wl, q.mh, q.ms, q.mn, fun w => nn1 w, fun w => nn1 w.1⟩
  ·unfold tOk at t
   have hd := tenant_nn h t
   unfold dl
   simp only [pl, sh, if_true, Bool.false_eq_true, if_false]
   have p := hit_nn (i := (tAt s e.Tenant).Target) hd.1 j
   have p2 := hit_nn (i := (tAt s e.Tenant).Home) hd.1 j
   omega
 | back k t n sh m1 fit =>
  refine inv_setT h hI hge t hv ?_ fit
  have q := tin t
  have hp := (ts_at hI.vs (tlen hI.vs t)).sh sh
  exact ⟨fun w => tf hp w, q.hs, q.hn, q.ts, q.tn, q.ht, fun w => tf w rfl, fun w => tf sh (q.win w).2.1, q.ep, q.wl, q.mh, q.ms, q.mn, q.mt, q.mo⟩
 | mode k ce n m1 =>
  have q := cin ce
  exact inv_cells h hI hge hv rfl rfl (cinv_set hI hge ⟨q.r1, q.r2, q.w1, q.w2, Int.le_refl _⟩)
 | want k ce n n1 v1 v2 f =>
  have q := cin ce
  exact inv_cells h hI hge hv rfl rfl (cinv_set hI hge ⟨q.r1, q.r2, v1, v2, by have := q.si; show _ ≤ e.Tick; exact Int.le_trans this hge⟩)
 | runs k ce n n1 n2 f w =>
  have q := cin ce
  exact inv_cells h hI hge hv rfl rfl (cinv_set hI hge ⟨by show (c.Versions.getD e.N.toNat default).Low ≤ _; rw [n1]; exact q.w1, by show _ ≤ (c.Versions.getD e.N.toNat default).High; rw [n1]; exact q.w2, q.w1, q.w2, Int.le_refl _⟩)
 | prove k n n1 b =>
  refine inv_cells h hI hge hv rfl rfl (fun x hx => ?_)
  have q := hI.cel x hx
  exact ⟨q.r1, q.r2, q.w1, q.w2, by have := q.si; show _ ≤ e.Tick; exact Int.le_trans this hge⟩
 | evac k o n n1 =>
  refine inv_cells h hI hge hv rfl rfl (fun x hx => ?_)
  have q := hI.cel x hx
  exact ⟨q.r1, q.r2, q.w1, q.w2, by have := q.si; show _ ≤ e.Tick; exact Int.le_trans this hge⟩
 | expand k h1 h2 h3 =>
  refine inv_cells h hI hge hv rfl rfl (fun x hx => ?_)
  have q := hI.cel x hx
  have h3 := List.any_eq_false.1 h3 x hx
  unfold oldB at h3
  simp only [Bool.or_eq_true, decide_eq_true_eq, not_or, Int.not_le] at h3
  exact ⟨q.r1, by show s.High + 1 ≤ _; omega, q.w1, by show s.High + 1 ≤ _; omega, by have := q.si; show _ ≤ e.Tick; exact Int.le_trans this hge⟩
 | contract k h1 =>
  refine inv_cells h hI hge hv rfl rfl (fun x hx => ?_)
  have q := hI.cel x hx
  have hlh := hI.vs.lh
  have := q.r1
  have := q.w1
  exact ⟨by show _ ≤ s.High; omega, q.r2, by show _ ≤ s.High; omega, q.w2, by have := q.si; show _ ≤ e.Tick; exact Int.le_trans this hge⟩
 | note k =>
  refine inv_cells h hI hge hv rfl rfl (fun x hx => ?_)
  have q := hI.cel x hx
  exact ⟨q.r1, q.r2, q.w1, q.w2, by have := q.si; show _ ≤ e.Tick; exact Int.le_trans this hge⟩
theorem sum_t0 [Fuel] (n j : Nat) : ∀ k, sumD c (List.replicate n t0S) j k = 0
 | 0 => rfl
 | k + 1 => by
  rw [sumD, sum_t0 n j k]
  by_cases q : k < n
  ·have : (List.replicate n t0S).getD k default = t0S := by simp [List.getD_eq_getElem?_getD, q]
   rw [this]; rfl
  ·have : (List.replicate n t0S).getD k default = default := by simp [List.getD_eq_getElem?_getD, q]
   rw [this]; rfl
theorem inv_new [Fuel] (h : VC c) : Inv c (newS c) := by
 have hl := h.lease
 refine ⟨new_vs h, fun i hi => ?_, fun x hx => ?_, ?_⟩
 ·have hi' : i < c.Tenants.length := by simpa [newS] using hi
  have : (newS c).Tenants.getD i default = t0S := by simp [newS, List.getD_eq_getElem?_getD, hi']
  rw [this]
  exact ⟨fun _ => rfl, tog_neg (by decide), tog_neg (by decide), tog_neg (by decide), tog_neg (by decide), fun w => nn1 w, fun w => tf w rfl, fun w => absurd w (by show ¬ (0 : Int) < 0; omega), rfl, by show (0 : Int) ≤ 0 + 2 * c.Lease; omega, fun w => nn1 w, fun w => nn1 w, fun w => nn1 w, fun w => nn1 w, fun w => nn1 w.1⟩
 ·have : x = c0S := List.eq_of_mem_replicate hx
  subst this
  have h0 := h.v0
  have hv := h.v _ (getD_mem (by have := h.vl; omega : 0 < c.Versions.length))
  exact ⟨by show (c.Versions.getD 0 default).Low ≤ 0; omega, by show 0 ≤ (c.Versions.getD 0 default).High; omega, by show (c.Versions.getD 0 default).Low ≤ 0; omega, by show 0 ≤ (c.Versions.getD 0 default).High; omega, Int.le_refl _⟩
 ·rw [over_nil]
  intro j hj
  show sumD c (List.replicate c.Tenants.length t0S) j _ ≤ _
  rw [sum_t0]
  have := (h.cel _ (getD_mem hj)).2.2.1
  omega
theorem run_inv [Fuel] (h : VC c) (l : List ApiEntry) : ∀ s, Inv c s → okS c s l → Inv c (runS c s l) := by
 induction l with
 | nil => intro s hv _; exact hv
 | cons a l ih => intro s hv ho; exact ih _ (inv_step h hv ho.1) ho.2
theorem Reached.inv [Fuel] (h : VC c) (hr : Reached c s) : Inv c s := by
 obtain ⟨l, h1, h2, h3⟩ := hr
 rw [← h3]; exact run_inv h l _ (inv_new h) h1
end
end Go.CP
namespace Go.CP
open Go
set_option linter.unusedSimpArgs false
set_option linter.unusedVariables false
theorem and_bif [Fuel] (g a : Bool) : (g && (bif g then a else default)) = (g && a) := by cases g <;> rfl
def FitK (b : EntryBounds) (e : ApiEntry) : Prop :=
 (e.Kind = 1 ∧ 0 ≤ e.Tenant ∧ e.Tenant < b.tenants ∧ 0 ≤ e.Cell ∧ e.Cell < b.cells ∧ -1 ≤ e.Other ∧ e.Other < b.cells ∧ e.Other ≠ e.Cell ∧ e.Epoch = 0 ∧ e.From = 0 ∧ e.Until = 0 ∧ e.N = 0) ∨
 (e.Kind = 2 ∧ 0 ≤ e.Tenant ∧ e.Tenant < b.tenants ∧ 0 ≤ e.Cell ∧ e.Cell < b.cells ∧ e.Other = -1 ∧ 1 ≤ e.Epoch ∧ e.Epoch ≤ 1048576 ∧ 0 ≤ e.From ∧ e.From ≤ 1073741824 ∧ 0 ≤ e.Until ∧ e.Until ≤ 1073741824 ∧ 0 ≤ e.N ∧ e.N < b.versions) ∨
 (e.Kind = 3 ∧ 0 ≤ e.Tenant ∧ e.Tenant < b.tenants ∧ e.Cell = -1 ∧ e.Other = -1 ∧ 1 ≤ e.Epoch ∧ e.Epoch ≤ 1048576 ∧ e.From = 0 ∧ e.Until = 0 ∧ e.N = 0) ∨
 (e.Kind = 4 ∧ 0 ≤ e.Tenant ∧ e.Tenant < b.tenants ∧ -1 ≤ e.Cell ∧ e.Cell < b.cells ∧ e.Other = -1 ∧ e.Epoch = 0 ∧ e.From = 0 ∧ e.Until = 0 ∧ e.N = 0) ∨
 ((e.Kind = 5 ∨ e.Kind = 6) ∧ 0 ≤ e.Tenant ∧ e.Tenant < b.tenants ∧ 0 ≤ e.Cell ∧ e.Cell < b.cells ∧ e.Other = -1 ∧ e.Epoch = 0 ∧ e.From = 0 ∧ e.Until = 0 ∧ e.N = 0) ∨
 (e.Kind = 7 ∧ 0 ≤ e.Tenant ∧ e.Tenant < b.tenants ∧ e.Cell = -1 ∧ e.Other = -1 ∧ e.Epoch = 0 ∧ e.From = 0 ∧ e.Until = 0 ∧ e.N = 0) ∨
 (e.Kind = 8 ∧ 0 ≤ e.Tenant ∧ e.Tenant < b.tenants ∧ e.Cell = -1 ∧ e.Other = -1 ∧ e.Epoch = 0 ∧ e.From = 0 ∧ e.Until = 0 ∧ 0 ≤ e.N ∧ e.N ≤ 1) ∨
 (e.Kind = 9 ∧ e.Tenant = -1 ∧ 0 ≤ e.Cell ∧ e.Cell < b.cells ∧ e.Other = -1 ∧ e.Epoch = 0 ∧ e.From = 0 ∧ e.Until = 0 ∧ 1 ≤ e.N ∧ e.N ≤ 3) ∨
 ((e.Kind = 10 ∨ e.Kind = 11) ∧ e.Tenant = -1 ∧ 0 ≤ e.Cell ∧ e.Cell < b.cells ∧ e.Other = -1 ∧ e.Epoch = 0 ∧ e.From = 0 ∧ e.Until = 0 ∧ 0 ≤ e.N ∧ e.N < b.versions) ∨
 (e.Kind = 12 ∧ e.Tenant = -1 ∧ e.Cell = -1 ∧ e.Other = -1 ∧ e.Epoch = 0 ∧ e.From = 0 ∧ e.Until = 0 ∧ 0 ≤ e.N ∧ e.N < b.versions) ∨
 (e.Kind = 13 ∧ e.Tenant = -1 ∧ e.Cell = -1 ∧ 0 ≤ e.Other ∧ e.Other < b.regions ∧ e.Epoch = 0 ∧ e.From = 0 ∧ e.Until = 0 ∧ 0 ≤ e.N ∧ e.N ≤ 1) ∨
 ((e.Kind = 14 ∨ e.Kind = 15) ∧ e.Tenant = -1 ∧ e.Cell = -1 ∧ e.Other = -1 ∧ e.Epoch = 0 ∧ e.From = 0 ∧ e.Until = 0 ∧ e.N = 0) ∨
 (e.Kind = 16 ∧ e.Tenant = -1 ∧ e.Cell = -1 ∧ e.Other = -1 ∧ e.Epoch = 0 ∧ e.From = 0 ∧ e.Until = 0 ∧ 0 ≤ e.N ∧ e.N ≤ 1073741824)
section
variable {c : ApiConfig} {e : ApiEntry}
theorem entry_fits_ok [Fuel] (b : EntryBounds) (hb : 0 ≤ b.tenants ∧ b.tenants ≤ 1000 ∧ 0 ≤ b.cells ∧ b.cells ≤ 1000 ∧ 0 ≤ b.regions ∧ b.regions ≤ 1000 ∧ 0 ≤ b.versions ∧ b.versions ≤ 1000) :
  ∃ v, entry_fits e b = some v ∧ (v = true ↔ (0 ≤ e.Tick ∧ e.Tick ≤ 1073741824) ∧ FitK b e) := by
 have w1 : w64 (b.tenants - 1) = b.tenants - 1 := w64_eq (by omega) (by omega)
 have w2 : w64 (b.cells - 1) = b.cells - 1 := w64_eq (by omega) (by omega)
 have w3 : w64 (b.regions - 1) = b.regions - 1 := w64_eq (by omega) (by omega)
 have w4 : w64 (b.versions - 1) = b.versions - 1 := w64_eq (by omega) (by omega)
 by_cases hin : 1 ≤ e.Kind ∧ e.Kind ≤ 16
 ·have hk : e.Kind = 1 ∨ e.Kind = 2 ∨ e.Kind = 3 ∨ e.Kind = 4 ∨ e.Kind = 5 ∨ e.Kind = 6 ∨ e.Kind = 7 ∨ e.Kind = 8 ∨ e.Kind = 9 ∨ e.Kind = 10 ∨ e.Kind = 11 ∨ e.Kind = 12 ∨ e.Kind = 13 ∨ e.Kind = 14 ∨ e.Kind = 15 ∨ e.Kind = 16 := by omega
  unfold entry_fits entry_formOf entry_formOf_k4 entry_formOf_k3 entry_formOf_k2 entry_formOf_k1 entry_below entry_span_has
  rcases hk with hk | hk | hk | hk | hk | hk | hk | hk | hk | hk | hk | hk | hk | hk | hk | hk
  ·simp only [hk, w1, w2, w3, w4, Int.reduceBEq, Bool.false_and, Bool.true_and, Bool.or_false, Bool.false_or, Bool.not_true, Bool.not_false, cond_true, cond_false, Option.bind_some, bifS, and_bif]
   by_cases ho : e.Other = e.Cell
   ·have : (e.Other == e.Cell) = true := by simpa using ho
    simp only [this, cond_true]
    refine ⟨false, rfl, ?_⟩
    simp only [FitK, hk, Int.reduceEq, false_and, or_false, false_or, true_and, true_or, or_true, or_self]
    constructor
    ·intro q; cases q
    ·intro q; omega
   ·have : (e.Other == e.Cell) = false := by simpa using ho
    simp only [this, cond_false]
    refine ⟨_, rfl, ?_⟩
    simp only [Bool.and_eq_true, decide_eq_true_eq]
    simp only [FitK, hk, Int.reduceEq, false_and, or_false, false_or, true_and, true_or, or_true, or_self]
    constructor <;> (intro q; omega)
  all_goals
   simp only [hk, w1, w2, w3, w4, Int.reduceBEq, Bool.false_and, Bool.true_and, Bool.or_false, Bool.false_or, Bool.not_true, Bool.not_false, cond_true, cond_false, Option.bind_some, bifS, and_bif]
   refine ⟨_, rfl, ?_⟩
   simp only [Bool.and_eq_true, decide_eq_true_eq]
   simp only [FitK, hk, Int.reduceEq, false_and, or_false, false_or, true_and, true_or, or_true, or_self]
   constructor <;> (intro q; omega)
 ·have n : ∀ k : Int, 1 ≤ k → k ≤ 16 → (e.Kind == k) = false := fun k h1 h2 => by simp; omega
  unfold entry_fits entry_formOf entry_formOf_k4 entry_formOf_k3 entry_formOf_k2 entry_formOf_k1 entry_below entry_span_has
  simp only [n 1 (by omega) (by omega), n 2 (by omega) (by omega), n 3 (by omega) (by omega), n 4 (by omega) (by omega), n 5 (by omega) (by omega), n 6 (by omega) (by omega), n 7 (by omega) (by omega), n 8 (by omega) (by omega), n 9 (by omega) (by omega), n 10 (by omega) (by omega), n 11 (by omega) (by omega), n 12 (by omega) (by omega), n 13 (by omega) (by omega), n 14 (by omega) (by omega), n 15 (by omega) (by omega), n 16 (by omega) (by omega), Option.bind_some, cond_false, cond_true, Bool.not_false, Bool.true_or]
  refine ⟨false, rfl, ?_⟩
  constructor
  ·intro q; cases q
  ·intro q
   exfalso
   have q := q.2
   unfold FitK at q
   rcases q with q | q | q | q | q | q | q | q | q | q | q | q | q <;> (have q := q.1; omega)
theorem fitK_kind [Fuel] : FitK { tenants := ((c.Tenants.length : Nat) : Int), cells := ((c.Cells.length : Nat) : Int), regions := c.Regions, versions := ((c.Versions.length : Nat) : Int) } e ↔ KindP c e := by
 constructor
 ·intro q
  unfold FitK at q
  rcases q with q | q | q | q | q | q | q | q | q | q | q | q | q
  ·exact .place q.1 ⟨q.2.1, q.2.2.1⟩ ⟨q.2.2.2.1, q.2.2.2.2.1⟩ ⟨q.2.2.2.2.2.1, q.2.2.2.2.2.2.1, q.2.2.2.2.2.2.2.1⟩ (by unfold eN; omega) (by omega)
  ·exact .grant q.1 ⟨q.2.1, q.2.2.1⟩ ⟨q.2.2.2.1, q.2.2.2.2.1⟩ (by unfold oN; omega) (by omega) (by omega) (by unfold vOk; simp only at q; omega)
  ·exact .cut q.1 ⟨q.2.1, q.2.2.1⟩ (by omega) (by unfold oN; omega) (by omega) (by omega) (by omega)
  ·exact .standby q.1 ⟨q.2.1, q.2.2.1⟩ ⟨q.2.2.2.1, q.2.2.2.2.1⟩ (by unfold oN; omega) (by unfold eN; omega) (by omega)
  ·rcases q.1 with k | k
   ·exact .ready k ⟨q.2.1, q.2.2.1⟩ ⟨q.2.2.2.1, q.2.2.2.2.1⟩ (by unfold oN; omega) (by unfold eN; omega) (by omega)
   ·exact .migrate k ⟨q.2.1, q.2.2.1⟩ ⟨q.2.2.2.1, q.2.2.2.2.1⟩ (by unfold oN; omega) (by unfold eN; omega) (by omega)
  ·exact .abandon q.1 ⟨q.2.1, q.2.2.1⟩ (by omega) (by unfold oN; omega) (by unfold eN; omega) (by omega)
  ·exact .shed q.1 ⟨q.2.1, q.2.2.1⟩ (by omega) (by unfold oN; omega) (by unfold eN; omega) (by omega)
  ·exact .mode q.1 (by omega) ⟨q.2.2.1, q.2.2.2.1⟩ (by unfold oN; omega) (by unfold eN; omega) (by omega)
  ·rcases q.1 with k | k
   ·exact .want k (by omega) ⟨q.2.2.1, q.2.2.2.1⟩ (by unfold oN; omega) (by unfold eN; omega) (by unfold vOk; simp only at q; omega)
   ·exact .runs k (by omega) ⟨q.2.2.1, q.2.2.2.1⟩ (by unfold oN; omega) (by unfold eN; omega) (by unfold vOk; simp only at q; omega)
  ·exact .prove q.1 (by omega) (by omega) (by unfold oN; omega) (by unfold eN; omega) (by unfold vOk; simp only at q; omega)
  ·exact .evac q.1 (by omega) (by omega) ⟨q.2.2.2.1, q.2.2.2.2.1⟩ (by unfold eN; omega) (by omega)
  ·rcases q.1 with k | k
   ·exact .expand k (by omega) (by omega) (by unfold oN; omega) (by unfold eN; omega) (by omega)
   ·exact .contract k (by omega) (by omega) (by unfold oN; omega) (by unfold eN; omega) (by omega)
  ·exact .note q.1 (by omega) (by omega) (by unfold oN; omega) (by unfold eN; omega) (by omega)
 ·intro q
  cases q with
  | place hk t ce o w n =>
   simp only [FitK, hk, Int.reduceEq, false_and, or_false, false_or, true_and, true_or, or_true, or_self]
   simp only [tOk, cOk, vOk, oN, eN] at t ce o w n
   omega
  | grant hk t ce o ep w n =>
   simp only [FitK, hk, Int.reduceEq, false_and, or_false, false_or, true_and, true_or, or_true, or_self]
   simp only [tOk, cOk, vOk, oN, eN] at t ce o ep w n
   omega
  | cut hk t ce o ep w n =>
   simp only [FitK, hk, Int.reduceEq, false_and, or_false, false_or, true_and, true_or, or_true, or_self]
   simp only [tOk, cOk, vOk, oN, eN] at t ce o ep w n
   omega
  | standby hk t ce o w n =>
   simp only [FitK, hk, Int.reduceEq, false_and, or_false, false_or, true_and, true_or, or_true, or_self]
   simp only [tOk, cOk, vOk, oN, eN] at t ce o w n
   omega
  | ready hk t ce o w n =>
   simp only [FitK, hk, Int.reduceEq, false_and, or_false, false_or, true_and, true_or, or_true, or_self]
   simp only [tOk, cOk, vOk, oN, eN] at t ce o w n
   omega
  | migrate hk t ce o w n =>
   simp only [FitK, hk, Int.reduceEq, false_and, or_false, false_or, true_and, true_or, or_true, or_self]
   simp only [tOk, cOk, vOk, oN, eN] at t ce o w n
   omega
  | abandon hk t ce o w n =>
   simp only [FitK, hk, Int.reduceEq, false_and, or_false, false_or, true_and, true_or, or_true, or_self]
   simp only [tOk, cOk, vOk, oN, eN] at t ce o w n
   omega
  | shed hk t ce o w n =>
   simp only [FitK, hk, Int.reduceEq, false_and, or_false, false_or, true_and, true_or, or_true, or_self]
   simp only [tOk, cOk, vOk, oN, eN] at t ce o w n
   omega
  | mode hk t ce o w n =>
   simp only [FitK, hk, Int.reduceEq, false_and, or_false, false_or, true_and, true_or, or_true, or_self]
   simp only [tOk, cOk, vOk, oN, eN] at t ce o w n
   omega
  | want hk t ce o w n =>
   simp only [FitK, hk, Int.reduceEq, false_and, or_false, false_or, true_and, true_or, or_true, or_self]
   simp only [tOk, cOk, vOk, oN, eN] at t ce o w n
   omega
  | runs hk t ce o w n =>
   simp only [FitK, hk, Int.reduceEq, false_and, or_false, false_or, true_and, true_or, or_true, or_self]
   simp only [tOk, cOk, vOk, oN, eN] at t ce o w n
   omega
  | prove hk t ce o w n =>
   simp only [FitK, hk, Int.reduceEq, false_and, or_false, false_or, true_and, true_or, or_true, or_self]
   simp only [tOk, cOk, vOk, oN, eN] at t ce o w n
   omega
  | evac hk t ce o w n =>
   simp only [FitK, hk, Int.reduceEq, false_and, or_false, false_or, true_and, true_or, or_true, or_self]
   simp only [tOk, cOk, vOk, oN, eN] at t ce o w n
   omega
  | expand hk t ce o w n =>
   simp only [FitK, hk, Int.reduceEq, false_and, or_false, false_or, true_and, true_or, or_true, or_self]
   simp only [tOk, cOk, vOk, oN, eN] at t ce o w n
   omega
  | contract hk t ce o w n =>
   simp only [FitK, hk, Int.reduceEq, false_and, or_false, false_or, true_and, true_or, or_true, or_self]
   simp only [tOk, cOk, vOk, oN, eN] at t ce o w n
   omega
  | note hk t ce o w n =>
   simp only [FitK, hk, Int.reduceEq, false_and, or_false, false_or, true_and, true_or, or_true, or_self]
   simp only [tOk, cOk, vOk, oN, eN] at t ce o w n
   omega
theorem entry_valid [Fuel] (h : VC c) : entry_Valid c e = some (validB c e) := by
 have htl := h.tl; have hcl := h.cl; have hvl := h.vl; have hreg := h.reg
 obtain ⟨s, s1, s2⟩ := entry_fits_ok (e := e) { tenants := 32, cells := 16, regions := 4, versions := 30 } (by simp only; omega)
 obtain ⟨f, f1, f2⟩ := entry_fits_ok (e := e) { tenants := ((c.Tenants.length : Nat) : Int), cells := ((c.Cells.length : Nat) : Int), regions := c.Regions, versions := ((c.Versions.length : Nat) : Int) } (by simp only; omega)
 rw [fitK_kind] at f2
 unfold entry_Valid entry_Shape
 simp only [s1, f1, Option.bind_some, bifS, and_bif]
 congr 1
 rw [Bool.eq_iff_iff, (valid_eq (e := e) h).2, Bool.and_eq_true, s2, f2]
 unfold ValidP
 constructor
 ·intro q; exact q.2
 ·intro q
  refine ⟨⟨q.1, ?_⟩, q⟩
  have hf := fitK_kind.2 q.2
  unfold FitK at hf ⊢
  simp only at hf ⊢
  rcases hf with q | q | q | q | q | q | q | q | q | q | q | q | q
  ·exact .inl (by omega)
  ·exact .inr (.inl (by omega))
  ·exact .inr (.inr (.inl (by omega)))
  ·exact .inr (.inr (.inr (.inl (by omega))))
  ·exact .inr (.inr (.inr (.inr (.inl (by omega)))))
  ·exact .inr (.inr (.inr (.inr (.inr (.inl (by omega))))))
  ·exact .inr (.inr (.inr (.inr (.inr (.inr (.inl (by omega)))))))
  ·exact .inr (.inr (.inr (.inr (.inr (.inr (.inr (.inl (by omega))))))))
  ·exact .inr (.inr (.inr (.inr (.inr (.inr (.inr (.inr (.inl (by omega)))))))))
  ·exact .inr (.inr (.inr (.inr (.inr (.inr (.inr (.inr (.inr (.inl (by omega))))))))))
  ·exact .inr (.inr (.inr (.inr (.inr (.inr (.inr (.inr (.inr (.inr (.inl (by omega)))))))))))
  ·exact .inr (.inr (.inr (.inr (.inr (.inr (.inr (.inr (.inr (.inr (.inr (.inl (by omega))))))))))))
  ·exact .inr (.inr (.inr (.inr (.inr (.inr (.inr (.inr (.inr (.inr (.inr (.inr (by omega))))))))))))
end
end Go.CP
namespace Go.CP
open Go
set_option linter.unusedSimpArgs false
set_option linter.unusedVariables false
section
variable {c : ApiConfig} {s : ApiState} {e : ApiEntry}
theorem shr_and [Fuel] {a i : Int} (ha : 0 ≤ a ∧ a < 1073741824) (hi : 0 ≤ i) : andK .i64 (shrK .i64 a i) 1 = a / 2 ^ (min i.toNat 64) % 2 := by
  unfold shrK
  rw [fdiv_pow ha.1]
  show andK .i64 (a / 2 ^ (min i.toNat 64)) 1 = _
  have h1 : 0 ≤ a / 2 ^ (min i.toNat 64) := Int.ediv_nonneg ha.1 (Int.le_of_lt (Int.pow_pos (by decide)))
  have h2 : a / 2 ^ (min i.toNat 64) ≤ a := Int.ediv_le_self _ ha.1
  exact and_one h1 (by omega)
theorem big_zero [Fuel] {a : Int} (ha : 0 ≤ a ∧ a < 1073741824) {n : Nat} (hn : 30 ≤ n) : a / 2 ^ n = 0 := by
  apply Int.ediv_eq_zero_of_lt ha.1
  have h1 : (2 : Int) ^ 30 ≤ 2 ^ n := by
    have : (2 : Nat) ^ 30 ≤ 2 ^ n := Nat.pow_le_pow_right (by decide) hn
    exact_mod_cast this
  have h2 : (2 : Int) ^ 30 = 1073741824 := by decide
  omega
theorem st_has [Fuel] {a i : Int} (ha : 0 ≤ a ∧ a < 1073741824) : state_has a i = some (hasB a i) := by
  unfold state_has hasB
  by_cases h0 : 0 ≤ i
  · rw [shr_and ha h0]
    have e1 : (!((decide (0 ≤ i)) && (decide (i < 64))) || decide ((0 : Int) ≤ i)) = true := by rw [decide_eq_true h0]; simp
    rw [chk_ok e1]
    by_cases h1 : i < 62
    · rw [decide_eq_true h0, decide_eq_true (show i < 64 by omega), decide_eq_true (⟨h0, h1⟩ : 0 ≤ i ∧ i < 62), Nat.min_eq_left (by omega)]
      simp only [Bool.and_self, Bool.true_and]
      congr 1
    · have z : a / 2 ^ (min i.toNat 64) = 0 := big_zero ha (by omega)
      rw [z, decide_eq_false (show ¬ (0 ≤ i ∧ i < 62) by omega)]
      simp
  · rw [decide_eq_false h0, decide_eq_false (show ¬ (0 ≤ i ∧ i < 62) by omega)]
    rfl
theorem st_frozen [Fuel] (h : VC c) (hv : VS c s) (i : Int) : state_frozen c s i = some (frzB c s i) := by
  have := hv.evac
  unfold state_frozen frzB
  simp only [topo_region h, Option.bind_some, st_has (show 0 ≤ s.Evacuating ∧ s.Evacuating < 1073741824 by omega)]
theorem tn_may [Fuel] (h : VC c) (t i : Int) : tenant_May c t i = some (mayB c t i) := by
  have htl := h.tl
  unfold tenant_May mayB tenant_within
  simp only [topo_region h, Option.bind_some]
  rw [w64_eq (by omega) (by omega)]
  by_cases ht : 0 ≤ t ∧ t < (c.Tenants.length : Int)
  · have e1 : (decide (0 ≤ t) && decide (t ≤ ((c.Tenants.length : Nat) : Int) - 1)) = true := by simp; omega
    have ha := allowed_bound h ht
    rw [e1, decide_eq_true ht]
    simp only [Bool.true_and]
    by_cases hr : 0 ≤ regionOf c i
    · have hb := region_bound h i
      have hreg := h.reg
      rw [decide_eq_true hr]
      simp (disch := omega) only [ixG_ok', u64_eq]
      rw [chk_ok (by rw [decide_eq_true hr]; simp), shr_and (by omega) hr, Nat.min_eq_left (by omega)]
      unfold hasB
      rw [decide_eq_true (show 0 ≤ regionOf c i ∧ regionOf c i < 62 by omega)]
      simp only [Bool.true_and]
      congr 1
    · rw [decide_eq_false hr]
      unfold hasB
      rw [decide_eq_false (show ¬ (0 ≤ regionOf c i ∧ regionOf c i < 62) by omega)]
      rfl
  · have e1 : (decide (0 ≤ t) && decide (t ≤ ((c.Tenants.length : Nat) : Int) - 1)) = false := by simp; omega
    rw [e1, decide_eq_false ht]
    rfl
theorem st_near [Fuel] (h : VC c) (a b : Int) : state_near c a b = some ((b != (-1)) && !(apartB c a b)) := by
  unfold state_near
  rw [tenant_apart h, bifS, Option.bind_some]
  cases (b != (-1)) <;> rfl
theorem st_mode [Fuel] {i : Int} (hi : 0 ≤ i ∧ i < ((s.Cells.length : Nat) : Int)) : state_modeOf s i = some (cAt s i).Mode := by
  unfold state_modeOf
  have e1 : (decide (i < 0) || decide (((s.Cells.length : Nat) : Int) ≤ i)) = false := by simp; omega
  rw [e1, cond_false, ixL_ok hi.1 hi.2]; rfl
theorem st_ver [Fuel] {i : Int} (hi : 0 ≤ i ∧ i < ((c.Versions.length : Nat) : Int)) : state_versionOf c i = some (c.Versions.getD i.toNat default) := by
  unfold state_versionOf
  have e1 : (decide (i < 0) || decide (((c.Versions.length : Nat) : Int) ≤ i)) = false := by simp; omega
  rw [e1, cond_false, ixL_ok hi.1 hi.2]
theorem ne_neg [Fuel] {i : Int} (hi : -1 ≤ i) : (i != (-1)) = decide (0 ≤ i) := by
  by_cases h : 0 ≤ i
  · rw [decide_eq_true h]; simp; omega
  · have : i = -1 := by omega
    subst this; rfl
theorem eq_neg [Fuel] {i : Int} (hi : -1 ≤ i) : (i == (-1)) = decide (i < 0) := by
  by_cases h : i < 0
  · rw [decide_eq_true h]; have : i = -1 := by omega
    subst this; rfl
  · rw [decide_eq_false h]; simp; omega
def outS (x : Int) (n : ApiState × Int) : ApiState × Int := bif x != 0 then noS x else n
theorem place_p [Fuel] (h : VC c) (hv : VS c s) (t : tOk c e) (ce : cOk c e) (o : -1 ≤ e.Other ∧ e.Other < (c.Cells.length : Int)) :
    Ok (state_place c s e) (fun x => placeS c (bump s e) e = outS x (fitS c (setT (bump s e) e.Tenant (placeT (tAt s e.Tenant) e)))) := by
  have h1 := tlen hv t
  have h2 := clen hv ce
  have hcl := hv.cl
  unfold state_place state_place_k3 state_place_k2 state_place_k1 placeS
  rw [ixL_ok h1.1 h1.2, st_mode h2, ne_neg o.1]
  simp only [Option.bind_some, st_frozen h hv, tn_may h, st_near h, ne_neg o.1]
  have t0 : tAt (bump s e) e.Tenant = tAt s e.Tenant := rfl
  have c0 : ∀ i, cAt (bump s e) i = cAt s i := fun _ => rfl
  have f0 : ∀ i, frzB c (bump s e) i = frzB c s i := fun _ => rfl
  rw [t0]
  simp only [c0, f0]
  show Ok (bif (tAt s e.Tenant).Placed then _ else _) _
  have tg : togetherB c e.Cell e.Other = (decide (0 ≤ e.Other) && !(apartB c e.Cell e.Other)) := by unfold togetherB; rw [decide_eq_true h2.1]; rfl
  rw [tg]
  by_cases ho : 0 ≤ e.Other
  · rw [decide_eq_true ho, st_mode (s := s) (i := e.Other) (by omega)]
    simp only [cond_true, Bool.true_and, Option.bind_some]
    cases (tAt s e.Tenant).Placed with
    | true => exact Ok.some rfl
    | false =>
      cases ((cAt s e.Cell).Mode != 1) with
      | true => exact Ok.some rfl
      | false =>
        cases ((cAt s e.Other).Mode != 1) with
        | true => exact Ok.some rfl
        | false =>
          cases frzB c s e.Cell with
          | true => exact Ok.some rfl
          | false =>
            cases frzB c s e.Other with
            | true => exact Ok.some rfl
            | false =>
              cases mayB c e.Tenant e.Cell with
              | false => exact Ok.some rfl
              | true =>
                cases mayB c e.Tenant e.Other with
                | false => exact Ok.some rfl
                | true => cases apartB c e.Cell e.Other <;> exact Ok.some rfl
  · rw [decide_eq_false ho]
    simp only [cond_false, Bool.false_and, Option.bind_some, Bool.or_false]
    cases (tAt s e.Tenant).Placed with
    | true => exact Ok.some rfl
    | false =>
      cases ((cAt s e.Cell).Mode != 1) with
      | true => exact Ok.some rfl
      | false =>
        cases frzB c s e.Cell with
        | true => exact Ok.some rfl
        | false => cases mayB c e.Tenant e.Cell <;> exact Ok.some rfl
theorem standby_p [Fuel] (h : VC c) (hI : Inv c s) (t : tOk c e) (ce : -1 ≤ e.Cell ∧ e.Cell < (c.Cells.length : Int)) (hp : e.Tick ≥ s.Tick) :
    Ok (state_standby c s e) (fun x => standbyS c (bump s e) e = outS x (bif decide (e.Cell < 0) then (setT (bump s e) e.Tenant { tAt s e.Tenant with Next := e.Cell }, 0) else fitS c (setT (bump s e) e.Tenant { tAt s e.Tenant with Next := e.Cell }))) := by
  have hv := hI.vs
  have h1 := tlen hv t
  have hcl := hv.cl
  have hT := ts_at hv h1
  unfold state_standby state_standby_k2 state_standby_k1 standbyS
  rw [ixL_ok h1.1 h1.2, eq_neg ce.1]
  have t0 : tAt (bump s e) e.Tenant = tAt s e.Tenant := rfl
  have c0 : ∀ i, cAt (bump s e) i = cAt s i := fun _ => rfl
  have f0 : ∀ i, frzB c (bump s e) i = frzB c s i := fun _ => rfl
  rw [t0]
  simp only [c0, f0]
  show Ok (bif !(tAt s e.Tenant).Placed then _ else _) _
  have hg : (s.Tenants.getD e.Tenant.toNat default) = tAt s e.Tenant := rfl
  rw [hg]
  have key : (tAt s e.Tenant).Placed = true → e.Cell < 0 → overS c (setT (bump s e) e.Tenant { tAt s e.Tenant with Next := e.Cell }) = [] := by
    intro hpl hc
    refine over_less h1 hI.ov (fun j => ?_)
    unfold tOk at t
    have hd := tenant_nn h t
    unfold dl
    simp only [hpl, if_true]
    have z := hit_neg (i := e.Cell) (n := (c.Tenants.getD e.Tenant.toNat default).Shadow) hc j
    have p := hit_nn (i := (tAt s e.Tenant).Next) hd.2 j
    rw [z]; omega
  cases hpl : (tAt s e.Tenant).Placed with
  | false => exact Ok.some rfl
  | true =>
    simp only [Bool.not_true, cond_false]
    by_cases hc : e.Cell < 0
    · rw [decide_eq_true hc]
      simp only [cond_true]
      refine Ok.some ?_
      have k2 := key hpl hc
      simp only [hpl] at k2 ⊢
      rw [fit_ok k2]; rfl
    · rw [decide_eq_false hc]
      have hce : 0 ≤ e.Cell ∧ e.Cell < ((s.Cells.length : Nat) : Int) := by omega
      simp only [cond_false, st_mode hce, Option.bind_some, st_frozen h hv, tn_may h, st_near h, tenant_apart h, ne_neg hT.tg.1]
      have hh : 0 ≤ (tAt s e.Tenant).Home := hT.pl hpl
      have tg1 : togetherB c e.Cell (tAt s e.Tenant).Home = !(apartB c e.Cell (tAt s e.Tenant).Home) := by unfold togetherB; rw [decide_eq_true hce.1, decide_eq_true hh]; rfl
      have tg2 : togetherB c e.Cell (tAt s e.Tenant).Target = (decide (0 ≤ (tAt s e.Tenant).Target) && !(apartB c e.Cell (tAt s e.Tenant).Target)) := by unfold togetherB; rw [decide_eq_true hce.1]; rfl
      rw [tg1, tg2]
      generalize fitS c _ = R
      generalize (decide (0 ≤ (tAt s e.Tenant).Target) && !(apartB c e.Cell (tAt s e.Tenant).Target)) = b9
      cases (e.Cell == (tAt s e.Tenant).Home) with
      | true => exact Ok.some rfl
      | false =>
        cases (e.Cell == (tAt s e.Tenant).Standby) with
        | true => exact Ok.some rfl
        | false =>
          cases (e.Cell == (tAt s e.Tenant).Target) with
          | true => exact Ok.some rfl
          | false =>
            cases ((cAt s e.Cell).Mode != 1) with
            | true => exact Ok.some rfl
            | false =>
              cases frzB c s e.Cell with
              | true => exact Ok.some rfl
              | false =>
                cases mayB c e.Tenant e.Cell with
                | false => exact Ok.some rfl
                | true =>
                  cases apartB c e.Cell (tAt s e.Tenant).Home with
                  | false => exact Ok.some rfl
                  | true => cases b9 <;> exact Ok.some rfl
theorem ready_p [Fuel] (h : VC c) (hv : VS c s) (t : tOk c e) (ce : cOk c e) :
    Ok (state_ready s e) (fun x => readyS (bump s e) e = outS x (setT (bump s e) e.Tenant { tAt s e.Tenant with Standby := e.Cell, Next := -1 }, 0)) := by
  have h1 := tlen hv t
  have h2 := clen hv ce
  unfold state_ready readyS
  rw [ixL_ok h1.1 h1.2, st_mode h2]
  show Ok (bif !(tAt s e.Tenant).Placed then _ else _) _
  have t0 : tAt (bump s e) e.Tenant = tAt s e.Tenant := rfl
  have c0 : ∀ i, cAt (bump s e) i = cAt s i := fun _ => rfl
  have hg : (s.Tenants.getD e.Tenant.toNat default) = tAt s e.Tenant := rfl
  rw [t0, c0, hg]
  simp only [Option.bind_some]
  cases (tAt s e.Tenant).Placed with
  | false => exact Ok.some rfl
  | true =>
    cases (e.Cell != (tAt s e.Tenant).Next) with
    | true => exact Ok.some rfl
    | false => cases ((cAt s e.Cell).Mode == 3) <;> exact Ok.some rfl
theorem migrate_p [Fuel] (h : VC c) (hv : VS c s) (t : tOk c e) (ce : cOk c e) :
    Ok (state_migrate c s e) (fun x => migrateS c (bump s e) e = outS x (fitS c (setT (bump s e) e.Tenant { tAt s e.Tenant with Target := e.Cell }))) := by
  have h1 := tlen hv t
  have h2 := clen hv ce
  have hT := ts_at hv h1
  unfold state_migrate state_migrate_k3 state_migrate_k2 state_migrate_k1 migrateS
  rw [ixL_ok h1.1 h1.2]
  have t0 : tAt (bump s e) e.Tenant = tAt s e.Tenant := rfl
  have c0 : ∀ i, cAt (bump s e) i = cAt s i := fun _ => rfl
  have f0 : ∀ i, frzB c (bump s e) i = frzB c s i := fun _ => rfl
  have hg : (s.Tenants.getD e.Tenant.toNat default) = tAt s e.Tenant := rfl
  rw [t0, hg]
  simp only [c0, f0, st_mode h2, Option.bind_some, st_frozen h hv, tn_may h, st_near h, ne_neg hT.tg.1, ne_neg hT.sb.1, ne_neg hT.nx.1]
  have tg1 : togetherB c e.Cell (tAt s e.Tenant).Standby = (decide (0 ≤ (tAt s e.Tenant).Standby) && !(apartB c e.Cell (tAt s e.Tenant).Standby)) := by unfold togetherB; rw [decide_eq_true h2.1]; rfl
  have tg2 : togetherB c e.Cell (tAt s e.Tenant).Next = (decide (0 ≤ (tAt s e.Tenant).Next) && !(apartB c e.Cell (tAt s e.Tenant).Next)) := by unfold togetherB; rw [decide_eq_true h2.1]; rfl
  rw [tg1, tg2]
  generalize fitS c _ = R
  generalize (decide (0 ≤ (tAt s e.Tenant).Standby) && !(apartB c e.Cell (tAt s e.Tenant).Standby)) = b8
  generalize (decide (0 ≤ (tAt s e.Tenant).Next) && !(apartB c e.Cell (tAt s e.Tenant).Next)) = b9
  generalize decide (0 ≤ (tAt s e.Tenant).Target) = b7
  cases (tAt s e.Tenant).Placed with
  | false => exact Ok.some rfl
  | true =>
    cases (tAt s e.Tenant).Shed with
    | true => exact Ok.some rfl
    | false =>
      cases b7 with
      | true => exact Ok.some rfl
      | false =>
        cases (e.Cell == (tAt s e.Tenant).Home) with
        | true => exact Ok.some rfl
        | false =>
          cases (e.Cell == (tAt s e.Tenant).Standby) with
          | true => exact Ok.some rfl
          | false =>
            cases (e.Cell == (tAt s e.Tenant).Next) with
            | true => exact Ok.some rfl
            | false =>
              cases ((cAt s e.Cell).Mode != 1) with
              | true => exact Ok.some rfl
              | false =>
                cases frzB c s e.Cell with
                | true => exact Ok.some rfl
                | false =>
                  cases mayB c e.Tenant e.Cell with
                  | false => exact Ok.some rfl
                  | true =>
                    cases b8 with
                    | true => exact Ok.some rfl
                    | false => cases b9 <;> exact Ok.some rfl
theorem abandon_p [Fuel] (hv : VS c s) (t : tOk c e) : Ok (state_abandon s e) (fun x => abandonS (bump s e) e = outS x (setT (bump s e) e.Tenant { tAt s e.Tenant with Target := -1 }, 0)) := by
  have h1 := tlen hv t
  have hT := ts_at hv h1
  unfold state_abandon abandonS
  have t0 : tAt (bump s e) e.Tenant = tAt s e.Tenant := rfl
  have hg : (s.Tenants.getD e.Tenant.toNat default) = tAt s e.Tenant := rfl
  rw [ixL_ok h1.1 h1.2, t0, hg, eq_neg hT.tg.1]
  dsimp only
  cases (!(tAt s e.Tenant).Placed || decide ((tAt s e.Tenant).Target < 0)) <;> exact Ok.some rfl
theorem shed_p [Fuel] (h : VC c) (hv : VS c s) (t : tOk c e) (n : e.N = 0 ∨ e.N = 1) :
    Ok (state_shed s e) (fun x => shedS c (bump s e) e = outS x (bif e.N == 1 then (setT (bump s e) e.Tenant { tAt s e.Tenant with Shed := true, Target := -1 }, 0) else fitS c (setT (bump s e) e.Tenant { tAt s e.Tenant with Shed := false }))) := by
  have h1 := tlen hv t
  have hT := ts_at hv h1
  have hcl := hv.cl
  unfold state_shed state_shed_k1 shedS
  have t0 : tAt (bump s e) e.Tenant = tAt s e.Tenant := rfl
  have c0 : ∀ i, cAt (bump s e) i = cAt s i := fun _ => rfl
  have hg : (s.Tenants.getD e.Tenant.toNat default) = tAt s e.Tenant := rfl
  rw [ixL_ok h1.1 h1.2, t0, hg]
  dsimp only
  rw [c0]
  rcases n with n | n
  · rw [n]
    simp only [Int.reduceBEq, cond_true, cond_false]
    cases hs : (tAt s e.Tenant).Shed with
    | false => exact Ok.some rfl
    | true =>
      have hh := hT.pl (hT.sh hs)
      have := hT.home
      rw [st_mode (s := s) (i := (tAt s e.Tenant).Home) (by omega)]
      simp only [Bool.not_true, cond_false, Option.bind_some]
      cases ((cAt s (tAt s e.Tenant).Home).Mode == 3) <;> exact Ok.some rfl
  · rw [n]
    simp only [Int.reduceBEq, cond_true, cond_false]
    cases (tAt s e.Tenant).Placed with
    | false => exact Ok.some rfl
    | true =>
      cases (tAt s e.Tenant).Shed with
      | true => exact Ok.some rfl
      | false => cases decide (e.Tick < (tAt s e.Tenant).Window.Until) <;> exact Ok.some rfl
theorem cut_p [Fuel] (hv : VS c s) (t : tOk c e) : Ok (state_cut s e) (fun x => cutS (bump s e) e = outS x (setT (bump s e) e.Tenant { tAt s e.Tenant with Window := cutW (tAt s e.Tenant).Window e.Tick }, 0)) := by
  have h1 := tlen hv t
  unfold state_cut cutS
  have t0 : tAt (bump s e) e.Tenant = tAt s e.Tenant := rfl
  have hg : (s.Tenants.getD e.Tenant.toNat default) = tAt s e.Tenant := rfl
  rw [ixL_ok h1.1 h1.2, t0, hg]
  dsimp only
  cases (tAt s e.Tenant).Placed with
  | false => exact Ok.some rfl
  | true => cases (e.Epoch != (tAt s e.Tenant).Epoch) <;> exact Ok.some rfl
theorem grant_p [Fuel] (h : VC c) (hv : VS c s) (t : tOk c e) (ce : cOk c e) (hk : 0 ≤ e.Tick ∧ e.Tick ≤ 1073741824) (w : 0 ≤ e.From ∧ e.From ≤ 1073741824 ∧ 0 ≤ e.Until ∧ e.Until ≤ 1073741824) :
    Ok (state_grant c s e) (fun x => grantS c (bump s e) e = outS x (fitS c (setT (bump s e) e.Tenant (afterGrant (tAt s e.Tenant) e)))) := by
  have h1 := tlen hv t
  have h2 := clen hv ce
  have hT := ts_at hv h1
  have hle := h.lease
  have hep := hT.ep
  unfold state_grant state_grant_k5 state_grant_k4 state_grant_k3 state_grant_k2 state_grant_k1 grantS grantedS
  have t0 : tAt (bump s e) e.Tenant = tAt s e.Tenant := rfl
  have c0 : ∀ i, cAt (bump s e) i = cAt s i := fun _ => rfl
  have hg : (s.Tenants.getD e.Tenant.toNat default) = tAt s e.Tenant := rfl
  have hg2 : (s.Cells.getD e.Cell.toNat default) = cAt s e.Cell := rfl
  rw [ixL_ok h1.1 h1.2, ixL_ok h2.1 h2.2, t0, hg, hg2]
  dsimp only
  rw [c0]
  rw [w64_eq (x := (tAt s e.Tenant).Epoch + 1) (by omega) (by omega), w64_eq (x := e.Tick + c.Lease) (by omega) (by omega), w64_eq (x := e.Until - e.From) (by omega) (by omega)]
  generalize fitS c _ = R
  simp only [bne]
  generalize (e.Cell == (tAt s e.Tenant).Home) = b1
  generalize (e.Cell == (tAt s e.Tenant).Standby) = b2
  generalize (e.Cell == (tAt s e.Tenant).Target) = b3
  generalize ((cAt s e.Cell).Mode == 3) = b4
  generalize ((cAt s e.Cell).Mode == 2) = b5
  generalize (e.Epoch == (tAt s e.Tenant).Epoch) = b6
  generalize (e.Epoch == (tAt s e.Tenant).Epoch + 1) = b7
  generalize (e.N == (cAt s e.Cell).Running) = b8
  generalize ((cAt s e.Cell).Running == (cAt s e.Cell).Wanted) = b9
  generalize decide (e.From < e.Tick) = d1
  generalize decide (e.Tick + c.Lease < e.From) = d2
  generalize decide (e.Until ≤ e.From) = d3
  generalize decide (c.Lease < e.Until - e.From) = d4
  generalize decide (e.From < (tAt s e.Tenant).Window.Until) = d5
  generalize decide (e.Tick < (tAt s e.Tenant).Window.Until) = d6
  cases (tAt s e.Tenant).Placed with
  | false => exact Ok.some rfl
  | true =>
    cases (tAt s e.Tenant).Shed <;> cases b2 <;> first
      | (exact Ok.some rfl)
      | (cases b1 <;> cases b3 <;> first
          | (exact Ok.some rfl)
          | (cases b4 with
             | true => exact Ok.some rfl
             | false =>
               cases b5 <;> first
                 | (exact Ok.some rfl)
                 | (cases b6 <;> cases b7 <;> first
                     | (exact Ok.some rfl)
                     | (cases b8 with
                        | false => exact Ok.some rfl
                        | true =>
                          cases b9 with
                          | false => exact Ok.some rfl
                          | true =>
                            cases d1 with
                            | true => exact Ok.some rfl
                            | false =>
                              cases d2 with
                              | true => exact Ok.some rfl
                              | false =>
                                cases d3 with
                                | true => exact Ok.some rfl
                                | false =>
                                  cases d4 with
                                  | true => exact Ok.some rfl
                                  | false =>
                                    cases d5 with
                                    | true => exact Ok.some rfl
                                    | false => cases d6 <;> exact Ok.some rfl))))
end
end Go.CP
namespace Go.CP
open Go
set_option linter.unusedSimpArgs false
set_option linter.unusedVariables false
section
variable {c : ApiConfig} {s : ApiState} {e : ApiEntry}
theorem mode_p [Fuel] (hv : VS c s) (ce : cOk c e) : Ok (state_mode s e) (fun x => modeS (bump s e) e = outS x (setC (bump s e) e.Cell { cAt s e.Cell with Mode := e.N, Since := e.Tick }, 0)) := by
 have h2 := clen hv ce
 unfold state_mode modeS
 have c0 : ∀ i, cAt (bump s e) i = cAt s i := fun _ => rfl
 have hg2 : (s.Cells.getD e.Cell.toNat default) = cAt s e.Cell := rfl
 rw [ixL_ok h2.1 h2.2, c0, hg2]
 cases ((cAt s e.Cell).Mode == e.N) <;> exact Ok.some rfl
def openF (s : ApiState) : Nat → List Int
 | 0 => []
 | k + 1 => bif openB s (k : Int) then openF s k ++ [(k : Int)] else openF s k
theorem openF_len [Fuel] (s : ApiState) : ∀ k, (openF s k).length ≤ k
 | 0 => Nat.le_refl 0
 | k + 1 => by
  have := openF_len s k
  rw [openF]
  cases openB s (k : Int) with
  | true => simp; omega
  | false => simp; omega
def cntF (cell : Int) (l : List Int) : Nat → Int
 | 0 => 0
 | k + 1 => (bif l.getD k default != cell then cntF cell l k + 1 else cntF cell l k)
theorem cntF_bd [Fuel] (cell : Int) (l : List Int) : ∀ k, 0 ≤ cntF cell l k ∧ cntF cell l k ≤ k
 | 0 => by simp [cntF]
 | k + 1 => by
  have := cntF_bd cell l k
  rw [cntF]
  cases (l.getD k default != cell) <;> simp <;> omega
theorem cntF_app [Fuel] (cell : Int) (l m : List Int) : ∀ k, k ≤ l.length → cntF cell (l ++ m) k = cntF cell l k
 | 0, _ => rfl
 | k + 1, hk => by
  rw [cntF, cntF, cntF_app cell l m k (by omega)]
  have : (l ++ m).getD k default = l.getD k default := by simp [List.getD_eq_getElem?_getD, List.getElem?_append_left (show k < l.length by omega)]
  rw [this]
theorem cnt_open [Fuel] (s : ApiState) (cell : Int) : ∀ k, cntF cell (openF s k) (openF s k).length = othersF s cell k
 | 0 => rfl
 | k + 1 => by
  have ih := cnt_open s cell k
  rw [openF]
  unfold othersF
  cases ho : openB s (k : Int) with
  | false =>
   simp only [cond_false]
   rw [ih]
   simp [ho]
  | true =>
   simp only [cond_true, List.length_append, List.length_singleton]
   rw [cntF, cntF_app _ _ _ _ (Nat.le_refl _), ih]
   have : (openF s k ++ [(k : Int)]).getD (openF s k).length default = (k : Int) := by simp [List.getD_eq_getElem?_getD]
   rw [this]
   by_cases hq : (k : Int) = cell
   ·simp [hq]
   ·simp [hq, ho]
theorem unproven_eq [Fuel] (h : VC c) (hv : VS c s) : state_Unproven s = some (openF s s.Cells.length) := by
 apply eqOk
 have hcl := hv.cl
 have hcl2 := h.cl
 have hp := hv.prov
 unfold state_Unproven
 refine loop0 (L := fun m x i => state_Unproven_l2 s s.Cells ((s.Cells.length : Nat) : Int) m x i) s.Cells.length (by omega) (fun k x => x = openF s k) rfl ?_ ?_
 ·rintro m k x hk rfl ih
  show Ok (state_Unproven_l2 s s.Cells _ (m + 1) (openF s k) k) _
  have hol := openF_len s k
  rw [state_Unproven_l2]
  unfold state_Unproven_k1
  simp (disch := omega) only [condT, ixL_ok, Int.toNat_natCast, st_has hp, bifS, Option.bind_some, w64_eq]
  have e1 : ((!hasB s.Proven (s.Cells.getD k default).Running) || !(bif !(!hasB s.Proven (s.Cells.getD k default).Running) then hasB s.Proven (s.Cells.getD k default).Wanted else default)) = openB s (k : Int) := by
   unfold openB provenB cAt
   rw [Int.toNat_natCast]
   cases hasB s.Proven (s.Cells.getD k default).Running <;> rfl
  rw [e1]
  have nx := ih (openF s (k + 1)) rfl
  rw [openF] at nx
  cases ho : openB s (k : Int) with
  | true =>
   rw [ho] at nx
   simp only [cond_true] at nx ⊢
   rw [chkD_ok (by simp only [List.length_singleton]; unfold room; omega)]
   exact nx
  | false =>
   rw [ho] at nx
   exact nx
 ·rintro m x rfl
  show Ok (state_Unproven_l2 s s.Cells _ (m + 1) _ _) _
  rw [state_Unproven_l2]
  simp (disch := omega) only [condF]
  exact Ok.some rfl
theorem want_l2 [Fuel] (h : VC c) {l : List Int} (hl : l.length ≤ 1000) : state_want_l2 c e l ((l.length : Nat) : Int) fuel 0 0 = some (bif decide (c.Blast ≤ cntF e.Cell l l.length) then 14 else 0) := by
 apply eqOk
 refine loop0 (L := fun m x i => state_want_l2 c e l ((l.length : Nat) : Int) m x i) l.length (by omega) (fun k x => x = cntF e.Cell l k) rfl ?_ ?_
 ·rintro m k x hk rfl ih
  show Ok (state_want_l2 c e l _ (m + 1) (cntF e.Cell l k) k) _
  have hb := cntF_bd e.Cell l k
  rw [state_want_l2]
  unfold state_want_k1
  simp (disch := omega) only [condT, ixL_ok, Int.toNat_natCast, w64_eq]
  have nx := ih (cntF e.Cell l (k + 1)) rfl
  rw [cntF] at nx
  cases hq : (l.getD k default != e.Cell) with
  | true => rw [hq] at nx; exact nx
  | false => rw [hq] at nx; exact nx
 ·rintro m x rfl
  show Ok (state_want_l2 c e l _ (m + 1) _ _) _
  rw [state_want_l2]
  simp (disch := omega) only [condF]
  cases decide (c.Blast ≤ cntF e.Cell l l.length) <;> exact Ok.some rfl
theorem want_p [Fuel] (h : VC c) (hv : VS c s) (ce : cOk c e) (n : vOk c e) : Ok (state_want c s e) (fun x => wantS c (bump s e) e = outS x (setC (bump s e) e.Cell { cAt s e.Cell with Wanted := e.N }, 0)) := by
 have h2 := clen hv ce
 have hp := hv.prov
 have hcl := hv.cl
 have hcl2 := h.cl
 unfold vOk at n
 unfold state_want state_want_k4 state_want_k3 wantS
 have c0 : ∀ i, cAt (bump s e) i = cAt s i := fun _ => rfl
 have hg2 : (s.Cells.getD e.Cell.toNat default) = cAt s e.Cell := rfl
 have hol := openF_len s s.Cells.length
 rw [ixL_ok h2.1 h2.2, hg2]
 dsimp only
 rw [c0, st_ver n, unproven_eq h hv]
 simp only [Option.bind_some, st_has hp, others_bump]
 rw [want_l2 h (by omega), cnt_open]
 have p0 : provenB (bump s e) e.N = hasB s.Proven e.N := rfl
 have q0 : (bump s e).Cells.length = s.Cells.length := rfl
 have q1 : (bump s e).Evacuating = s.Evacuating := rfl
 have q2 : (bump s e).Low = s.Low := rfl
 have q3 : (bump s e).High = s.High := rfl
 rw [p0, q0, q1, q2, q3]
 have r0 : (e.N != (cAt s e.Cell).Running) = !((cAt s e.Cell).Running == e.N) := by rw [Bool.eq_iff_iff]; simp; exact ⟨fun a b => a b.symm, fun a b => a b.symm⟩
 rw [r0]
 generalize othersF s e.Cell s.Cells.length = ot
 cases ((cAt s e.Cell).Wanted == e.N) with
 | true => exact Ok.some rfl
 | false =>
  cases decide (s.Low < (c.Versions.getD e.N.toNat default).Low) with
  | true => exact Ok.some rfl
  | false =>
   cases decide ((c.Versions.getD e.N.toNat default).High < s.High) with
   | true => exact Ok.some rfl
   | false =>
    cases ((cAt s e.Cell).Running == e.N) with
    | true => exact Ok.some rfl
    | false =>
     cases hasB s.Proven e.N with
     | true => exact Ok.some rfl
     | false =>
      cases (s.Evacuating != 0) with
      | true => exact Ok.some rfl
      | false => cases decide (c.Blast ≤ ot) <;> exact Ok.some rfl
theorem any_get [Fuel] {α : Type} [Inhabited α] (p : α → Bool) (l : List α) : l.any p = true ↔ ∃ k, k < l.length ∧ p (l.getD k default) = true := by
 rw [List.any_eq_true]
 constructor
 ·rintro ⟨x, hx, hp⟩
  obtain ⟨k, hk, rfl⟩ := List.getElem_of_mem hx
  exact ⟨k, hk, by simpa [List.getD_eq_getElem?_getD, hk] using hp⟩
 ·rintro ⟨k, hk, hp⟩
  exact ⟨_, getD_mem hk, hp⟩
theorem runs_l1 [Fuel] (hl : s.Tenants.length ≤ 1000) : state_runs_l1 e s.Tenants ((s.Tenants.length : Nat) : Int) fuel 0 = some (bif s.Tenants.any (busyB e) then 9 else 0) := by
 apply eqOk
 refine loop0 (L := fun m (_ : Unit) i => state_runs_l1 e s.Tenants ((s.Tenants.length : Nat) : Int) m i) (x := ()) s.Tenants.length (by omega) (fun k _ => ∀ j, j < k → busyB e (s.Tenants.getD j default) = false) (fun j hj => by omega) ?_ ?_
 ·rintro m k x hk hI ih
  show Ok (state_runs_l1 e s.Tenants _ (m + 1) k) _
  rw [state_runs_l1]
  simp (disch := omega) only [condT, ixL_ok, Int.toNat_natCast, w64_eq]
  show Ok (bif busyB e (s.Tenants.getD k default) then _ else _) _
  cases hb : busyB e (s.Tenants.getD k default) with
  | true =>
   have : s.Tenants.any (busyB e) = true := (any_get _ _).2 ⟨k, hk, hb⟩
   rw [this]; exact Ok.some rfl
  | false =>
   exact ih () (fun j hj => by
    by_cases q : j = k
    ·exact q ▸ hb
    ·exact hI j (by omega))
 ·rintro m x hI
  show Ok (state_runs_l1 e s.Tenants _ (m + 1) _) _
  rw [state_runs_l1]
  simp (disch := omega) only [condF]
  have : s.Tenants.any (busyB e) = false := by
   cases hq : s.Tenants.any (busyB e) with
   | false => rfl
   | true => obtain ⟨k, hk, hp⟩ := (any_get _ _).1 hq; rw [hI k hk] at hp; cases hp
  rw [this]; exact Ok.some rfl
theorem runs_p [Fuel] (h : VC c) (hv : VS c s) (ce : cOk c e) (n : vOk c e) : Ok (state_runs s e) (fun x => runsS (bump s e) e = outS x (setC (bump s e) e.Cell { cAt s e.Cell with Running := e.N, Since := e.Tick }, 0)) := by
 have h2 := clen hv ce
 have hp := hv.prov
 have htl := hv.tl
 have htl2 := h.tl
 unfold state_runs state_runs_k2 runsS
 have c0 : ∀ i, cAt (bump s e) i = cAt s i := fun _ => rfl
 have hg2 : (s.Cells.getD e.Cell.toNat default) = cAt s e.Cell := rfl
 rw [ixL_ok h2.1 h2.2, hg2]
 dsimp only
 rw [c0, runs_l1 (by omega)]
 simp only [Option.bind_some, st_has hp]
 have p0 : provenB (bump s e) e.N = hasB s.Proven e.N := rfl
 have q0 : (bump s e).Tenants = s.Tenants := rfl
 have q1 : (bump s e).Evacuating = s.Evacuating := rfl
 rw [p0, q0, q1]
 have r0 : (e.N != (cAt s e.Cell).Wanted) = ((cAt s e.Cell).Wanted != e.N) := by rw [Bool.eq_iff_iff]; simp only [bne_iff_ne, ne_eq]; exact ⟨fun a b => a b.symm, fun a b => a b.symm⟩
 rw [r0]
 cases ((cAt s e.Cell).Wanted != e.N) with
 | true => exact Ok.some rfl
 | false =>
  cases ((cAt s e.Cell).Running == (cAt s e.Cell).Wanted) with
  | true => exact Ok.some rfl
  | false =>
   cases hasB s.Proven e.N with
   | true => cases s.Tenants.any (busyB e) <;> exact Ok.some rfl
   | false =>
    cases (s.Evacuating != 0) with
    | true => exact Ok.some rfl
    | false => cases s.Tenants.any (busyB e) <;> exact Ok.some rfl
theorem prove_l1 [Fuel] (h : VC c) (hv : VS c s) (hk : 0 ≤ e.Tick ∧ e.Tick ≤ 1073741824) : state_prove_l1 c e s.Cells ((s.Cells.length : Nat) : Int) fuel 0 = some (bif s.Cells.any (bakedB c e) then 0 else 15) := by
 apply eqOk
 have hcl := hv.cl
 have hcl2 := h.cl
 refine loop0 (L := fun m (_ : Unit) i => state_prove_l1 c e s.Cells ((s.Cells.length : Nat) : Int) m i) (x := ()) s.Cells.length (by omega) (fun k _ => ∀ j, j < k → bakedB c e (s.Cells.getD j default) = false) (fun j hj => by omega) ?_ ?_
 ·rintro m k x hk2 hI ih
  show Ok (state_prove_l1 c e s.Cells _ (m + 1) k) _
  have hC := (hv.cel _ (getD_mem hk2)).sin
  rw [state_prove_l1]
  simp (disch := omega) only [condT, ixL_ok, Int.toNat_natCast, w64_eq]
  show Ok (bif bakedB c e (s.Cells.getD k default) then _ else _) _
  cases hb : bakedB c e (s.Cells.getD k default) with
  | true =>
   have : s.Cells.any (bakedB c e) = true := (any_get _ _).2 ⟨k, hk2, hb⟩
   rw [this]; exact Ok.some rfl
  | false =>
   exact ih () (fun j hj => by
    by_cases q : j = k
    ·exact q ▸ hb
    ·exact hI j (by omega))
 ·rintro m x hI
  show Ok (state_prove_l1 c e s.Cells _ (m + 1) _) _
  rw [state_prove_l1]
  simp (disch := omega) only [condF]
  have : s.Cells.any (bakedB c e) = false := by
   cases hq : s.Cells.any (bakedB c e) with
   | false => rfl
   | true => obtain ⟨k, hk, hp⟩ := (any_get _ _).1 hq; rw [hI k hk] at hp; cases hp
  rw [this]; exact Ok.some rfl
theorem prove_p [Fuel] (h : VC c) (hv : VS c s) (hk : 0 ≤ e.Tick ∧ e.Tick ≤ 1073741824) : Ok (state_prove c s e) (fun x => proveS c (bump s e) e = outS x ({ bump s e with Proven := orK .i64 s.Proven (shlK .i64 1 (IntKind.u64.wrap e.N)) }, 0)) := by
 have hp := hv.prov
 unfold state_prove proveS
 rw [prove_l1 h hv hk]
 simp only [Option.bind_some, st_has hp]
 have p0 : provenB (bump s e) e.N = hasB s.Proven e.N := rfl
 have q0 : (bump s e).Cells = s.Cells := rfl
 rw [p0, q0]
 cases hasB s.Proven e.N with
 | true => exact Ok.some rfl
 | false => cases s.Cells.any (bakedB c e) <;> exact Ok.some rfl
theorem expand_l1 [Fuel] (h : VC c) (hv : VS c s) : state_expand_l1 c s s.Cells ((s.Cells.length : Nat) : Int) fuel 0 = some (bif s.Cells.any (oldB c s) then 13 else 0) := by
 apply eqOk
 have hcl := hv.cl
 have hcl2 := h.cl
 refine loop0 (L := fun m (_ : Unit) i => state_expand_l1 c s s.Cells ((s.Cells.length : Nat) : Int) m i) (x := ()) s.Cells.length (by omega) (fun k _ => ∀ j, j < k → oldB c s (s.Cells.getD j default) = false) (fun j hj => by omega) ?_ ?_
 ·rintro m k x hk2 hI ih
  show Ok (state_expand_l1 c s s.Cells _ (m + 1) k) _
  have hC := hv.cel _ (getD_mem hk2)
  rw [state_expand_l1]
  simp (disch := omega) only [condT, ixL_ok, Int.toNat_natCast, w64_eq, st_ver hC.run, st_ver hC.wan, Option.bind_some, bifS]
  have e1 : (decide ((c.Versions.getD (s.Cells.getD k default).Running.toNat default).High ≤ s.High) || decide ((bif !decide ((c.Versions.getD (s.Cells.getD k default).Running.toNat default).High ≤ s.High) then c.Versions.getD (s.Cells.getD k default).Wanted.toNat default else default).High ≤ s.High)) = oldB c s (s.Cells.getD k default) := by
   unfold oldB
   cases decide ((c.Versions.getD (s.Cells.getD k default).Running.toNat default).High ≤ s.High) <;> rfl
  rw [e1]
  cases hb : oldB c s (s.Cells.getD k default) with
  | true =>
   have : s.Cells.any (oldB c s) = true := (any_get _ _).2 ⟨k, hk2, hb⟩
   rw [this]; exact Ok.some rfl
  | false =>
   exact ih () (fun j hj => by
    by_cases q : j = k
    ·exact q ▸ hb
    ·exact hI j (by omega))
 ·rintro m x hI
  show Ok (state_expand_l1 c s s.Cells _ (m + 1) _) _
  rw [state_expand_l1]
  simp (disch := omega) only [condF]
  have : s.Cells.any (oldB c s) = false := by
   cases hq : s.Cells.any (oldB c s) with
   | false => rfl
   | true => obtain ⟨k, hk, hp⟩ := (any_get _ _).1 hq; rw [hI k hk] at hp; cases hp
  rw [this]; exact Ok.some rfl
theorem expand_p [Fuel] (h : VC c) (hv : VS c s) : Ok (state_expand c s) (fun x => expandS c (bump s e) = outS x ({ bump s e with High := s.High + 1 }, 0)) := by
 unfold state_expand expandS
 rw [expand_l1 h hv]
 have q0 : (bump s e).Cells.any (oldB c (bump s e)) = s.Cells.any (oldB c s) := rfl
 have q2 : (bump s e).Low = s.Low := rfl
 have q3 : (bump s e).High = s.High := rfl
 rw [q0, q2, q3]
 cases decide (s.Low < s.High) with
 | true => exact Ok.some rfl
 | false =>
  cases decide (30 ≤ s.High) with
  | true => exact Ok.some rfl
  | false => cases s.Cells.any (oldB c s) <;> exact Ok.some rfl
theorem contract_p [Fuel] : Ok (state_contract s) (fun x => contractS (bump s e) = outS x ({ bump s e with Low := s.High }, 0)) := by
 unfold state_contract contractS
 have q2 : (bump s e).Low = s.Low := rfl
 have q3 : (bump s e).High = s.High := rfl
 rw [q2, q3]
 cases (s.High == s.Low) <;> exact Ok.some rfl
theorem evac_p [Fuel] (hv : VS c s) : Ok (state_evacuate s e) (fun x => evacS (bump s e) e = outS x ({ bump s e with Evacuating := xorK .i64 s.Evacuating (shlK .i64 1 (IntKind.u64.wrap e.Other)) }, 0)) := by
 have hp := hv.evac
 unfold state_evacuate evacS
 rw [st_has (by omega)]
 simp only [Option.bind_some]
 have q1 : (bump s e).Evacuating = s.Evacuating := rfl
 rw [q1]
 cases (hasB s.Evacuating e.Other == (e.N == 1)) <;> exact Ok.some rfl
theorem evac_bits [Fuel] {a n : Int} (ha : 0 ≤ a ∧ a < 8) (hn : 0 ≤ n ∧ n < 3) :
  (hasB a n = false → orK .i64 a (shlK .i64 1 n) = xorK .i64 a (shlK .i64 1 (IntKind.u64.wrap n))) ∧ (hasB a n = true → andNotK .i64 a (shlK .i64 1 n) = xorK .i64 a (shlK .i64 1 (IntKind.u64.wrap n))) := by
 have h1 : a = 0 ∨ a = 1 ∨ a = 2 ∨ a = 3 ∨ a = 4 ∨ a = 5 ∨ a = 6 ∨ a = 7 := by omega
 have h2 : n = 0 ∨ n = 1 ∨ n = 2 := by omega
 rcases h1 with rfl | rfl | rfl | rfl | rfl | rfl | rfl | rfl <;> rcases h2 with rfl | rfl | rfl <;> decide
end
end Go.CP
namespace Go.CP
open Go
set_option linter.unusedSimpArgs false
set_option linter.unusedVariables false
section
variable {c : ApiConfig} {s : ApiState}
theorem load_over_l [Fuel] (h : VC c) {b : List Int} (hl : b.length = c.Cells.length) : ∀ (m k : Nat), c.Cells.length - k < m → k ≤ c.Cells.length → load_Over_l2 c b ((b.length : Nat) : Int) m (overF c b k) (k : Int) = some (overF c b c.Cells.length)
 | 0, _, hm, _ => absurd hm (Nat.not_lt_zero _)
 | m + 1, k, hm, hk => by
  have hcl := h.cl
  have hol := overF_len c b k
  rw [load_Over_l2]; (try simp only [ixL_b, letD])
  by_cases hlt : k < c.Cells.length
  ·have i1 : 0 ≤ (k : Int) ∧ (k : Int) < ((b.length : Nat) : Int) := by omega
   have i2 : 0 ≤ (k : Int) ∧ (k : Int) < ((c.Cells.length : Nat) : Int) := by omega
   rw [decide_eq_true i1.2]
   simp only [cond_true, idx_eq i1, idx_eq i2, Option.bind_some, Int.toNat_natCast]
   have next : load_Over_l2 c b ((b.length : Nat) : Int) m (overF c b (k + 1)) (w64 ((k : Int) + 1)) = some (overF c b c.Cells.length) := by
    rw [w64_eq (by omega) (by omega)]
    have := load_over_l h hl m (k + 1) (by omega) (by omega)
    simpa using this
   simp only [overF] at next
   unfold load_Over_k1; (try simp only [ixL_b, letD])
   have e0 : b.getD k 0 = b.getD k default := rfl
   rw [e0] at next
   by_cases hc : (c.Cells.getD k default).Capacity < b.getD k default
   ·rw [if_pos hc] at next
    rw [decide_eq_true hc, decide_eq_true (show ((overF c b k).length + [(k : Int)].length) * 8 ≤ 140737488355328 by simp; omega)]
    exact next
   ·rw [if_neg hc] at next
    rw [decide_eq_false hc]
    exact next
  ·rw [decide_eq_false (show ¬ (k : Int) < ((b.length : Nat) : Int) by omega)]
   have : k = c.Cells.length := by omega
   subst this; rfl
theorem load_over [Fuel] (h : VC c) (hl : s.Tenants.length = c.Tenants.length) : load_Over c s = some (overS c s) := by
 have hcl := h.cl
 unfold load_Over overS; (try simp only [ixL_b, letD])
 rw [load_booked h hl]
 have := load_over_l h (booked_len c s) fuel 0 (by rw [fuel_eq]; omega) (by omega)
 simpa [overF] using this
end
end Go.CP
