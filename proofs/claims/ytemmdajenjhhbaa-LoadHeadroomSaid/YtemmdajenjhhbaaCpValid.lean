/- Which entries are right. -/
import Derived.Test.YtemmdajenjhhbaaCpSpec
namespace Go.CP
open Go
set_option linter.unusedSimpArgs false
set_option linter.unusedVariables false
theorem has_1_116 : ref06_has 1 116 = some true := by rfl
theorem has_1_99 : ref06_has 1 99 = some true := by rfl
theorem has_1_67 : ref06_has 1 67 = some false := by rfl
theorem has_1_111 : ref06_has 1 111 = some true := by rfl
theorem has_1_114 : ref06_has 1 114 = some false := by rfl
theorem has_1_101 : ref06_has 1 101 = some false := by rfl
theorem has_1_119 : ref06_has 1 119 = some false := by rfl
theorem has_1_118 : ref06_has 1 118 = some false := by rfl
theorem has_1_98 : ref06_has 1 98 = some false := by rfl
theorem has_1_109 : ref06_has 1 109 = some false := by rfl
theorem has_1_110 : ref06_has 1 110 = some false := by rfl
theorem has_2_116 : ref06_has 2 116 = some true := by rfl
theorem has_2_99 : ref06_has 2 99 = some true := by rfl
theorem has_2_67 : ref06_has 2 67 = some false := by rfl
theorem has_2_111 : ref06_has 2 111 = some false := by rfl
theorem has_2_114 : ref06_has 2 114 = some false := by rfl
theorem has_2_101 : ref06_has 2 101 = some true := by rfl
theorem has_2_119 : ref06_has 2 119 = some true := by rfl
theorem has_2_118 : ref06_has 2 118 = some true := by rfl
theorem has_2_98 : ref06_has 2 98 = some false := by rfl
theorem has_2_109 : ref06_has 2 109 = some false := by rfl
theorem has_2_110 : ref06_has 2 110 = some false := by rfl
theorem has_3_116 : ref06_has 3 116 = some true := by rfl
theorem has_3_99 : ref06_has 3 99 = some false := by rfl
theorem has_3_67 : ref06_has 3 67 = some false := by rfl
theorem has_3_111 : ref06_has 3 111 = some false := by rfl
theorem has_3_114 : ref06_has 3 114 = some false := by rfl
theorem has_3_101 : ref06_has 3 101 = some true := by rfl
theorem has_3_119 : ref06_has 3 119 = some false := by rfl
theorem has_3_118 : ref06_has 3 118 = some false := by rfl
theorem has_3_98 : ref06_has 3 98 = some false := by rfl
theorem has_3_109 : ref06_has 3 109 = some false := by rfl
theorem has_3_110 : ref06_has 3 110 = some false := by rfl
theorem has_4_116 : ref06_has 4 116 = some true := by rfl
theorem has_4_99 : ref06_has 4 99 = some false := by rfl
theorem has_4_67 : ref06_has 4 67 = some true := by rfl
theorem has_4_111 : ref06_has 4 111 = some false := by rfl
theorem has_4_114 : ref06_has 4 114 = some false := by rfl
theorem has_4_101 : ref06_has 4 101 = some false := by rfl
theorem has_4_119 : ref06_has 4 119 = some false := by rfl
theorem has_4_118 : ref06_has 4 118 = some false := by rfl
theorem has_4_98 : ref06_has 4 98 = some false := by rfl
theorem has_4_109 : ref06_has 4 109 = some false := by rfl
theorem has_4_110 : ref06_has 4 110 = some false := by rfl
theorem has_5_116 : ref06_has 5 116 = some true := by rfl
theorem has_5_99 : ref06_has 5 99 = some true := by rfl
theorem has_5_67 : ref06_has 5 67 = some false := by rfl
theorem has_5_111 : ref06_has 5 111 = some false := by rfl
theorem has_5_114 : ref06_has 5 114 = some false := by rfl
theorem has_5_101 : ref06_has 5 101 = some false := by rfl
theorem has_5_119 : ref06_has 5 119 = some false := by rfl
theorem has_5_118 : ref06_has 5 118 = some false := by rfl
theorem has_5_98 : ref06_has 5 98 = some false := by rfl
theorem has_5_109 : ref06_has 5 109 = some false := by rfl
theorem has_5_110 : ref06_has 5 110 = some false := by rfl
theorem has_6_116 : ref06_has 6 116 = some true := by rfl
theorem has_6_99 : ref06_has 6 99 = some true := by rfl
theorem has_6_67 : ref06_has 6 67 = some false := by rfl
theorem has_6_111 : ref06_has 6 111 = some false := by rfl
theorem has_6_114 : ref06_has 6 114 = some false := by rfl
theorem has_6_101 : ref06_has 6 101 = some false := by rfl
theorem has_6_119 : ref06_has 6 119 = some false := by rfl
theorem has_6_118 : ref06_has 6 118 = some false := by rfl
theorem has_6_98 : ref06_has 6 98 = some false := by rfl
theorem has_6_109 : ref06_has 6 109 = some false := by rfl
theorem has_6_110 : ref06_has 6 110 = some false := by rfl
theorem has_7_116 : ref06_has 7 116 = some true := by rfl
theorem has_7_99 : ref06_has 7 99 = some false := by rfl
theorem has_7_67 : ref06_has 7 67 = some false := by rfl
theorem has_7_111 : ref06_has 7 111 = some false := by rfl
theorem has_7_114 : ref06_has 7 114 = some false := by rfl
theorem has_7_101 : ref06_has 7 101 = some false := by rfl
theorem has_7_119 : ref06_has 7 119 = some false := by rfl
theorem has_7_118 : ref06_has 7 118 = some false := by rfl
theorem has_7_98 : ref06_has 7 98 = some false := by rfl
theorem has_7_109 : ref06_has 7 109 = some false := by rfl
theorem has_7_110 : ref06_has 7 110 = some false := by rfl
theorem has_8_116 : ref06_has 8 116 = some true := by rfl
theorem has_8_99 : ref06_has 8 99 = some false := by rfl
theorem has_8_67 : ref06_has 8 67 = some false := by rfl
theorem has_8_111 : ref06_has 8 111 = some false := by rfl
theorem has_8_114 : ref06_has 8 114 = some false := by rfl
theorem has_8_101 : ref06_has 8 101 = some false := by rfl
theorem has_8_119 : ref06_has 8 119 = some false := by rfl
theorem has_8_118 : ref06_has 8 118 = some false := by rfl
theorem has_8_98 : ref06_has 8 98 = some true := by rfl
theorem has_8_109 : ref06_has 8 109 = some false := by rfl
theorem has_8_110 : ref06_has 8 110 = some false := by rfl
theorem has_9_116 : ref06_has 9 116 = some false := by rfl
theorem has_9_99 : ref06_has 9 99 = some true := by rfl
theorem has_9_67 : ref06_has 9 67 = some false := by rfl
theorem has_9_111 : ref06_has 9 111 = some false := by rfl
theorem has_9_114 : ref06_has 9 114 = some false := by rfl
theorem has_9_101 : ref06_has 9 101 = some false := by rfl
theorem has_9_119 : ref06_has 9 119 = some false := by rfl
theorem has_9_118 : ref06_has 9 118 = some false := by rfl
theorem has_9_98 : ref06_has 9 98 = some false := by rfl
theorem has_9_109 : ref06_has 9 109 = some true := by rfl
theorem has_9_110 : ref06_has 9 110 = some false := by rfl
theorem has_10_116 : ref06_has 10 116 = some false := by rfl
theorem has_10_99 : ref06_has 10 99 = some true := by rfl
theorem has_10_67 : ref06_has 10 67 = some false := by rfl
theorem has_10_111 : ref06_has 10 111 = some false := by rfl
theorem has_10_114 : ref06_has 10 114 = some false := by rfl
theorem has_10_101 : ref06_has 10 101 = some false := by rfl
theorem has_10_119 : ref06_has 10 119 = some false := by rfl
theorem has_10_118 : ref06_has 10 118 = some true := by rfl
theorem has_10_98 : ref06_has 10 98 = some false := by rfl
theorem has_10_109 : ref06_has 10 109 = some false := by rfl
theorem has_10_110 : ref06_has 10 110 = some false := by rfl
theorem has_11_116 : ref06_has 11 116 = some false := by rfl
theorem has_11_99 : ref06_has 11 99 = some true := by rfl
theorem has_11_67 : ref06_has 11 67 = some false := by rfl
theorem has_11_111 : ref06_has 11 111 = some false := by rfl
theorem has_11_114 : ref06_has 11 114 = some false := by rfl
theorem has_11_101 : ref06_has 11 101 = some false := by rfl
theorem has_11_119 : ref06_has 11 119 = some false := by rfl
theorem has_11_118 : ref06_has 11 118 = some true := by rfl
theorem has_11_98 : ref06_has 11 98 = some false := by rfl
theorem has_11_109 : ref06_has 11 109 = some false := by rfl
theorem has_11_110 : ref06_has 11 110 = some false := by rfl
theorem has_12_116 : ref06_has 12 116 = some false := by rfl
theorem has_12_99 : ref06_has 12 99 = some false := by rfl
theorem has_12_67 : ref06_has 12 67 = some false := by rfl
theorem has_12_111 : ref06_has 12 111 = some false := by rfl
theorem has_12_114 : ref06_has 12 114 = some false := by rfl
theorem has_12_101 : ref06_has 12 101 = some false := by rfl
theorem has_12_119 : ref06_has 12 119 = some false := by rfl
theorem has_12_118 : ref06_has 12 118 = some true := by rfl
theorem has_12_98 : ref06_has 12 98 = some false := by rfl
theorem has_12_109 : ref06_has 12 109 = some false := by rfl
theorem has_12_110 : ref06_has 12 110 = some false := by rfl
theorem has_13_116 : ref06_has 13 116 = some false := by rfl
theorem has_13_99 : ref06_has 13 99 = some false := by rfl
theorem has_13_67 : ref06_has 13 67 = some false := by rfl
theorem has_13_111 : ref06_has 13 111 = some false := by rfl
theorem has_13_114 : ref06_has 13 114 = some true := by rfl
theorem has_13_101 : ref06_has 13 101 = some false := by rfl
theorem has_13_119 : ref06_has 13 119 = some false := by rfl
theorem has_13_118 : ref06_has 13 118 = some false := by rfl
theorem has_13_98 : ref06_has 13 98 = some true := by rfl
theorem has_13_109 : ref06_has 13 109 = some false := by rfl
theorem has_13_110 : ref06_has 13 110 = some false := by rfl
theorem has_14_116 : ref06_has 14 116 = some false := by rfl
theorem has_14_99 : ref06_has 14 99 = some false := by rfl
theorem has_14_67 : ref06_has 14 67 = some false := by rfl
theorem has_14_111 : ref06_has 14 111 = some false := by rfl
theorem has_14_114 : ref06_has 14 114 = some false := by rfl
theorem has_14_101 : ref06_has 14 101 = some false := by rfl
theorem has_14_119 : ref06_has 14 119 = some false := by rfl
theorem has_14_118 : ref06_has 14 118 = some false := by rfl
theorem has_14_98 : ref06_has 14 98 = some false := by rfl
theorem has_14_109 : ref06_has 14 109 = some false := by rfl
theorem has_14_110 : ref06_has 14 110 = some false := by rfl
theorem has_15_116 : ref06_has 15 116 = some false := by rfl
theorem has_15_99 : ref06_has 15 99 = some false := by rfl
theorem has_15_67 : ref06_has 15 67 = some false := by rfl
theorem has_15_111 : ref06_has 15 111 = some false := by rfl
theorem has_15_114 : ref06_has 15 114 = some false := by rfl
theorem has_15_101 : ref06_has 15 101 = some false := by rfl
theorem has_15_119 : ref06_has 15 119 = some false := by rfl
theorem has_15_118 : ref06_has 15 118 = some false := by rfl
theorem has_15_98 : ref06_has 15 98 = some false := by rfl
theorem has_15_109 : ref06_has 15 109 = some false := by rfl
theorem has_15_110 : ref06_has 15 110 = some false := by rfl
theorem has_16_116 : ref06_has 16 116 = some false := by rfl
theorem has_16_99 : ref06_has 16 99 = some false := by rfl
theorem has_16_67 : ref06_has 16 67 = some false := by rfl
theorem has_16_111 : ref06_has 16 111 = some false := by rfl
theorem has_16_114 : ref06_has 16 114 = some false := by rfl
theorem has_16_101 : ref06_has 16 101 = some false := by rfl
theorem has_16_119 : ref06_has 16 119 = some false := by rfl
theorem has_16_118 : ref06_has 16 118 = some false := by rfl
theorem has_16_98 : ref06_has 16 98 = some false := by rfl
theorem has_16_109 : ref06_has 16 109 = some false := by rfl
theorem has_16_110 : ref06_has 16 110 = some true := by rfl
def tOk (c : ApiConfig) (e : ApiEntry) : Prop := 0 ≤ e.Tenant ∧ e.Tenant < (c.Tenants.length : Int)
def cOk (c : ApiConfig) (e : ApiEntry) : Prop := 0 ≤ e.Cell ∧ e.Cell < (c.Cells.length : Int)
def oN (e : ApiEntry) : Prop := e.Other = -1
def eN (e : ApiEntry) : Prop := e.Epoch = 0 ∧ e.From = 0 ∧ e.Until = 0
def vOk (c : ApiConfig) (e : ApiEntry) : Prop := 0 ≤ e.N ∧ e.N < (c.Versions.length : Int)
inductive KindP (c : ApiConfig) (e : ApiEntry) : Prop
  | place (k : e.Kind = 1) (t : tOk c e) (ce : cOk c e) (o : -1 ≤ e.Other ∧ e.Other < (c.Cells.length : Int) ∧ e.Other ≠ e.Cell) (w : eN e) (n : e.N = 0)
  | grant (k : e.Kind = 2) (t : tOk c e) (ce : cOk c e) (o : oN e) (ep : 1 ≤ e.Epoch ∧ e.Epoch ≤ 1048576) (w : 0 ≤ e.From ∧ e.From ≤ 1073741824 ∧ 0 ≤ e.Until ∧ e.Until ≤ 1073741824) (n : vOk c e)
  | cut (k : e.Kind = 3) (t : tOk c e) (ce : e.Cell = -1) (o : oN e) (ep : 1 ≤ e.Epoch ∧ e.Epoch ≤ 1048576) (w : e.From = 0 ∧ e.Until = 0) (n : e.N = 0)
  | standby (k : e.Kind = 4) (t : tOk c e) (ce : -1 ≤ e.Cell ∧ e.Cell < (c.Cells.length : Int)) (o : oN e) (w : eN e) (n : e.N = 0)
  | ready (k : e.Kind = 5) (t : tOk c e) (ce : cOk c e) (o : oN e) (w : eN e) (n : e.N = 0)
  | migrate (k : e.Kind = 6) (t : tOk c e) (ce : cOk c e) (o : oN e) (w : eN e) (n : e.N = 0)
  | abandon (k : e.Kind = 7) (t : tOk c e) (ce : e.Cell = -1) (o : oN e) (w : eN e) (n : e.N = 0)
  | shed (k : e.Kind = 8) (t : tOk c e) (ce : e.Cell = -1) (o : oN e) (w : eN e) (n : e.N = 0 ∨ e.N = 1)
  | mode (k : e.Kind = 9) (t : e.Tenant = -1) (ce : cOk c e) (o : oN e) (w : eN e) (n : 1 ≤ e.N ∧ e.N ≤ 3)
  | want (k : e.Kind = 10) (t : e.Tenant = -1) (ce : cOk c e) (o : oN e) (w : eN e) (n : vOk c e)
  | runs (k : e.Kind = 11) (t : e.Tenant = -1) (ce : cOk c e) (o : oN e) (w : eN e) (n : vOk c e)
  | prove (k : e.Kind = 12) (t : e.Tenant = -1) (ce : e.Cell = -1) (o : oN e) (w : eN e) (n : vOk c e)
  | evac (k : e.Kind = 13) (t : e.Tenant = -1) (ce : e.Cell = -1) (o : 0 ≤ e.Other ∧ e.Other < c.Regions) (w : eN e) (n : e.N = 0 ∨ e.N = 1)
  | expand (k : e.Kind = 14) (t : e.Tenant = -1) (ce : e.Cell = -1) (o : oN e) (w : eN e) (n : e.N = 0)
  | contract (k : e.Kind = 15) (t : e.Tenant = -1) (ce : e.Cell = -1) (o : oN e) (w : eN e) (n : e.N = 0)
  | note (k : e.Kind = 16) (t : e.Tenant = -1) (ce : e.Cell = -1) (o : oN e) (w : eN e) (n : 0 ≤ e.N ∧ e.N ≤ 1073741824)
def ValidP (c : ApiConfig) (e : ApiEntry) : Prop := (0 ≤ e.Tick ∧ e.Tick ≤ 1073741824) ∧ KindP c e
section
variable {c : ApiConfig} {e : ApiEntry}
theorem bT {p : Prop} [Decidable p] {b : Bool} (h : b = decide p) : b = true ↔ p := by rw [h]; exact decide_eq_true_iff
theorem core_1 (h : VC c) (hk : e.Kind = 1) : (Option.bind (ref06_places e ((c.Tenants.length : Nat) : Int) ((c.Cells.length : Nat) : Int) c.Regions) fun x8 => Option.bind (bif x8 then ref06_numbers e ((c.Versions.length : Nat) : Int) else some default) fun x9 => some (x8 && x9)) = some ((e.Tenant != (-1)) && (decide (0 ≤ e.Tenant) && decide (e.Tenant ≤ ((c.Tenants.length : Nat) : Int) - 1)) && (decide (0 ≤ e.Cell) && decide (e.Cell ≤ ((c.Cells.length : Nat) : Int) - 1)) && (decide (-1 ≤ e.Other) && decide (e.Other ≤ ((c.Cells.length : Nat) : Int) - 1)) && !(e.Other == e.Cell) && !(e.Epoch != 0) && !(e.From != 0) && !(e.Until != 0) && (e.N == 0)) := by
  have htl := h.tl; have hcl := h.cl; have hvl := h.vl; have hreg := h.reg
  unfold ref06_places ref06_places_k2 ref06_places_k1 ref06_numbers ref06_numbers_k2 ref06_numbers_k1
  rw [w64_eq (x := ((c.Tenants.length : Nat) : Int) - 1) (by omega) (by omega), w64_eq (x := ((c.Cells.length : Nat) : Int) - 1) (by omega) (by omega), w64_eq (x := c.Regions - 1) (by omega) (by omega), w64_eq (x := ((c.Versions.length : Nat) : Int) - 1) (by omega) (by omega)]
  simp only [hk, has_1_116, has_1_99, has_1_67, has_1_111, has_1_114, has_1_101, has_1_119, has_1_118, has_1_98, has_1_109, has_1_110, ref06_in, Option.bind_some, cond_true, cond_false, show (default : Bool) = false from rfl, Bool.not_true, Bool.not_false, Bool.true_and, Bool.false_and, Bool.and_true, Bool.and_false, Bool.or_true, Bool.true_or, Bool.false_or, Bool.or_false]
  generalize (e.Tenant != (-1)) = a0
  generalize (decide (0 ≤ e.Tenant) && decide (e.Tenant ≤ ((c.Tenants.length : Nat) : Int) - 1)) = a1
  generalize (decide (0 ≤ e.Cell) && decide (e.Cell ≤ ((c.Cells.length : Nat) : Int) - 1)) = a2
  generalize (decide (-1 ≤ e.Other) && decide (e.Other ≤ ((c.Cells.length : Nat) : Int) - 1)) = a3
  generalize (e.Other == e.Cell) = a4
  generalize (e.Epoch != 0) = a5
  generalize (e.From != 0) = a6
  generalize (e.Until != 0) = a7
  generalize (e.N == 0) = a8
  revert a0 a1 a2 a3 a4 a5 a6 a7 a8
  decide
theorem kind_1 (h : VC c) (hk : e.Kind = 1) : ((e.Tenant != (-1)) && (decide (0 ≤ e.Tenant) && decide (e.Tenant ≤ ((c.Tenants.length : Nat) : Int) - 1)) && (decide (0 ≤ e.Cell) && decide (e.Cell ≤ ((c.Cells.length : Nat) : Int) - 1)) && (decide (-1 ≤ e.Other) && decide (e.Other ≤ ((c.Cells.length : Nat) : Int) - 1)) && !(e.Other == e.Cell) && !(e.Epoch != 0) && !(e.From != 0) && !(e.Until != 0) && (e.N == 0)) = true ↔ KindP c e := by
  simp only [Bool.and_eq_true, decide_eq_true_eq, Bool.not_eq_true', bne_iff_ne, ne_eq, beq_iff_eq, beq_eq_false_iff_ne, bne_eq_false_iff_eq]
  constructor
  · intro q
    refine .place hk ?_ ?_ ?_ ?_ ?_ <;> first | (simp only [tOk, cOk, oN, eN, vOk]; omega) | omega
  · intro q
    cases q <;> simp only [tOk, cOk, oN, eN, vOk] at * <;> omega
theorem core_2 (h : VC c) (hk : e.Kind = 2) : (Option.bind (ref06_places e ((c.Tenants.length : Nat) : Int) ((c.Cells.length : Nat) : Int) c.Regions) fun x8 => Option.bind (bif x8 then ref06_numbers e ((c.Versions.length : Nat) : Int) else some default) fun x9 => some (x8 && x9)) = some ((e.Tenant != (-1)) && (decide (0 ≤ e.Tenant) && decide (e.Tenant ≤ ((c.Tenants.length : Nat) : Int) - 1)) && (decide (0 ≤ e.Cell) && decide (e.Cell ≤ ((c.Cells.length : Nat) : Int) - 1)) && !(e.Other != (-1)) && (decide (1 ≤ e.Epoch) && decide (e.Epoch ≤ 1048576)) && (decide (0 ≤ e.From) && decide (e.From ≤ 1073741824)) && (decide (0 ≤ e.Until) && decide (e.Until ≤ 1073741824)) && (decide (0 ≤ e.N) && decide (e.N ≤ ((c.Versions.length : Nat) : Int) - 1))) := by
  have htl := h.tl; have hcl := h.cl; have hvl := h.vl; have hreg := h.reg
  unfold ref06_places ref06_places_k2 ref06_places_k1 ref06_numbers ref06_numbers_k2 ref06_numbers_k1
  rw [w64_eq (x := ((c.Tenants.length : Nat) : Int) - 1) (by omega) (by omega), w64_eq (x := ((c.Cells.length : Nat) : Int) - 1) (by omega) (by omega), w64_eq (x := c.Regions - 1) (by omega) (by omega), w64_eq (x := ((c.Versions.length : Nat) : Int) - 1) (by omega) (by omega)]
  simp only [hk, has_2_116, has_2_99, has_2_67, has_2_111, has_2_114, has_2_101, has_2_119, has_2_118, has_2_98, has_2_109, has_2_110, ref06_in, Option.bind_some, cond_true, cond_false, show (default : Bool) = false from rfl, Bool.not_true, Bool.not_false, Bool.true_and, Bool.false_and, Bool.and_true, Bool.and_false, Bool.or_true, Bool.true_or, Bool.false_or, Bool.or_false]
  generalize (e.Tenant != (-1)) = a0
  generalize (decide (0 ≤ e.Tenant) && decide (e.Tenant ≤ ((c.Tenants.length : Nat) : Int) - 1)) = a1
  generalize (decide (0 ≤ e.Cell) && decide (e.Cell ≤ ((c.Cells.length : Nat) : Int) - 1)) = a2
  generalize (e.Other != (-1)) = a3
  generalize (decide (1 ≤ e.Epoch) && decide (e.Epoch ≤ 1048576)) = a5
  generalize (decide (0 ≤ e.From) && decide (e.From ≤ 1073741824)) = a6
  generalize (decide (0 ≤ e.Until) && decide (e.Until ≤ 1073741824)) = a7
  generalize (decide (0 ≤ e.N) && decide (e.N ≤ ((c.Versions.length : Nat) : Int) - 1)) = a8
  revert a0 a1 a2 a3 a5 a6 a7 a8
  decide
theorem kind_2 (h : VC c) (hk : e.Kind = 2) : ((e.Tenant != (-1)) && (decide (0 ≤ e.Tenant) && decide (e.Tenant ≤ ((c.Tenants.length : Nat) : Int) - 1)) && (decide (0 ≤ e.Cell) && decide (e.Cell ≤ ((c.Cells.length : Nat) : Int) - 1)) && !(e.Other != (-1)) && (decide (1 ≤ e.Epoch) && decide (e.Epoch ≤ 1048576)) && (decide (0 ≤ e.From) && decide (e.From ≤ 1073741824)) && (decide (0 ≤ e.Until) && decide (e.Until ≤ 1073741824)) && (decide (0 ≤ e.N) && decide (e.N ≤ ((c.Versions.length : Nat) : Int) - 1))) = true ↔ KindP c e := by
  simp only [Bool.and_eq_true, decide_eq_true_eq, Bool.not_eq_true', bne_iff_ne, ne_eq, beq_iff_eq, beq_eq_false_iff_ne, bne_eq_false_iff_eq]
  constructor
  · intro q
    refine .grant hk ?_ ?_ ?_ ?_ ?_ ?_ <;> first | (simp only [tOk, cOk, oN, eN, vOk]; omega) | omega
  · intro q
    cases q <;> simp only [tOk, cOk, oN, eN, vOk] at * <;> omega
theorem core_3 (h : VC c) (hk : e.Kind = 3) : (Option.bind (ref06_places e ((c.Tenants.length : Nat) : Int) ((c.Cells.length : Nat) : Int) c.Regions) fun x8 => Option.bind (bif x8 then ref06_numbers e ((c.Versions.length : Nat) : Int) else some default) fun x9 => some (x8 && x9)) = some ((e.Tenant != (-1)) && (decide (0 ≤ e.Tenant) && decide (e.Tenant ≤ ((c.Tenants.length : Nat) : Int) - 1)) && !(e.Cell != (-1)) && !(e.Other != (-1)) && (decide (1 ≤ e.Epoch) && decide (e.Epoch ≤ 1048576)) && !(e.From != 0) && !(e.Until != 0) && (e.N == 0)) := by
  have htl := h.tl; have hcl := h.cl; have hvl := h.vl; have hreg := h.reg
  unfold ref06_places ref06_places_k2 ref06_places_k1 ref06_numbers ref06_numbers_k2 ref06_numbers_k1
  rw [w64_eq (x := ((c.Tenants.length : Nat) : Int) - 1) (by omega) (by omega), w64_eq (x := ((c.Cells.length : Nat) : Int) - 1) (by omega) (by omega), w64_eq (x := c.Regions - 1) (by omega) (by omega), w64_eq (x := ((c.Versions.length : Nat) : Int) - 1) (by omega) (by omega)]
  simp only [hk, has_3_116, has_3_99, has_3_67, has_3_111, has_3_114, has_3_101, has_3_119, has_3_118, has_3_98, has_3_109, has_3_110, ref06_in, Option.bind_some, cond_true, cond_false, show (default : Bool) = false from rfl, Bool.not_true, Bool.not_false, Bool.true_and, Bool.false_and, Bool.and_true, Bool.and_false, Bool.or_true, Bool.true_or, Bool.false_or, Bool.or_false]
  generalize (e.Tenant != (-1)) = a0
  generalize (decide (0 ≤ e.Tenant) && decide (e.Tenant ≤ ((c.Tenants.length : Nat) : Int) - 1)) = a1
  generalize (e.Cell != (-1)) = a2
  generalize (e.Other != (-1)) = a3
  generalize (decide (1 ≤ e.Epoch) && decide (e.Epoch ≤ 1048576)) = a5
  generalize (e.From != 0) = a6
  generalize (e.Until != 0) = a7
  generalize (e.N == 0) = a8
  revert a0 a1 a2 a3 a5 a6 a7 a8
  decide
theorem kind_3 (h : VC c) (hk : e.Kind = 3) : ((e.Tenant != (-1)) && (decide (0 ≤ e.Tenant) && decide (e.Tenant ≤ ((c.Tenants.length : Nat) : Int) - 1)) && !(e.Cell != (-1)) && !(e.Other != (-1)) && (decide (1 ≤ e.Epoch) && decide (e.Epoch ≤ 1048576)) && !(e.From != 0) && !(e.Until != 0) && (e.N == 0)) = true ↔ KindP c e := by
  simp only [Bool.and_eq_true, decide_eq_true_eq, Bool.not_eq_true', bne_iff_ne, ne_eq, beq_iff_eq, beq_eq_false_iff_ne, bne_eq_false_iff_eq]
  constructor
  · intro q
    refine .cut hk ?_ ?_ ?_ ?_ ?_ ?_ <;> first | (simp only [tOk, cOk, oN, eN, vOk]; omega) | omega
  · intro q
    cases q <;> simp only [tOk, cOk, oN, eN, vOk] at * <;> omega
theorem core_4 (h : VC c) (hk : e.Kind = 4) : (Option.bind (ref06_places e ((c.Tenants.length : Nat) : Int) ((c.Cells.length : Nat) : Int) c.Regions) fun x8 => Option.bind (bif x8 then ref06_numbers e ((c.Versions.length : Nat) : Int) else some default) fun x9 => some (x8 && x9)) = some ((e.Tenant != (-1)) && (decide (0 ≤ e.Tenant) && decide (e.Tenant ≤ ((c.Tenants.length : Nat) : Int) - 1)) && (decide (-1 ≤ e.Cell) && decide (e.Cell ≤ ((c.Cells.length : Nat) : Int) - 1)) && !(e.Other != (-1)) && !(e.Epoch != 0) && !(e.From != 0) && !(e.Until != 0) && (e.N == 0)) := by
  have htl := h.tl; have hcl := h.cl; have hvl := h.vl; have hreg := h.reg
  unfold ref06_places ref06_places_k2 ref06_places_k1 ref06_numbers ref06_numbers_k2 ref06_numbers_k1
  rw [w64_eq (x := ((c.Tenants.length : Nat) : Int) - 1) (by omega) (by omega), w64_eq (x := ((c.Cells.length : Nat) : Int) - 1) (by omega) (by omega), w64_eq (x := c.Regions - 1) (by omega) (by omega), w64_eq (x := ((c.Versions.length : Nat) : Int) - 1) (by omega) (by omega)]
  simp only [hk, has_4_116, has_4_99, has_4_67, has_4_111, has_4_114, has_4_101, has_4_119, has_4_118, has_4_98, has_4_109, has_4_110, ref06_in, Option.bind_some, cond_true, cond_false, show (default : Bool) = false from rfl, Bool.not_true, Bool.not_false, Bool.true_and, Bool.false_and, Bool.and_true, Bool.and_false, Bool.or_true, Bool.true_or, Bool.false_or, Bool.or_false]
  generalize (e.Tenant != (-1)) = a0
  generalize (decide (0 ≤ e.Tenant) && decide (e.Tenant ≤ ((c.Tenants.length : Nat) : Int) - 1)) = a1
  generalize (decide (-1 ≤ e.Cell) && decide (e.Cell ≤ ((c.Cells.length : Nat) : Int) - 1)) = a2
  generalize (e.Other != (-1)) = a3
  generalize (e.Epoch != 0) = a5
  generalize (e.From != 0) = a6
  generalize (e.Until != 0) = a7
  generalize (e.N == 0) = a8
  revert a0 a1 a2 a3 a5 a6 a7 a8
  decide
theorem kind_4 (h : VC c) (hk : e.Kind = 4) : ((e.Tenant != (-1)) && (decide (0 ≤ e.Tenant) && decide (e.Tenant ≤ ((c.Tenants.length : Nat) : Int) - 1)) && (decide (-1 ≤ e.Cell) && decide (e.Cell ≤ ((c.Cells.length : Nat) : Int) - 1)) && !(e.Other != (-1)) && !(e.Epoch != 0) && !(e.From != 0) && !(e.Until != 0) && (e.N == 0)) = true ↔ KindP c e := by
  simp only [Bool.and_eq_true, decide_eq_true_eq, Bool.not_eq_true', bne_iff_ne, ne_eq, beq_iff_eq, beq_eq_false_iff_ne, bne_eq_false_iff_eq]
  constructor
  · intro q
    refine .standby hk ?_ ?_ ?_ ?_ ?_ <;> first | (simp only [tOk, cOk, oN, eN, vOk]; omega) | omega
  · intro q
    cases q <;> simp only [tOk, cOk, oN, eN, vOk] at * <;> omega
theorem core_5 (h : VC c) (hk : e.Kind = 5) : (Option.bind (ref06_places e ((c.Tenants.length : Nat) : Int) ((c.Cells.length : Nat) : Int) c.Regions) fun x8 => Option.bind (bif x8 then ref06_numbers e ((c.Versions.length : Nat) : Int) else some default) fun x9 => some (x8 && x9)) = some ((e.Tenant != (-1)) && (decide (0 ≤ e.Tenant) && decide (e.Tenant ≤ ((c.Tenants.length : Nat) : Int) - 1)) && (decide (0 ≤ e.Cell) && decide (e.Cell ≤ ((c.Cells.length : Nat) : Int) - 1)) && !(e.Other != (-1)) && !(e.Epoch != 0) && !(e.From != 0) && !(e.Until != 0) && (e.N == 0)) := by
  have htl := h.tl; have hcl := h.cl; have hvl := h.vl; have hreg := h.reg
  unfold ref06_places ref06_places_k2 ref06_places_k1 ref06_numbers ref06_numbers_k2 ref06_numbers_k1
  rw [w64_eq (x := ((c.Tenants.length : Nat) : Int) - 1) (by omega) (by omega), w64_eq (x := ((c.Cells.length : Nat) : Int) - 1) (by omega) (by omega), w64_eq (x := c.Regions - 1) (by omega) (by omega), w64_eq (x := ((c.Versions.length : Nat) : Int) - 1) (by omega) (by omega)]
  simp only [hk, has_5_116, has_5_99, has_5_67, has_5_111, has_5_114, has_5_101, has_5_119, has_5_118, has_5_98, has_5_109, has_5_110, ref06_in, Option.bind_some, cond_true, cond_false, show (default : Bool) = false from rfl, Bool.not_true, Bool.not_false, Bool.true_and, Bool.false_and, Bool.and_true, Bool.and_false, Bool.or_true, Bool.true_or, Bool.false_or, Bool.or_false]
  generalize (e.Tenant != (-1)) = a0
  generalize (decide (0 ≤ e.Tenant) && decide (e.Tenant ≤ ((c.Tenants.length : Nat) : Int) - 1)) = a1
  generalize (decide (0 ≤ e.Cell) && decide (e.Cell ≤ ((c.Cells.length : Nat) : Int) - 1)) = a2
  generalize (e.Other != (-1)) = a3
  generalize (e.Epoch != 0) = a5
  generalize (e.From != 0) = a6
  generalize (e.Until != 0) = a7
  generalize (e.N == 0) = a8
  revert a0 a1 a2 a3 a5 a6 a7 a8
  decide
theorem kind_5 (h : VC c) (hk : e.Kind = 5) : ((e.Tenant != (-1)) && (decide (0 ≤ e.Tenant) && decide (e.Tenant ≤ ((c.Tenants.length : Nat) : Int) - 1)) && (decide (0 ≤ e.Cell) && decide (e.Cell ≤ ((c.Cells.length : Nat) : Int) - 1)) && !(e.Other != (-1)) && !(e.Epoch != 0) && !(e.From != 0) && !(e.Until != 0) && (e.N == 0)) = true ↔ KindP c e := by
  simp only [Bool.and_eq_true, decide_eq_true_eq, Bool.not_eq_true', bne_iff_ne, ne_eq, beq_iff_eq, beq_eq_false_iff_ne, bne_eq_false_iff_eq]
  constructor
  · intro q
    refine .ready hk ?_ ?_ ?_ ?_ ?_ <;> first | (simp only [tOk, cOk, oN, eN, vOk]; omega) | omega
  · intro q
    cases q <;> simp only [tOk, cOk, oN, eN, vOk] at * <;> omega
theorem core_6 (h : VC c) (hk : e.Kind = 6) : (Option.bind (ref06_places e ((c.Tenants.length : Nat) : Int) ((c.Cells.length : Nat) : Int) c.Regions) fun x8 => Option.bind (bif x8 then ref06_numbers e ((c.Versions.length : Nat) : Int) else some default) fun x9 => some (x8 && x9)) = some ((e.Tenant != (-1)) && (decide (0 ≤ e.Tenant) && decide (e.Tenant ≤ ((c.Tenants.length : Nat) : Int) - 1)) && (decide (0 ≤ e.Cell) && decide (e.Cell ≤ ((c.Cells.length : Nat) : Int) - 1)) && !(e.Other != (-1)) && !(e.Epoch != 0) && !(e.From != 0) && !(e.Until != 0) && (e.N == 0)) := by
  have htl := h.tl; have hcl := h.cl; have hvl := h.vl; have hreg := h.reg
  unfold ref06_places ref06_places_k2 ref06_places_k1 ref06_numbers ref06_numbers_k2 ref06_numbers_k1
  rw [w64_eq (x := ((c.Tenants.length : Nat) : Int) - 1) (by omega) (by omega), w64_eq (x := ((c.Cells.length : Nat) : Int) - 1) (by omega) (by omega), w64_eq (x := c.Regions - 1) (by omega) (by omega), w64_eq (x := ((c.Versions.length : Nat) : Int) - 1) (by omega) (by omega)]
  simp only [hk, has_6_116, has_6_99, has_6_67, has_6_111, has_6_114, has_6_101, has_6_119, has_6_118, has_6_98, has_6_109, has_6_110, ref06_in, Option.bind_some, cond_true, cond_false, show (default : Bool) = false from rfl, Bool.not_true, Bool.not_false, Bool.true_and, Bool.false_and, Bool.and_true, Bool.and_false, Bool.or_true, Bool.true_or, Bool.false_or, Bool.or_false]
  generalize (e.Tenant != (-1)) = a0
  generalize (decide (0 ≤ e.Tenant) && decide (e.Tenant ≤ ((c.Tenants.length : Nat) : Int) - 1)) = a1
  generalize (decide (0 ≤ e.Cell) && decide (e.Cell ≤ ((c.Cells.length : Nat) : Int) - 1)) = a2
  generalize (e.Other != (-1)) = a3
  generalize (e.Epoch != 0) = a5
  generalize (e.From != 0) = a6
  generalize (e.Until != 0) = a7
  generalize (e.N == 0) = a8
  revert a0 a1 a2 a3 a5 a6 a7 a8
  decide
theorem kind_6 (h : VC c) (hk : e.Kind = 6) : ((e.Tenant != (-1)) && (decide (0 ≤ e.Tenant) && decide (e.Tenant ≤ ((c.Tenants.length : Nat) : Int) - 1)) && (decide (0 ≤ e.Cell) && decide (e.Cell ≤ ((c.Cells.length : Nat) : Int) - 1)) && !(e.Other != (-1)) && !(e.Epoch != 0) && !(e.From != 0) && !(e.Until != 0) && (e.N == 0)) = true ↔ KindP c e := by
  simp only [Bool.and_eq_true, decide_eq_true_eq, Bool.not_eq_true', bne_iff_ne, ne_eq, beq_iff_eq, beq_eq_false_iff_ne, bne_eq_false_iff_eq]
  constructor
  · intro q
    refine .migrate hk ?_ ?_ ?_ ?_ ?_ <;> first | (simp only [tOk, cOk, oN, eN, vOk]; omega) | omega
  · intro q
    cases q <;> simp only [tOk, cOk, oN, eN, vOk] at * <;> omega
theorem core_7 (h : VC c) (hk : e.Kind = 7) : (Option.bind (ref06_places e ((c.Tenants.length : Nat) : Int) ((c.Cells.length : Nat) : Int) c.Regions) fun x8 => Option.bind (bif x8 then ref06_numbers e ((c.Versions.length : Nat) : Int) else some default) fun x9 => some (x8 && x9)) = some ((e.Tenant != (-1)) && (decide (0 ≤ e.Tenant) && decide (e.Tenant ≤ ((c.Tenants.length : Nat) : Int) - 1)) && !(e.Cell != (-1)) && !(e.Other != (-1)) && !(e.Epoch != 0) && !(e.From != 0) && !(e.Until != 0) && (e.N == 0)) := by
  have htl := h.tl; have hcl := h.cl; have hvl := h.vl; have hreg := h.reg
  unfold ref06_places ref06_places_k2 ref06_places_k1 ref06_numbers ref06_numbers_k2 ref06_numbers_k1
  rw [w64_eq (x := ((c.Tenants.length : Nat) : Int) - 1) (by omega) (by omega), w64_eq (x := ((c.Cells.length : Nat) : Int) - 1) (by omega) (by omega), w64_eq (x := c.Regions - 1) (by omega) (by omega), w64_eq (x := ((c.Versions.length : Nat) : Int) - 1) (by omega) (by omega)]
  simp only [hk, has_7_116, has_7_99, has_7_67, has_7_111, has_7_114, has_7_101, has_7_119, has_7_118, has_7_98, has_7_109, has_7_110, ref06_in, Option.bind_some, cond_true, cond_false, show (default : Bool) = false from rfl, Bool.not_true, Bool.not_false, Bool.true_and, Bool.false_and, Bool.and_true, Bool.and_false, Bool.or_true, Bool.true_or, Bool.false_or, Bool.or_false]
  generalize (e.Tenant != (-1)) = a0
  generalize (decide (0 ≤ e.Tenant) && decide (e.Tenant ≤ ((c.Tenants.length : Nat) : Int) - 1)) = a1
  generalize (e.Cell != (-1)) = a2
  generalize (e.Other != (-1)) = a3
  generalize (e.Epoch != 0) = a5
  generalize (e.From != 0) = a6
  generalize (e.Until != 0) = a7
  generalize (e.N == 0) = a8
  revert a0 a1 a2 a3 a5 a6 a7 a8
  decide
theorem kind_7 (h : VC c) (hk : e.Kind = 7) : ((e.Tenant != (-1)) && (decide (0 ≤ e.Tenant) && decide (e.Tenant ≤ ((c.Tenants.length : Nat) : Int) - 1)) && !(e.Cell != (-1)) && !(e.Other != (-1)) && !(e.Epoch != 0) && !(e.From != 0) && !(e.Until != 0) && (e.N == 0)) = true ↔ KindP c e := by
  simp only [Bool.and_eq_true, decide_eq_true_eq, Bool.not_eq_true', bne_iff_ne, ne_eq, beq_iff_eq, beq_eq_false_iff_ne, bne_eq_false_iff_eq]
  constructor
  · intro q
    refine .abandon hk ?_ ?_ ?_ ?_ ?_ <;> first | (simp only [tOk, cOk, oN, eN, vOk]; omega) | omega
  · intro q
    cases q <;> simp only [tOk, cOk, oN, eN, vOk] at * <;> omega
theorem core_8 (h : VC c) (hk : e.Kind = 8) : (Option.bind (ref06_places e ((c.Tenants.length : Nat) : Int) ((c.Cells.length : Nat) : Int) c.Regions) fun x8 => Option.bind (bif x8 then ref06_numbers e ((c.Versions.length : Nat) : Int) else some default) fun x9 => some (x8 && x9)) = some ((e.Tenant != (-1)) && (decide (0 ≤ e.Tenant) && decide (e.Tenant ≤ ((c.Tenants.length : Nat) : Int) - 1)) && !(e.Cell != (-1)) && !(e.Other != (-1)) && !(e.Epoch != 0) && !(e.From != 0) && !(e.Until != 0) && (decide (0 ≤ e.N) && decide (e.N ≤ 1))) := by
  have htl := h.tl; have hcl := h.cl; have hvl := h.vl; have hreg := h.reg
  unfold ref06_places ref06_places_k2 ref06_places_k1 ref06_numbers ref06_numbers_k2 ref06_numbers_k1
  rw [w64_eq (x := ((c.Tenants.length : Nat) : Int) - 1) (by omega) (by omega), w64_eq (x := ((c.Cells.length : Nat) : Int) - 1) (by omega) (by omega), w64_eq (x := c.Regions - 1) (by omega) (by omega), w64_eq (x := ((c.Versions.length : Nat) : Int) - 1) (by omega) (by omega)]
  simp only [hk, has_8_116, has_8_99, has_8_67, has_8_111, has_8_114, has_8_101, has_8_119, has_8_118, has_8_98, has_8_109, has_8_110, ref06_in, Option.bind_some, cond_true, cond_false, show (default : Bool) = false from rfl, Bool.not_true, Bool.not_false, Bool.true_and, Bool.false_and, Bool.and_true, Bool.and_false, Bool.or_true, Bool.true_or, Bool.false_or, Bool.or_false]
  generalize (e.Tenant != (-1)) = a0
  generalize (decide (0 ≤ e.Tenant) && decide (e.Tenant ≤ ((c.Tenants.length : Nat) : Int) - 1)) = a1
  generalize (e.Cell != (-1)) = a2
  generalize (e.Other != (-1)) = a3
  generalize (e.Epoch != 0) = a5
  generalize (e.From != 0) = a6
  generalize (e.Until != 0) = a7
  generalize (decide (0 ≤ e.N) && decide (e.N ≤ 1)) = a8
  revert a0 a1 a2 a3 a5 a6 a7 a8
  decide
theorem kind_8 (h : VC c) (hk : e.Kind = 8) : ((e.Tenant != (-1)) && (decide (0 ≤ e.Tenant) && decide (e.Tenant ≤ ((c.Tenants.length : Nat) : Int) - 1)) && !(e.Cell != (-1)) && !(e.Other != (-1)) && !(e.Epoch != 0) && !(e.From != 0) && !(e.Until != 0) && (decide (0 ≤ e.N) && decide (e.N ≤ 1))) = true ↔ KindP c e := by
  simp only [Bool.and_eq_true, decide_eq_true_eq, Bool.not_eq_true', bne_iff_ne, ne_eq, beq_iff_eq, beq_eq_false_iff_ne, bne_eq_false_iff_eq]
  constructor
  · intro q
    refine .shed hk ?_ ?_ ?_ ?_ ?_ <;> first | (simp only [tOk, cOk, oN, eN, vOk]; omega) | omega
  · intro q
    cases q <;> simp only [tOk, cOk, oN, eN, vOk] at * <;> omega
theorem core_9 (h : VC c) (hk : e.Kind = 9) : (Option.bind (ref06_places e ((c.Tenants.length : Nat) : Int) ((c.Cells.length : Nat) : Int) c.Regions) fun x8 => Option.bind (bif x8 then ref06_numbers e ((c.Versions.length : Nat) : Int) else some default) fun x9 => some (x8 && x9)) = some (!(e.Tenant != (-1)) && (decide (0 ≤ e.Cell) && decide (e.Cell ≤ ((c.Cells.length : Nat) : Int) - 1)) && !(e.Other != (-1)) && !(e.Epoch != 0) && !(e.From != 0) && !(e.Until != 0) && (decide (1 ≤ e.N) && decide (e.N ≤ 3))) := by
  have htl := h.tl; have hcl := h.cl; have hvl := h.vl; have hreg := h.reg
  unfold ref06_places ref06_places_k2 ref06_places_k1 ref06_numbers ref06_numbers_k2 ref06_numbers_k1
  rw [w64_eq (x := ((c.Tenants.length : Nat) : Int) - 1) (by omega) (by omega), w64_eq (x := ((c.Cells.length : Nat) : Int) - 1) (by omega) (by omega), w64_eq (x := c.Regions - 1) (by omega) (by omega), w64_eq (x := ((c.Versions.length : Nat) : Int) - 1) (by omega) (by omega)]
  simp only [hk, has_9_116, has_9_99, has_9_67, has_9_111, has_9_114, has_9_101, has_9_119, has_9_118, has_9_98, has_9_109, has_9_110, ref06_in, Option.bind_some, cond_true, cond_false, show (default : Bool) = false from rfl, Bool.not_true, Bool.not_false, Bool.true_and, Bool.false_and, Bool.and_true, Bool.and_false, Bool.or_true, Bool.true_or, Bool.false_or, Bool.or_false]
  generalize (e.Tenant != (-1)) = a0
  generalize (decide (0 ≤ e.Tenant) && decide (e.Tenant ≤ ((c.Tenants.length : Nat) : Int) - 1)) = a1
  generalize (decide (0 ≤ e.Cell) && decide (e.Cell ≤ ((c.Cells.length : Nat) : Int) - 1)) = a2
  generalize (e.Other != (-1)) = a3
  generalize (e.Epoch != 0) = a5
  generalize (e.From != 0) = a6
  generalize (e.Until != 0) = a7
  generalize (decide (1 ≤ e.N) && decide (e.N ≤ 3)) = a8
  revert a0 a1 a2 a3 a5 a6 a7 a8
  decide
theorem kind_9 (h : VC c) (hk : e.Kind = 9) : (!(e.Tenant != (-1)) && (decide (0 ≤ e.Cell) && decide (e.Cell ≤ ((c.Cells.length : Nat) : Int) - 1)) && !(e.Other != (-1)) && !(e.Epoch != 0) && !(e.From != 0) && !(e.Until != 0) && (decide (1 ≤ e.N) && decide (e.N ≤ 3))) = true ↔ KindP c e := by
  simp only [Bool.and_eq_true, decide_eq_true_eq, Bool.not_eq_true', bne_iff_ne, ne_eq, beq_iff_eq, beq_eq_false_iff_ne, bne_eq_false_iff_eq]
  constructor
  · intro q
    refine .mode hk ?_ ?_ ?_ ?_ ?_ <;> first | (simp only [tOk, cOk, oN, eN, vOk]; omega) | omega
  · intro q
    cases q <;> simp only [tOk, cOk, oN, eN, vOk] at * <;> omega
theorem core_10 (h : VC c) (hk : e.Kind = 10) : (Option.bind (ref06_places e ((c.Tenants.length : Nat) : Int) ((c.Cells.length : Nat) : Int) c.Regions) fun x8 => Option.bind (bif x8 then ref06_numbers e ((c.Versions.length : Nat) : Int) else some default) fun x9 => some (x8 && x9)) = some (!(e.Tenant != (-1)) && (decide (0 ≤ e.Cell) && decide (e.Cell ≤ ((c.Cells.length : Nat) : Int) - 1)) && !(e.Other != (-1)) && !(e.Epoch != 0) && !(e.From != 0) && !(e.Until != 0) && (decide (0 ≤ e.N) && decide (e.N ≤ ((c.Versions.length : Nat) : Int) - 1))) := by
  have htl := h.tl; have hcl := h.cl; have hvl := h.vl; have hreg := h.reg
  unfold ref06_places ref06_places_k2 ref06_places_k1 ref06_numbers ref06_numbers_k2 ref06_numbers_k1
  rw [w64_eq (x := ((c.Tenants.length : Nat) : Int) - 1) (by omega) (by omega), w64_eq (x := ((c.Cells.length : Nat) : Int) - 1) (by omega) (by omega), w64_eq (x := c.Regions - 1) (by omega) (by omega), w64_eq (x := ((c.Versions.length : Nat) : Int) - 1) (by omega) (by omega)]
  simp only [hk, has_10_116, has_10_99, has_10_67, has_10_111, has_10_114, has_10_101, has_10_119, has_10_118, has_10_98, has_10_109, has_10_110, ref06_in, Option.bind_some, cond_true, cond_false, show (default : Bool) = false from rfl, Bool.not_true, Bool.not_false, Bool.true_and, Bool.false_and, Bool.and_true, Bool.and_false, Bool.or_true, Bool.true_or, Bool.false_or, Bool.or_false]
  generalize (e.Tenant != (-1)) = a0
  generalize (decide (0 ≤ e.Tenant) && decide (e.Tenant ≤ ((c.Tenants.length : Nat) : Int) - 1)) = a1
  generalize (decide (0 ≤ e.Cell) && decide (e.Cell ≤ ((c.Cells.length : Nat) : Int) - 1)) = a2
  generalize (e.Other != (-1)) = a3
  generalize (e.Epoch != 0) = a5
  generalize (e.From != 0) = a6
  generalize (e.Until != 0) = a7
  generalize (decide (0 ≤ e.N) && decide (e.N ≤ ((c.Versions.length : Nat) : Int) - 1)) = a8
  revert a0 a1 a2 a3 a5 a6 a7 a8
  decide
theorem kind_10 (h : VC c) (hk : e.Kind = 10) : (!(e.Tenant != (-1)) && (decide (0 ≤ e.Cell) && decide (e.Cell ≤ ((c.Cells.length : Nat) : Int) - 1)) && !(e.Other != (-1)) && !(e.Epoch != 0) && !(e.From != 0) && !(e.Until != 0) && (decide (0 ≤ e.N) && decide (e.N ≤ ((c.Versions.length : Nat) : Int) - 1))) = true ↔ KindP c e := by
  simp only [Bool.and_eq_true, decide_eq_true_eq, Bool.not_eq_true', bne_iff_ne, ne_eq, beq_iff_eq, beq_eq_false_iff_ne, bne_eq_false_iff_eq]
  constructor
  · intro q
    refine .want hk ?_ ?_ ?_ ?_ ?_ <;> first | (simp only [tOk, cOk, oN, eN, vOk]; omega) | omega
  · intro q
    cases q <;> simp only [tOk, cOk, oN, eN, vOk] at * <;> omega
theorem core_11 (h : VC c) (hk : e.Kind = 11) : (Option.bind (ref06_places e ((c.Tenants.length : Nat) : Int) ((c.Cells.length : Nat) : Int) c.Regions) fun x8 => Option.bind (bif x8 then ref06_numbers e ((c.Versions.length : Nat) : Int) else some default) fun x9 => some (x8 && x9)) = some (!(e.Tenant != (-1)) && (decide (0 ≤ e.Cell) && decide (e.Cell ≤ ((c.Cells.length : Nat) : Int) - 1)) && !(e.Other != (-1)) && !(e.Epoch != 0) && !(e.From != 0) && !(e.Until != 0) && (decide (0 ≤ e.N) && decide (e.N ≤ ((c.Versions.length : Nat) : Int) - 1))) := by
  have htl := h.tl; have hcl := h.cl; have hvl := h.vl; have hreg := h.reg
  unfold ref06_places ref06_places_k2 ref06_places_k1 ref06_numbers ref06_numbers_k2 ref06_numbers_k1
  rw [w64_eq (x := ((c.Tenants.length : Nat) : Int) - 1) (by omega) (by omega), w64_eq (x := ((c.Cells.length : Nat) : Int) - 1) (by omega) (by omega), w64_eq (x := c.Regions - 1) (by omega) (by omega), w64_eq (x := ((c.Versions.length : Nat) : Int) - 1) (by omega) (by omega)]
  simp only [hk, has_11_116, has_11_99, has_11_67, has_11_111, has_11_114, has_11_101, has_11_119, has_11_118, has_11_98, has_11_109, has_11_110, ref06_in, Option.bind_some, cond_true, cond_false, show (default : Bool) = false from rfl, Bool.not_true, Bool.not_false, Bool.true_and, Bool.false_and, Bool.and_true, Bool.and_false, Bool.or_true, Bool.true_or, Bool.false_or, Bool.or_false]
  generalize (e.Tenant != (-1)) = a0
  generalize (decide (0 ≤ e.Tenant) && decide (e.Tenant ≤ ((c.Tenants.length : Nat) : Int) - 1)) = a1
  generalize (decide (0 ≤ e.Cell) && decide (e.Cell ≤ ((c.Cells.length : Nat) : Int) - 1)) = a2
  generalize (e.Other != (-1)) = a3
  generalize (e.Epoch != 0) = a5
  generalize (e.From != 0) = a6
  generalize (e.Until != 0) = a7
  generalize (decide (0 ≤ e.N) && decide (e.N ≤ ((c.Versions.length : Nat) : Int) - 1)) = a8
  revert a0 a1 a2 a3 a5 a6 a7 a8
  decide
theorem kind_11 (h : VC c) (hk : e.Kind = 11) : (!(e.Tenant != (-1)) && (decide (0 ≤ e.Cell) && decide (e.Cell ≤ ((c.Cells.length : Nat) : Int) - 1)) && !(e.Other != (-1)) && !(e.Epoch != 0) && !(e.From != 0) && !(e.Until != 0) && (decide (0 ≤ e.N) && decide (e.N ≤ ((c.Versions.length : Nat) : Int) - 1))) = true ↔ KindP c e := by
  simp only [Bool.and_eq_true, decide_eq_true_eq, Bool.not_eq_true', bne_iff_ne, ne_eq, beq_iff_eq, beq_eq_false_iff_ne, bne_eq_false_iff_eq]
  constructor
  · intro q
    refine .runs hk ?_ ?_ ?_ ?_ ?_ <;> first | (simp only [tOk, cOk, oN, eN, vOk]; omega) | omega
  · intro q
    cases q <;> simp only [tOk, cOk, oN, eN, vOk] at * <;> omega
theorem core_12 (h : VC c) (hk : e.Kind = 12) : (Option.bind (ref06_places e ((c.Tenants.length : Nat) : Int) ((c.Cells.length : Nat) : Int) c.Regions) fun x8 => Option.bind (bif x8 then ref06_numbers e ((c.Versions.length : Nat) : Int) else some default) fun x9 => some (x8 && x9)) = some (!(e.Tenant != (-1)) && !(e.Cell != (-1)) && !(e.Other != (-1)) && !(e.Epoch != 0) && !(e.From != 0) && !(e.Until != 0) && (decide (0 ≤ e.N) && decide (e.N ≤ ((c.Versions.length : Nat) : Int) - 1))) := by
  have htl := h.tl; have hcl := h.cl; have hvl := h.vl; have hreg := h.reg
  unfold ref06_places ref06_places_k2 ref06_places_k1 ref06_numbers ref06_numbers_k2 ref06_numbers_k1
  rw [w64_eq (x := ((c.Tenants.length : Nat) : Int) - 1) (by omega) (by omega), w64_eq (x := ((c.Cells.length : Nat) : Int) - 1) (by omega) (by omega), w64_eq (x := c.Regions - 1) (by omega) (by omega), w64_eq (x := ((c.Versions.length : Nat) : Int) - 1) (by omega) (by omega)]
  simp only [hk, has_12_116, has_12_99, has_12_67, has_12_111, has_12_114, has_12_101, has_12_119, has_12_118, has_12_98, has_12_109, has_12_110, ref06_in, Option.bind_some, cond_true, cond_false, show (default : Bool) = false from rfl, Bool.not_true, Bool.not_false, Bool.true_and, Bool.false_and, Bool.and_true, Bool.and_false, Bool.or_true, Bool.true_or, Bool.false_or, Bool.or_false]
  generalize (e.Tenant != (-1)) = a0
  generalize (decide (0 ≤ e.Tenant) && decide (e.Tenant ≤ ((c.Tenants.length : Nat) : Int) - 1)) = a1
  generalize (e.Cell != (-1)) = a2
  generalize (e.Other != (-1)) = a3
  generalize (e.Epoch != 0) = a5
  generalize (e.From != 0) = a6
  generalize (e.Until != 0) = a7
  generalize (decide (0 ≤ e.N) && decide (e.N ≤ ((c.Versions.length : Nat) : Int) - 1)) = a8
  revert a0 a1 a2 a3 a5 a6 a7 a8
  decide
theorem kind_12 (h : VC c) (hk : e.Kind = 12) : (!(e.Tenant != (-1)) && !(e.Cell != (-1)) && !(e.Other != (-1)) && !(e.Epoch != 0) && !(e.From != 0) && !(e.Until != 0) && (decide (0 ≤ e.N) && decide (e.N ≤ ((c.Versions.length : Nat) : Int) - 1))) = true ↔ KindP c e := by
  simp only [Bool.and_eq_true, decide_eq_true_eq, Bool.not_eq_true', bne_iff_ne, ne_eq, beq_iff_eq, beq_eq_false_iff_ne, bne_eq_false_iff_eq]
  constructor
  · intro q
    refine .prove hk ?_ ?_ ?_ ?_ ?_ <;> first | (simp only [tOk, cOk, oN, eN, vOk]; omega) | omega
  · intro q
    cases q <;> simp only [tOk, cOk, oN, eN, vOk] at * <;> omega
theorem core_13 (h : VC c) (hk : e.Kind = 13) : (Option.bind (ref06_places e ((c.Tenants.length : Nat) : Int) ((c.Cells.length : Nat) : Int) c.Regions) fun x8 => Option.bind (bif x8 then ref06_numbers e ((c.Versions.length : Nat) : Int) else some default) fun x9 => some (x8 && x9)) = some (!(e.Tenant != (-1)) && !(e.Cell != (-1)) && (decide (0 ≤ e.Other) && decide (e.Other ≤ c.Regions - 1)) && !(e.Epoch != 0) && !(e.From != 0) && !(e.Until != 0) && (decide (0 ≤ e.N) && decide (e.N ≤ 1))) := by
  have htl := h.tl; have hcl := h.cl; have hvl := h.vl; have hreg := h.reg
  unfold ref06_places ref06_places_k2 ref06_places_k1 ref06_numbers ref06_numbers_k2 ref06_numbers_k1
  rw [w64_eq (x := ((c.Tenants.length : Nat) : Int) - 1) (by omega) (by omega), w64_eq (x := ((c.Cells.length : Nat) : Int) - 1) (by omega) (by omega), w64_eq (x := c.Regions - 1) (by omega) (by omega), w64_eq (x := ((c.Versions.length : Nat) : Int) - 1) (by omega) (by omega)]
  simp only [hk, has_13_116, has_13_99, has_13_67, has_13_111, has_13_114, has_13_101, has_13_119, has_13_118, has_13_98, has_13_109, has_13_110, ref06_in, Option.bind_some, cond_true, cond_false, show (default : Bool) = false from rfl, Bool.not_true, Bool.not_false, Bool.true_and, Bool.false_and, Bool.and_true, Bool.and_false, Bool.or_true, Bool.true_or, Bool.false_or, Bool.or_false]
  generalize (e.Tenant != (-1)) = a0
  generalize (decide (0 ≤ e.Tenant) && decide (e.Tenant ≤ ((c.Tenants.length : Nat) : Int) - 1)) = a1
  generalize (e.Cell != (-1)) = a2
  generalize (decide (0 ≤ e.Other) && decide (e.Other ≤ c.Regions - 1)) = a3
  generalize (e.Epoch != 0) = a5
  generalize (e.From != 0) = a6
  generalize (e.Until != 0) = a7
  generalize (decide (0 ≤ e.N) && decide (e.N ≤ 1)) = a8
  revert a0 a1 a2 a3 a5 a6 a7 a8
  decide
theorem kind_13 (h : VC c) (hk : e.Kind = 13) : (!(e.Tenant != (-1)) && !(e.Cell != (-1)) && (decide (0 ≤ e.Other) && decide (e.Other ≤ c.Regions - 1)) && !(e.Epoch != 0) && !(e.From != 0) && !(e.Until != 0) && (decide (0 ≤ e.N) && decide (e.N ≤ 1))) = true ↔ KindP c e := by
  simp only [Bool.and_eq_true, decide_eq_true_eq, Bool.not_eq_true', bne_iff_ne, ne_eq, beq_iff_eq, beq_eq_false_iff_ne, bne_eq_false_iff_eq]
  constructor
  · intro q
    refine .evac hk ?_ ?_ ?_ ?_ ?_ <;> first | (simp only [tOk, cOk, oN, eN, vOk]; omega) | omega
  · intro q
    cases q <;> simp only [tOk, cOk, oN, eN, vOk] at * <;> omega
theorem core_14 (h : VC c) (hk : e.Kind = 14) : (Option.bind (ref06_places e ((c.Tenants.length : Nat) : Int) ((c.Cells.length : Nat) : Int) c.Regions) fun x8 => Option.bind (bif x8 then ref06_numbers e ((c.Versions.length : Nat) : Int) else some default) fun x9 => some (x8 && x9)) = some (!(e.Tenant != (-1)) && !(e.Cell != (-1)) && !(e.Other != (-1)) && !(e.Epoch != 0) && !(e.From != 0) && !(e.Until != 0) && (e.N == 0)) := by
  have htl := h.tl; have hcl := h.cl; have hvl := h.vl; have hreg := h.reg
  unfold ref06_places ref06_places_k2 ref06_places_k1 ref06_numbers ref06_numbers_k2 ref06_numbers_k1
  rw [w64_eq (x := ((c.Tenants.length : Nat) : Int) - 1) (by omega) (by omega), w64_eq (x := ((c.Cells.length : Nat) : Int) - 1) (by omega) (by omega), w64_eq (x := c.Regions - 1) (by omega) (by omega), w64_eq (x := ((c.Versions.length : Nat) : Int) - 1) (by omega) (by omega)]
  simp only [hk, has_14_116, has_14_99, has_14_67, has_14_111, has_14_114, has_14_101, has_14_119, has_14_118, has_14_98, has_14_109, has_14_110, ref06_in, Option.bind_some, cond_true, cond_false, show (default : Bool) = false from rfl, Bool.not_true, Bool.not_false, Bool.true_and, Bool.false_and, Bool.and_true, Bool.and_false, Bool.or_true, Bool.true_or, Bool.false_or, Bool.or_false]
  generalize (e.Tenant != (-1)) = a0
  generalize (decide (0 ≤ e.Tenant) && decide (e.Tenant ≤ ((c.Tenants.length : Nat) : Int) - 1)) = a1
  generalize (e.Cell != (-1)) = a2
  generalize (e.Other != (-1)) = a3
  generalize (e.Epoch != 0) = a5
  generalize (e.From != 0) = a6
  generalize (e.Until != 0) = a7
  generalize (e.N == 0) = a8
  revert a0 a1 a2 a3 a5 a6 a7 a8
  decide
theorem kind_14 (h : VC c) (hk : e.Kind = 14) : (!(e.Tenant != (-1)) && !(e.Cell != (-1)) && !(e.Other != (-1)) && !(e.Epoch != 0) && !(e.From != 0) && !(e.Until != 0) && (e.N == 0)) = true ↔ KindP c e := by
  simp only [Bool.and_eq_true, decide_eq_true_eq, Bool.not_eq_true', bne_iff_ne, ne_eq, beq_iff_eq, beq_eq_false_iff_ne, bne_eq_false_iff_eq]
  constructor
  · intro q
    refine .expand hk ?_ ?_ ?_ ?_ ?_ <;> first | (simp only [tOk, cOk, oN, eN, vOk]; omega) | omega
  · intro q
    cases q <;> simp only [tOk, cOk, oN, eN, vOk] at * <;> omega
theorem core_15 (h : VC c) (hk : e.Kind = 15) : (Option.bind (ref06_places e ((c.Tenants.length : Nat) : Int) ((c.Cells.length : Nat) : Int) c.Regions) fun x8 => Option.bind (bif x8 then ref06_numbers e ((c.Versions.length : Nat) : Int) else some default) fun x9 => some (x8 && x9)) = some (!(e.Tenant != (-1)) && !(e.Cell != (-1)) && !(e.Other != (-1)) && !(e.Epoch != 0) && !(e.From != 0) && !(e.Until != 0) && (e.N == 0)) := by
  have htl := h.tl; have hcl := h.cl; have hvl := h.vl; have hreg := h.reg
  unfold ref06_places ref06_places_k2 ref06_places_k1 ref06_numbers ref06_numbers_k2 ref06_numbers_k1
  rw [w64_eq (x := ((c.Tenants.length : Nat) : Int) - 1) (by omega) (by omega), w64_eq (x := ((c.Cells.length : Nat) : Int) - 1) (by omega) (by omega), w64_eq (x := c.Regions - 1) (by omega) (by omega), w64_eq (x := ((c.Versions.length : Nat) : Int) - 1) (by omega) (by omega)]
  simp only [hk, has_15_116, has_15_99, has_15_67, has_15_111, has_15_114, has_15_101, has_15_119, has_15_118, has_15_98, has_15_109, has_15_110, ref06_in, Option.bind_some, cond_true, cond_false, show (default : Bool) = false from rfl, Bool.not_true, Bool.not_false, Bool.true_and, Bool.false_and, Bool.and_true, Bool.and_false, Bool.or_true, Bool.true_or, Bool.false_or, Bool.or_false]
  generalize (e.Tenant != (-1)) = a0
  generalize (decide (0 ≤ e.Tenant) && decide (e.Tenant ≤ ((c.Tenants.length : Nat) : Int) - 1)) = a1
  generalize (e.Cell != (-1)) = a2
  generalize (e.Other != (-1)) = a3
  generalize (e.Epoch != 0) = a5
  generalize (e.From != 0) = a6
  generalize (e.Until != 0) = a7
  generalize (e.N == 0) = a8
  revert a0 a1 a2 a3 a5 a6 a7 a8
  decide
theorem kind_15 (h : VC c) (hk : e.Kind = 15) : (!(e.Tenant != (-1)) && !(e.Cell != (-1)) && !(e.Other != (-1)) && !(e.Epoch != 0) && !(e.From != 0) && !(e.Until != 0) && (e.N == 0)) = true ↔ KindP c e := by
  simp only [Bool.and_eq_true, decide_eq_true_eq, Bool.not_eq_true', bne_iff_ne, ne_eq, beq_iff_eq, beq_eq_false_iff_ne, bne_eq_false_iff_eq]
  constructor
  · intro q
    refine .contract hk ?_ ?_ ?_ ?_ ?_ <;> first | (simp only [tOk, cOk, oN, eN, vOk]; omega) | omega
  · intro q
    cases q <;> simp only [tOk, cOk, oN, eN, vOk] at * <;> omega
theorem core_16 (h : VC c) (hk : e.Kind = 16) : (Option.bind (ref06_places e ((c.Tenants.length : Nat) : Int) ((c.Cells.length : Nat) : Int) c.Regions) fun x8 => Option.bind (bif x8 then ref06_numbers e ((c.Versions.length : Nat) : Int) else some default) fun x9 => some (x8 && x9)) = some (!(e.Tenant != (-1)) && !(e.Cell != (-1)) && !(e.Other != (-1)) && !(e.Epoch != 0) && !(e.From != 0) && !(e.Until != 0) && (decide (0 ≤ e.N) && decide (e.N ≤ 1073741824))) := by
  have htl := h.tl; have hcl := h.cl; have hvl := h.vl; have hreg := h.reg
  unfold ref06_places ref06_places_k2 ref06_places_k1 ref06_numbers ref06_numbers_k2 ref06_numbers_k1
  rw [w64_eq (x := ((c.Tenants.length : Nat) : Int) - 1) (by omega) (by omega), w64_eq (x := ((c.Cells.length : Nat) : Int) - 1) (by omega) (by omega), w64_eq (x := c.Regions - 1) (by omega) (by omega), w64_eq (x := ((c.Versions.length : Nat) : Int) - 1) (by omega) (by omega)]
  simp only [hk, has_16_116, has_16_99, has_16_67, has_16_111, has_16_114, has_16_101, has_16_119, has_16_118, has_16_98, has_16_109, has_16_110, ref06_in, Option.bind_some, cond_true, cond_false, show (default : Bool) = false from rfl, Bool.not_true, Bool.not_false, Bool.true_and, Bool.false_and, Bool.and_true, Bool.and_false, Bool.or_true, Bool.true_or, Bool.false_or, Bool.or_false]
  generalize (e.Tenant != (-1)) = a0
  generalize (decide (0 ≤ e.Tenant) && decide (e.Tenant ≤ ((c.Tenants.length : Nat) : Int) - 1)) = a1
  generalize (e.Cell != (-1)) = a2
  generalize (e.Other != (-1)) = a3
  generalize (e.Epoch != 0) = a5
  generalize (e.From != 0) = a6
  generalize (e.Until != 0) = a7
  generalize (decide (0 ≤ e.N) && decide (e.N ≤ 1073741824)) = a8
  revert a0 a1 a2 a3 a5 a6 a7 a8
  decide
theorem kind_16 (h : VC c) (hk : e.Kind = 16) : (!(e.Tenant != (-1)) && !(e.Cell != (-1)) && !(e.Other != (-1)) && !(e.Epoch != 0) && !(e.From != 0) && !(e.Until != 0) && (decide (0 ≤ e.N) && decide (e.N ≤ 1073741824))) = true ↔ KindP c e := by
  simp only [Bool.and_eq_true, decide_eq_true_eq, Bool.not_eq_true', bne_iff_ne, ne_eq, beq_iff_eq, beq_eq_false_iff_ne, bne_eq_false_iff_eq]
  constructor
  · intro q
    refine .note hk ?_ ?_ ?_ ?_ ?_ <;> first | (simp only [tOk, cOk, oN, eN, vOk]; omega) | omega
  · intro q
    cases q <;> simp only [tOk, cOk, oN, eN, vOk] at * <;> omega
theorem core_all (h : VC c) (hk : 1 ≤ e.Kind ∧ e.Kind ≤ 16) : ∃ b, (Option.bind (ref06_places e ((c.Tenants.length : Nat) : Int) ((c.Cells.length : Nat) : Int) c.Regions) fun x8 => Option.bind (bif x8 then ref06_numbers e ((c.Versions.length : Nat) : Int) else some default) fun x9 => some (x8 && x9)) = some b ∧ (b = true ↔ KindP c e) := by
  have : e.Kind = 1 ∨ e.Kind = 2 ∨ e.Kind = 3 ∨ e.Kind = 4 ∨ e.Kind = 5 ∨ e.Kind = 6 ∨ e.Kind = 7 ∨ e.Kind = 8 ∨ e.Kind = 9 ∨ e.Kind = 10 ∨ e.Kind = 11 ∨ e.Kind = 12 ∨ e.Kind = 13 ∨ e.Kind = 14 ∨ e.Kind = 15 ∨ e.Kind = 16 := by omega
  rcases this with hk | hk | hk | hk | hk | hk | hk | hk | hk | hk | hk | hk | hk | hk | hk | hk
  · have hc := core_1 h hk
    exact ⟨_, hc, kind_1 h hk⟩
  · have hc := core_2 h hk
    exact ⟨_, hc, kind_2 h hk⟩
  · have hc := core_3 h hk
    exact ⟨_, hc, kind_3 h hk⟩
  · have hc := core_4 h hk
    exact ⟨_, hc, kind_4 h hk⟩
  · have hc := core_5 h hk
    exact ⟨_, hc, kind_5 h hk⟩
  · have hc := core_6 h hk
    exact ⟨_, hc, kind_6 h hk⟩
  · have hc := core_7 h hk
    exact ⟨_, hc, kind_7 h hk⟩
  · have hc := core_8 h hk
    exact ⟨_, hc, kind_8 h hk⟩
  · have hc := core_9 h hk
    exact ⟨_, hc, kind_9 h hk⟩
  · have hc := core_10 h hk
    exact ⟨_, hc, kind_10 h hk⟩
  · have hc := core_11 h hk
    exact ⟨_, hc, kind_11 h hk⟩
  · have hc := core_12 h hk
    exact ⟨_, hc, kind_12 h hk⟩
  · have hc := core_13 h hk
    exact ⟨_, hc, kind_13 h hk⟩
  · have hc := core_14 h hk
    exact ⟨_, hc, kind_14 h hk⟩
  · have hc := core_15 h hk
    exact ⟨_, hc, kind_15 h hk⟩
  · have hc := core_16 h hk
    exact ⟨_, hc, kind_16 h hk⟩
theorem KindP.range (h : KindP c e) : 1 ≤ e.Kind ∧ e.Kind ≤ 16 := by cases h <;> omega
theorem ref06_valid (h : VC c) : ∃ b, ref06_Valid c e = some b ∧ (b = true ↔ ValidP c e) := by
  have htl := h.tl; have hcl := h.cl; have hvl := h.vl; have hreg := h.reg
  have m1 : minE ((c.Tenants.length : Nat) : Int) 32 = ((c.Tenants.length : Nat) : Int) := by unfold minE; split <;> omega
  have m2 : minE ((c.Cells.length : Nat) : Int) 16 = ((c.Cells.length : Nat) : Int) := by unfold minE; split <;> omega
  have m3 : minE c.Regions 4 = c.Regions := by unfold minE; split <;> omega
  have m4 : minE ((c.Versions.length : Nat) : Int) 30 = ((c.Versions.length : Nat) : Int) := by unfold minE; split <;> omega
  unfold ref06_Valid ref06_right ref06_in
  simp only [m1, m2, m3, m4, Option.bind_some]
  by_cases hk : 1 ≤ e.Kind ∧ e.Kind ≤ 16
  · have ek : (decide (1 ≤ e.Kind) && decide (e.Kind ≤ 16)) = true := by simp; omega
    by_cases ht : 0 ≤ e.Tick ∧ e.Tick ≤ 1073741824
    · have et : (decide (0 ≤ e.Tick) && decide (e.Tick ≤ 1073741824)) = true := by simp; omega
      obtain ⟨b, hb, hiff⟩ := core_all h hk
      simp only [ek, et, cond_true, Bool.true_and, Option.bind_some]
      refine ⟨b, ?_, by rw [hiff]; exact ⟨fun q => ⟨ht, q⟩, fun q => q.2⟩⟩
      generalize ref06_places e ((c.Tenants.length : Nat) : Int) ((c.Cells.length : Nat) : Int) c.Regions = A at hb ⊢
      cases A with
      | none => cases hb
      | some x => simp only [Option.bind_some] at hb ⊢; rw [← hb]; cases x <;> cases ref06_numbers e ((c.Versions.length : Nat) : Int) <;> rfl
    · have et : (decide (0 ≤ e.Tick) && decide (e.Tick ≤ 1073741824)) = false := by simp; omega
      simp only [ek, et, cond_true, cond_false, Bool.and_false, Bool.false_and, Option.bind_some]
      exact ⟨false, rfl, fun q => Bool.noConfusion q, fun q => absurd q.1 ht⟩
  · have ek : (decide (1 ≤ e.Kind) && decide (e.Kind ≤ 16)) = false := by simp; omega
    simp only [ek, cond_false, Bool.false_and, Option.bind_some]
    exact ⟨false, rfl, fun q => Bool.noConfusion q, fun q => absurd q.2.range hk⟩
end
end Go.CP
