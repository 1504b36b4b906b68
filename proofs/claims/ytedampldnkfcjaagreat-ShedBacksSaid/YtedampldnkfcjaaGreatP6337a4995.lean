/- The program's check of entries is the reference's. -/
import Derived.Deep.Slices
import Derived.ChangeArms
import Derived.Below
import Derived.Test.YtedampldnkfcjaaGreatP5d94ffb12
namespace Go.CP
open Go
set_option linter.unusedSimpArgs false
set_option linter.unusedVariables false
theorem and_bif [Fuel] (g a : Bool) : (g && (bif g then a else default)) = (g && a) := by cases g <;> rfl
def FitK (b : EntryBounds) (e : ApiEntry) : Prop :=
  (e.Kind = 1 ∧ 0 ≤ e.Tenant ∧ e.Tenant < b.tenants ∧ 0 ≤ e.Cell ∧ e.Cell < b.cells ∧ -1 ≤ e.Other ∧ e.Other < b.cells ∧ e.Other ≠ e.Cell ∧ e.Epoch = 0 ∧ e.From = 0 ∧ e.Until = 0 ∧ e.N = 0) ∨
  (e.Kind = 2 ∧ 0 ≤ e.Tenant ∧ e.Tenant < b.tenants ∧ 0 ≤ e.Cell ∧ e.Cell < b.cells ∧ e.Other = -1 ∧ 1 ≤ e.Epoch ∧ e.Epoch ≤ 1048576 ∧ 0 ≤ e.From ∧ e.From ≤ 1073741824 ∧ 0 ≤ e.Until ∧ e.Until ≤ 1073741824 ∧ 0 ≤ e.N ∧ e.N < b.versions) ∨
  (e.Kind = 3 ∧ 0 ≤ e.Tenant ∧ e.Tenant < b.tenants ∧ e.Cell = -1 ∧ e.Other = -1 ∧ 1 ≤ e.Epoch ∧ e.Epoch ≤ 1048576 ∧ e.From = 0 ∧ e.Until = 0 ∧ e.N = 0) ∨
  (e.Kind = 4 ∧ 0 ≤ e.Tenant ∧ e.Tenant < b.tenants ∧ -1 ≤ e.Cell ∧ e.Cell < b.cells ∧ e.Other = -1 ∧ e.Epoch = 0 ∧ e.From = 0 ∧ e.Until = 0 ∧ e.N = 0) ∨
  ((e.Kind = 5 ∨ e.Kind = 6) ∧ 0 ≤ e.Tenant ∧ e.Tenant < b.tenants ∧ 0 ≤ e.Cell ∧ e.Cell < b.cells ∧ e.Other = -1 ∧ e.Epoch = 0 ∧ e.From = 0 ∧ e.Until = 0 ∧ e.N = 0) ∨
  (e.Kind = 7 ∧ 0 ≤ e.Tenant ∧ e.Tenant < b.tenants ∧ e.Cell = -1 ∧ e.Other = -1 ∧ e.Epoch = 0 ∧ e.From = 0 ∧ e.Until = 0 ∧ e.N = 0) ∨
  (e.Kind = 8 ∧ 0 ≤ e.Tenant ∧ e.Tenant < b.tenants ∧ e.Cell = -1 ∧ e.Other = -1 ∧ e.Epoch = 0 ∧ e.From = 0 ∧ e.Until = 0 ∧ 0 ≤ e.N ∧ e.N ≤ 1) ∨
  (e.Kind = 9 ∧ e.Tenant = -1 ∧ 0 ≤ e.Cell ∧ e.Cell < b.cells ∧ e.Other = -1 ∧ e.Epoch = 0 ∧ e.From = 0 ∧ e.Until = 0 ∧ 1 ≤ e.N ∧ e.N ≤ 3) ∨
  ((e.Kind = 10 ∨ e.Kind = 11) ∧ e.Tenant = -1 ∧ 0 ≤ e.Cell ∧ e.Cell < b.cells ∧ e.Other = -1 ∧ e.Epoch = 0 ∧ e.From = 0 ∧ e.Until = 0 ∧ 0 ≤ e.N ∧ e.N < b.versions) ∨
  (e.Kind = 12 ∧ e.Tenant = -1 ∧ e.Cell = -1 ∧ e.Other = -1 ∧ e.Epoch = 0 ∧ e.From = 0 ∧ e.Until = 0 ∧ 0 ≤ e.N ∧ e.N < b.versions) ∨
  (e.Kind = 13 ∧ e.Tenant = -1 ∧ e.Cell = -1 ∧ 0 ≤ e.Other ∧ e.Other < b.regions ∧ e.Epoch = 0 ∧ e.From = 0 ∧ e.Until = 0 ∧ 0 ≤ e.N ∧ e.N ≤ 1) ∨
  ((e.Kind = 14 ∨ e.Kind = 15) ∧ e.Tenant = -1 ∧ e.Cell = -1 ∧ e.Other = -1 ∧ e.Epoch = 0 ∧ e.From = 0 ∧ e.Until = 0 ∧ e.N = 0) ∨
  (e.Kind = 16 ∧ e.Tenant = -1 ∧ e.Cell = -1 ∧ e.Other = -1 ∧ e.Epoch = 0 ∧ e.From = 0 ∧ e.Until = 0 ∧ 0 ≤ e.N ∧ e.N ≤ 1073741824)
section
variable {c : ApiConfig} {e : ApiEntry}
theorem entry_fits_ok [Fuel] (b : EntryBounds) (hb : 0 ≤ b.tenants ∧ b.tenants ≤ 1000 ∧ 0 ≤ b.cells ∧ b.cells ≤ 1000 ∧ 0 ≤ b.regions ∧ b.regions ≤ 1000 ∧ 0 ≤ b.versions ∧ b.versions ≤ 1000) :
    ∃ v, entry_fits e b = some v ∧ (v = true ↔ (0 ≤ e.Tick ∧ e.Tick ≤ 1073741824) ∧ FitK b e) := by
  have w1 : w64 (b.tenants - 1) = b.tenants - 1 := w64_eq (by omega) (by omega)
  have w2 : w64 (b.cells - 1) = b.cells - 1 := w64_eq (by omega) (by omega)
  have w3 : w64 (b.regions - 1) = b.regions - 1 := w64_eq (by omega) (by omega)
  have w4 : w64 (b.versions - 1) = b.versions - 1 := w64_eq (by omega) (by omega)
  by_cases hin : 1 ≤ e.Kind ∧ e.Kind ≤ 16
  · have hk : e.Kind = 1 ∨ e.Kind = 2 ∨ e.Kind = 3 ∨ e.Kind = 4 ∨ e.Kind = 5 ∨ e.Kind = 6 ∨ e.Kind = 7 ∨ e.Kind = 8 ∨ e.Kind = 9 ∨ e.Kind = 10 ∨ e.Kind = 11 ∨ e.Kind = 12 ∨ e.Kind = 13 ∨ e.Kind = 14 ∨ e.Kind = 15 ∨ e.Kind = 16 := by omega
    unfold entry_fits entry_formOf entry_formOf_k4 entry_formOf_k3 entry_formOf_k2 entry_formOf_k1 entry_below entry_span_has
    rcases hk with hk | hk | hk | hk | hk | hk | hk | hk | hk | hk | hk | hk | hk | hk | hk | hk
    · simp only [hk, w1, w2, w3, w4, Int.reduceBEq, Bool.false_and, Bool.true_and, Bool.or_false, Bool.false_or, Bool.not_true, Bool.not_false, cond_true, cond_false, Option.bind_some, bifS, and_bif]
      by_cases ho : e.Other = e.Cell
      · have : (e.Other == e.Cell) = true := by simpa using ho
        simp only [this, cond_true]
        refine ⟨false, rfl, ?_⟩
        simp only [FitK, hk, Int.reduceEq, false_and, or_false, false_or, true_and, true_or, or_true, or_self]
        constructor
        · intro q; cases q
        · intro q; omega
      · have : (e.Other == e.Cell) = false := by simpa using ho
        simp only [this, cond_false]
        refine ⟨_, rfl, ?_⟩
        simp only [Bool.and_eq_true, decide_eq_true_eq]
        simp only [FitK, hk, Int.reduceEq, false_and, or_false, false_or, true_and, true_or, or_true, or_self]
        constructor <;> (intro q; omega)
    all_goals
      simp only [hk, w1, w2, w3, w4, Int.reduceBEq, Bool.false_and, Bool.true_and, Bool.or_false, Bool.false_or, Bool.not_true, Bool.not_false, cond_true, cond_false, Option.bind_some, bifS, and_bif]
      refine ⟨_, rfl, ?_⟩
      simp only [Bool.and_eq_true, decide_eq_true_eq]
      simp only [FitK, hk, Int.reduceEq, false_and, or_false, false_or, true_and, true_or, or_true, or_self]
      constructor <;> (intro q; omega)
  · have n : ∀ k : Int, 1 ≤ k → k ≤ 16 → (e.Kind == k) = false := fun k h1 h2 => by simp; omega
    unfold entry_fits entry_formOf entry_formOf_k4 entry_formOf_k3 entry_formOf_k2 entry_formOf_k1 entry_below entry_span_has
    simp only [n 1 (by omega) (by omega), n 2 (by omega) (by omega), n 3 (by omega) (by omega), n 4 (by omega) (by omega), n 5 (by omega) (by omega), n 6 (by omega) (by omega), n 7 (by omega) (by omega), n 8 (by omega) (by omega), n 9 (by omega) (by omega), n 10 (by omega) (by omega), n 11 (by omega) (by omega), n 12 (by omega) (by omega), n 13 (by omega) (by omega), n 14 (by omega) (by omega), n 15 (by omega) (by omega), n 16 (by omega) (by omega), Option.bind_some, cond_false, cond_true, Bool.not_false, Bool.true_or]
    refine ⟨false, rfl, ?_⟩
    constructor
    · intro q; cases q
    · intro q
      exfalso
      have q := q.2
      unfold FitK at q
      rcases q with q | q | q | q | q | q | q | q | q | q | q | q | q <;> (have q := q.1; omega)
theorem fitK_kind [Fuel] : FitK { tenants := ((c.Tenants.length : Nat) : Int), cells := ((c.Cells.length : Nat) : Int), regions := c.Regions, versions := ((c.Versions.length : Nat) : Int) } e ↔ KindP c e := by
  constructor
  · intro q
    unfold FitK at q
    rcases q with q | q | q | q | q | q | q | q | q | q | q | q | q
    · exact .place q.1 ⟨q.2.1, q.2.2.1⟩ ⟨q.2.2.2.1, q.2.2.2.2.1⟩ ⟨q.2.2.2.2.2.1, q.2.2.2.2.2.2.1, q.2.2.2.2.2.2.2.1⟩ (by unfold eN; omega) (by omega)
    · exact .grant q.1 ⟨q.2.1, q.2.2.1⟩ ⟨q.2.2.2.1, q.2.2.2.2.1⟩ (by unfold oN; omega) (by omega) (by omega) (by unfold vOk; simp only at q; omega)
    · exact .cut q.1 ⟨q.2.1, q.2.2.1⟩ (by omega) (by unfold oN; omega) (by omega) (by omega) (by omega)
    · exact .standby q.1 ⟨q.2.1, q.2.2.1⟩ ⟨q.2.2.2.1, q.2.2.2.2.1⟩ (by unfold oN; omega) (by unfold eN; omega) (by omega)
    · rcases q.1 with k | k
      · exact .ready k ⟨q.2.1, q.2.2.1⟩ ⟨q.2.2.2.1, q.2.2.2.2.1⟩ (by unfold oN; omega) (by unfold eN; omega) (by omega)
      · exact .migrate k ⟨q.2.1, q.2.2.1⟩ ⟨q.2.2.2.1, q.2.2.2.2.1⟩ (by unfold oN; omega) (by unfold eN; omega) (by omega)
    · exact .abandon q.1 ⟨q.2.1, q.2.2.1⟩ (by omega) (by unfold oN; omega) (by unfold eN; omega) (by omega)
    · exact .shed q.1 ⟨q.2.1, q.2.2.1⟩ (by omega) (by unfold oN; omega) (by unfold eN; omega) (by omega)
    · exact .mode q.1 (by omega) ⟨q.2.2.1, q.2.2.2.1⟩ (by unfold oN; omega) (by unfold eN; omega) (by omega)
    · rcases q.1 with k | k
      · exact .want k (by omega) ⟨q.2.2.1, q.2.2.2.1⟩ (by unfold oN; omega) (by unfold eN; omega) (by unfold vOk; simp only at q; omega)
      · exact .runs k (by omega) ⟨q.2.2.1, q.2.2.2.1⟩ (by unfold oN; omega) (by unfold eN; omega) (by unfold vOk; simp only at q; omega)
    · exact .prove q.1 (by omega) (by omega) (by unfold oN; omega) (by unfold eN; omega) (by unfold vOk; simp only at q; omega)
    · exact .evac q.1 (by omega) (by omega) ⟨q.2.2.2.1, q.2.2.2.2.1⟩ (by unfold eN; omega) (by omega)
    · rcases q.1 with k | k
      · exact .expand k (by omega) (by omega) (by unfold oN; omega) (by unfold eN; omega) (by omega)
      · exact .contract k (by omega) (by omega) (by unfold oN; omega) (by unfold eN; omega) (by omega)
    · exact .note q.1 (by omega) (by omega) (by unfold oN; omega) (by unfold eN; omega) (by omega)
  · intro q
    cases q with
    | place hk t ce o w n =>
      simp only [FitK, hk, Int.reduceEq, false_and, or_false, false_or, true_and, true_or, or_true, or_self]
      simp only [tOk, cOk, vOk, oN, eN] at t ce o w n
      omega
    | grant hk t ce o ep w n =>
      simp only [FitK, hk, Int.reduceEq, false_and, or_false, false_or, true_and, true_or, or_true, or_self]
      simp only [tOk, cOk, vOk, oN, eN] at t ce o ep w n
      omega
    | cut hk t ce o ep w n =>
      simp only [FitK, hk, Int.reduceEq, false_and, or_false, false_or, true_and, true_or, or_true, or_self]
      simp only [tOk, cOk, vOk, oN, eN] at t ce o ep w n
      omega
    | standby hk t ce o w n =>
      simp only [FitK, hk, Int.reduceEq, false_and, or_false, false_or, true_and, true_or, or_true, or_self]
      simp only [tOk, cOk, vOk, oN, eN] at t ce o w n
      omega
    | ready hk t ce o w n =>
      simp only [FitK, hk, Int.reduceEq, false_and, or_false, false_or, true_and, true_or, or_true, or_self]
      simp only [tOk, cOk, vOk, oN, eN] at t ce o w n
      omega
    | migrate hk t ce o w n =>
      simp only [FitK, hk, Int.reduceEq, false_and, or_false, false_or, true_and, true_or, or_true, or_self]
      simp only [tOk, cOk, vOk, oN, eN] at t ce o w n
      omega
    | abandon hk t ce o w n =>
      simp only [FitK, hk, Int.reduceEq, false_and, or_false, false_or, true_and, true_or, or_true, or_self]
      simp only [tOk, cOk, vOk, oN, eN] at t ce o w n
      omega
    | shed hk t ce o w n =>
      simp only [FitK, hk, Int.reduceEq, false_and, or_false, false_or, true_and, true_or, or_true, or_self]
      simp only [tOk, cOk, vOk, oN, eN] at t ce o w n
      omega
    | mode hk t ce o w n =>
      simp only [FitK, hk, Int.reduceEq, false_and, or_false, false_or, true_and, true_or, or_true, or_self]
      simp only [tOk, cOk, vOk, oN, eN] at t ce o w n
      omega
    | want hk t ce o w n =>
      simp only [FitK, hk, Int.reduceEq, false_and, or_false, false_or, true_and, true_or, or_true, or_self]
      simp only [tOk, cOk, vOk, oN, eN] at t ce o w n
      omega
    | runs hk t ce o w n =>
      simp only [FitK, hk, Int.reduceEq, false_and, or_false, false_or, true_and, true_or, or_true, or_self]
      simp only [tOk, cOk, vOk, oN, eN] at t ce o w n
      omega
    | prove hk t ce o w n =>
      simp only [FitK, hk, Int.reduceEq, false_and, or_false, false_or, true_and, true_or, or_true, or_self]
      simp only [tOk, cOk, vOk, oN, eN] at t ce o w n
      omega
    | evac hk t ce o w n =>
      simp only [FitK, hk, Int.reduceEq, false_and, or_false, false_or, true_and, true_or, or_true, or_self]
      simp only [tOk, cOk, vOk, oN, eN] at t ce o w n
      omega
    | expand hk t ce o w n =>
      simp only [FitK, hk, Int.reduceEq, false_and, or_false, false_or, true_and, true_or, or_true, or_self]
      simp only [tOk, cOk, vOk, oN, eN] at t ce o w n
      omega
    | contract hk t ce o w n =>
      simp only [FitK, hk, Int.reduceEq, false_and, or_false, false_or, true_and, true_or, or_true, or_self]
      simp only [tOk, cOk, vOk, oN, eN] at t ce o w n
      omega
    | note hk t ce o w n =>
      simp only [FitK, hk, Int.reduceEq, false_and, or_false, false_or, true_and, true_or, or_true, or_self]
      simp only [tOk, cOk, vOk, oN, eN] at t ce o w n
      omega
theorem entry_valid [Fuel] (h : VC c) : entry_Valid c e = some (validB c e) := by
  have htl := h.tl; have hcl := h.cl; have hvl := h.vl; have hreg := h.reg
  obtain ⟨s, s1, s2⟩ := entry_fits_ok (e := e) { tenants := 32, cells := 16, regions := 4, versions := 30 } (by simp only; omega)
  obtain ⟨f, f1, f2⟩ := entry_fits_ok (e := e) { tenants := ((c.Tenants.length : Nat) : Int), cells := ((c.Cells.length : Nat) : Int), regions := c.Regions, versions := ((c.Versions.length : Nat) : Int) } (by simp only; omega)
  rw [fitK_kind] at f2
  unfold entry_Valid entry_Shape
  simp only [s1, f1, Option.bind_some, bifS, and_bif]
  congr 1
  rw [Bool.eq_iff_iff, (valid_eq (e := e) h).2, Bool.and_eq_true, s2, f2]
  unfold ValidP
  constructor
  · intro q; exact q.2
  · intro q
    refine ⟨⟨q.1, ?_⟩, q⟩
    have hf := fitK_kind.2 q.2
    unfold FitK at hf ⊢
    simp only at hf ⊢
    rcases hf with q | q | q | q | q | q | q | q | q | q | q | q | q
    · exact .inl (by omega)
    · exact .inr (.inl (by omega))
    · exact .inr (.inr (.inl (by omega)))
    · exact .inr (.inr (.inr (.inl (by omega))))
    · exact .inr (.inr (.inr (.inr (.inl (by omega)))))
    · exact .inr (.inr (.inr (.inr (.inr (.inl (by omega))))))
    · exact .inr (.inr (.inr (.inr (.inr (.inr (.inl (by omega)))))))
    · exact .inr (.inr (.inr (.inr (.inr (.inr (.inr (.inl (by omega))))))))
    · exact .inr (.inr (.inr (.inr (.inr (.inr (.inr (.inr (.inl (by omega)))))))))
    · exact .inr (.inr (.inr (.inr (.inr (.inr (.inr (.inr (.inr (.inl (by omega))))))))))
    · exact .inr (.inr (.inr (.inr (.inr (.inr (.inr (.inr (.inr (.inr (.inl (by omega)))))))))))
    · exact .inr (.inr (.inr (.inr (.inr (.inr (.inr (.inr (.inr (.inr (.inr (.inl (by omega))))))))))))
    · exact .inr (.inr (.inr (.inr (.inr (.inr (.inr (.inr (.inr (.inr (.inr (.inr (by omega))))))))))))
end
end Go.CP
namespace Go.CP
open Go
set_option linter.unusedSimpArgs false
set_option linter.unusedVariables false
section
variable {c : ApiConfig} {s : ApiState} {e : ApiEntry}
theorem shr_and [Fuel] {a i : Int} (ha : 0 ≤ a ∧ a < 1073741824) (hi : 0 ≤ i) : andK .i64 (shrK .i64 a i) 1 = a / 2 ^ (min i.toNat 64) % 2 := by
  unfold shrK
  rw [fdiv_pow ha.1]
  show andK .i64 (a / 2 ^ (min i.toNat 64)) 1 = _
  have h1 : 0 ≤ a / 2 ^ (min i.toNat 64) := Int.ediv_nonneg ha.1 (Int.le_of_lt (Int.pow_pos (by decide)))
  have h2 : a / 2 ^ (min i.toNat 64) ≤ a := Int.ediv_le_self _ ha.1
  exact and_one h1 (by omega)
theorem big_zero [Fuel] {a : Int} (ha : 0 ≤ a ∧ a < 1073741824) {n : Nat} (hn : 30 ≤ n) : a / 2 ^ n = 0 := by
  apply Int.ediv_eq_zero_of_lt ha.1
  have h1 : (2 : Int) ^ 30 ≤ 2 ^ n := by
    have : (2 : Nat) ^ 30 ≤ 2 ^ n := Nat.pow_le_pow_right (by decide) hn
    exact_mod_cast this
  have h2 : (2 : Int) ^ 30 = 1073741824 := by decide
  omega
theorem st_has [Fuel] {a i : Int} (ha : 0 ≤ a ∧ a < 1073741824) : state_has a i = some (hasB a i) := by
  unfold state_has hasB
  by_cases h0 : 0 ≤ i
  · rw [shr_and ha h0]
    have e1 : (!((decide (0 ≤ i)) && (decide (i < 64))) || decide ((0 : Int) ≤ i)) = true := by rw [decide_eq_true h0]; simp
    rw [chk_ok e1]
    by_cases h1 : i < 62
    · rw [decide_eq_true h0, decide_eq_true (show i < 64 by omega), decide_eq_true (⟨h0, h1⟩ : 0 ≤ i ∧ i < 62), Nat.min_eq_left (by omega)]
      simp only [Bool.and_self, Bool.true_and]
      congr 1
    · have z : a / 2 ^ (min i.toNat 64) = 0 := big_zero ha (by omega)
      rw [z, decide_eq_false (show ¬ (0 ≤ i ∧ i < 62) by omega)]
      simp
  · rw [decide_eq_false h0, decide_eq_false (show ¬ (0 ≤ i ∧ i < 62) by omega)]
    rfl
theorem st_frozen [Fuel] (h : VC c) (hv : VS c s) (i : Int) : state_frozen c s i = some (frzB c s i) := by
  have := hv.evac
  unfold state_frozen frzB
  simp only [topo_region h, Option.bind_some, st_has (show 0 ≤ s.Evacuating ∧ s.Evacuating < 1073741824 by omega)]
theorem tn_may [Fuel] (h : VC c) (t i : Int) : tenant_May c t i = some (mayB c t i) := by
  have htl := h.tl
  unfold tenant_May mayB tenant_within
  simp only [topo_region h, Option.bind_some]
  rw [w64_eq (by omega) (by omega)]
  by_cases ht : 0 ≤ t ∧ t < (c.Tenants.length : Int)
  · have e1 : (decide (0 ≤ t) && decide (t ≤ ((c.Tenants.length : Nat) : Int) - 1)) = true := by simp; omega
    have ha := allowed_bound h ht
    rw [e1, decide_eq_true ht]
    simp only [Bool.true_and]
    by_cases hr : 0 ≤ regionOf c i
    · have hb := region_bound h i
      have hreg := h.reg
      rw [decide_eq_true hr]
      simp (disch := omega) only [ixG_ok', u64_eq]
      rw [chk_ok (by rw [decide_eq_true hr]; simp), shr_and (by omega) hr, Nat.min_eq_left (by omega)]
      unfold hasB
      rw [decide_eq_true (show 0 ≤ regionOf c i ∧ regionOf c i < 62 by omega)]
      simp only [Bool.true_and]
      congr 1
    · rw [decide_eq_false hr]
      unfold hasB
      rw [decide_eq_false (show ¬ (0 ≤ regionOf c i ∧ regionOf c i < 62) by omega)]
      rfl
  · have e1 : (decide (0 ≤ t) && decide (t ≤ ((c.Tenants.length : Nat) : Int) - 1)) = false := by simp; omega
    rw [e1, decide_eq_false ht]
    rfl
theorem st_near [Fuel] (h : VC c) (a b : Int) : state_near c a b = some ((b != (-1)) && !(apartB c a b)) := by
  unfold state_near
  rw [tenant_apart h, bifS, Option.bind_some]
  cases (b != (-1)) <;> rfl
theorem st_mode [Fuel] {i : Int} (hi : 0 ≤ i ∧ i < ((s.Cells.length : Nat) : Int)) : state_modeOf s i = some (cAt s i).Mode := by
  unfold state_modeOf
  have e1 : (decide (i < 0) || decide (((s.Cells.length : Nat) : Int) ≤ i)) = false := by simp; omega
  rw [e1, cond_false, ixL_ok hi.1 hi.2]; rfl
theorem st_ver [Fuel] {i : Int} (hi : 0 ≤ i ∧ i < ((c.Versions.length : Nat) : Int)) : state_versionOf c i = some (c.Versions.getD i.toNat default) := by
  unfold state_versionOf
  have e1 : (decide (i < 0) || decide (((c.Versions.length : Nat) : Int) ≤ i)) = false := by simp; omega
  rw [e1, cond_false, ixL_ok hi.1 hi.2]
theorem ne_neg [Fuel] {i : Int} (hi : -1 ≤ i) : (i != (-1)) = decide (0 ≤ i) := by
  by_cases h : 0 ≤ i
  · rw [decide_eq_true h]; simp; omega
  · have : i = -1 := by omega
    subst this; rfl
theorem eq_neg [Fuel] {i : Int} (hi : -1 ≤ i) : (i == (-1)) = decide (i < 0) := by
  by_cases h : i < 0
  · rw [decide_eq_true h]; have : i = -1 := by omega
    subst this; rfl
  · rw [decide_eq_false h]; simp; omega
def outS (x : Int) (n : ApiState × Int) : ApiState × Int := bif x != 0 then noS x else n
theorem place_p [Fuel] (h : VC c) (hv : VS c s) (t : tOk c e) (ce : cOk c e) (o : -1 ≤ e.Other ∧ e.Other < (c.Cells.length : Int)) :
    Ok (state_place c s e) (fun x => placeS c (bump s e) e = outS x (fitS c (setT (bump s e) e.Tenant (placeT (tAt s e.Tenant) e)))) := by
  have h1 := tlen hv t
  have h2 := clen hv ce
  have hcl := hv.cl
  unfold state_place state_place_k3 state_place_k2 state_place_k1 placeS
  rw [ixL_ok h1.1 h1.2, st_mode h2, ne_neg o.1]
  simp only [Option.bind_some, st_frozen h hv, tn_may h, st_near h, ne_neg o.1]
  have t0 : tAt (bump s e) e.Tenant = tAt s e.Tenant := rfl
  have c0 : ∀ i, cAt (bump s e) i = cAt s i := fun _ => rfl
  have f0 : ∀ i, frzB c (bump s e) i = frzB c s i := fun _ => rfl
  rw [t0]
  simp only [c0, f0]
  show Ok (bif (tAt s e.Tenant).Placed then _ else _) _
  have tg : togetherB c e.Cell e.Other = (decide (0 ≤ e.Other) && !(apartB c e.Cell e.Other)) := by unfold togetherB; rw [decide_eq_true h2.1]; rfl
  rw [tg]
  by_cases ho : 0 ≤ e.Other
  · rw [decide_eq_true ho, st_mode (s := s) (i := e.Other) (by omega)]
    simp only [cond_true, Bool.true_and, Option.bind_some]
    cases (tAt s e.Tenant).Placed with
    | true => exact Ok.some rfl
    | false =>
      cases ((cAt s e.Cell).Mode != 1) with
      | true => exact Ok.some rfl
      | false =>
        cases ((cAt s e.Other).Mode != 1) with
        | true => exact Ok.some rfl
        | false =>
          cases frzB c s e.Cell with
          | true => exact Ok.some rfl
          | false =>
            cases frzB c s e.Other with
            | true => exact Ok.some rfl
            | false =>
              cases mayB c e.Tenant e.Cell with
              | false => exact Ok.some rfl
              | true =>
                cases mayB c e.Tenant e.Other with
                | false => exact Ok.some rfl
                | true => cases apartB c e.Cell e.Other <;> exact Ok.some rfl
  · rw [decide_eq_false ho]
    simp only [cond_false, Bool.false_and, Option.bind_some, Bool.or_false]
    cases (tAt s e.Tenant).Placed with
    | true => exact Ok.some rfl
    | false =>
      cases ((cAt s e.Cell).Mode != 1) with
      | true => exact Ok.some rfl
      | false =>
        cases frzB c s e.Cell with
        | true => exact Ok.some rfl
        | false => cases mayB c e.Tenant e.Cell <;> exact Ok.some rfl
theorem standby_p [Fuel] (h : VC c) (hI : Inv c s) (t : tOk c e) (ce : -1 ≤ e.Cell ∧ e.Cell < (c.Cells.length : Int)) (hp : e.Tick ≥ s.Tick) :
    Ok (state_standby c s e) (fun x => standbyS c (bump s e) e = outS x (bif decide (e.Cell < 0) then (setT (bump s e) e.Tenant { tAt s e.Tenant with Next := e.Cell }, 0) else fitS c (setT (bump s e) e.Tenant { tAt s e.Tenant with Next := e.Cell }))) := by
  have hv := hI.vs
  have h1 := tlen hv t
  have hcl := hv.cl
  have hT := ts_at hv h1
  unfold state_standby state_standby_k2 state_standby_k1 standbyS
  rw [ixL_ok h1.1 h1.2, eq_neg ce.1]
  have t0 : tAt (bump s e) e.Tenant = tAt s e.Tenant := rfl
  have c0 : ∀ i, cAt (bump s e) i = cAt s i := fun _ => rfl
  have f0 : ∀ i, frzB c (bump s e) i = frzB c s i := fun _ => rfl
  rw [t0]
  simp only [c0, f0]
  show Ok (bif !(tAt s e.Tenant).Placed then _ else _) _
  have hg : (s.Tenants.getD e.Tenant.toNat default) = tAt s e.Tenant := rfl
  rw [hg]
  have key : (tAt s e.Tenant).Placed = true → e.Cell < 0 → overS c (setT (bump s e) e.Tenant { tAt s e.Tenant with Next := e.Cell }) = [] := by
    intro hpl hc
    refine over_less h1 hI.ov (fun j => ?_)
    unfold tOk at t
    have hd := tenant_nn h t
    unfold dl
    simp only [hpl, if_true]
    have z := hit_neg (i := e.Cell) (n := (c.Tenants.getD e.Tenant.toNat default).Shadow) hc j
    have p := hit_nn (i := (tAt s e.Tenant).Next) hd.2 j
    rw [z]; omega
  cases hpl : (tAt s e.Tenant).Placed with
  | false => exact Ok.some rfl
  | true =>
    simp only [Bool.not_true, cond_false]
    by_cases hc : e.Cell < 0
    · rw [decide_eq_true hc]
      simp only [cond_true]
      refine Ok.some ?_
      have k2 := key hpl hc
      simp only [hpl] at k2 ⊢
      rw [fit_ok k2]; rfl
    · rw [decide_eq_false hc]
      have hce : 0 ≤ e.Cell ∧ e.Cell < ((s.Cells.length : Nat) : Int) := by omega
      simp only [cond_false, st_mode hce, Option.bind_some, st_frozen h hv, tn_may h, st_near h, tenant_apart h, ne_neg hT.tg.1]
      have hh : 0 ≤ (tAt s e.Tenant).Home := hT.pl hpl
      have tg1 : togetherB c e.Cell (tAt s e.Tenant).Home = !(apartB c e.Cell (tAt s e.Tenant).Home) := by unfold togetherB; rw [decide_eq_true hce.1, decide_eq_true hh]; rfl
      have tg2 : togetherB c e.Cell (tAt s e.Tenant).Target = (decide (0 ≤ (tAt s e.Tenant).Target) && !(apartB c e.Cell (tAt s e.Tenant).Target)) := by unfold togetherB; rw [decide_eq_true hce.1]; rfl
      rw [tg1, tg2]
      generalize fitS c _ = R
      generalize (decide (0 ≤ (tAt s e.Tenant).Target) && !(apartB c e.Cell (tAt s e.Tenant).Target)) = b9
      cases (e.Cell == (tAt s e.Tenant).Home) with
      | true => exact Ok.some rfl
      | false =>
        cases (e.Cell == (tAt s e.Tenant).Standby) with
        | true => exact Ok.some rfl
        | false =>
          cases (e.Cell == (tAt s e.Tenant).Target) with
          | true => exact Ok.some rfl
          | false =>
            cases ((cAt s e.Cell).Mode != 1) with
            | true => exact Ok.some rfl
            | false =>
              cases frzB c s e.Cell with
              | true => exact Ok.some rfl
              | false =>
                cases mayB c e.Tenant e.Cell with
                | false => exact Ok.some rfl
                | true =>
                  cases apartB c e.Cell (tAt s e.Tenant).Home with
                  | false => exact Ok.some rfl
                  | true => cases b9 <;> exact Ok.some rfl
theorem ready_p [Fuel] (h : VC c) (hv : VS c s) (t : tOk c e) (ce : cOk c e) :
    Ok (state_ready s e) (fun x => readyS (bump s e) e = outS x (setT (bump s e) e.Tenant { tAt s e.Tenant with Standby := e.Cell, Next := -1 }, 0)) := by
  have h1 := tlen hv t
  have h2 := clen hv ce
  unfold state_ready readyS
  rw [ixL_ok h1.1 h1.2, st_mode h2]
  show Ok (bif !(tAt s e.Tenant).Placed then _ else _) _
  have t0 : tAt (bump s e) e.Tenant = tAt s e.Tenant := rfl
  have c0 : ∀ i, cAt (bump s e) i = cAt s i := fun _ => rfl
  have hg : (s.Tenants.getD e.Tenant.toNat default) = tAt s e.Tenant := rfl
  rw [t0, c0, hg]
  simp only [Option.bind_some]
  cases (tAt s e.Tenant).Placed with
  | false => exact Ok.some rfl
  | true =>
    cases (e.Cell != (tAt s e.Tenant).Next) with
    | true => exact Ok.some rfl
    | false => cases ((cAt s e.Cell).Mode == 3) <;> exact Ok.some rfl
theorem migrate_p [Fuel] (h : VC c) (hv : VS c s) (t : tOk c e) (ce : cOk c e) :
    Ok (state_migrate c s e) (fun x => migrateS c (bump s e) e = outS x (fitS c (setT (bump s e) e.Tenant { tAt s e.Tenant with Target := e.Cell }))) := by
  have h1 := tlen hv t
  have h2 := clen hv ce
  have hT := ts_at hv h1
  unfold state_migrate state_migrate_k3 state_migrate_k2 state_migrate_k1 migrateS
  rw [ixL_ok h1.1 h1.2]
  have t0 : tAt (bump s e) e.Tenant = tAt s e.Tenant := rfl
  have c0 : ∀ i, cAt (bump s e) i = cAt s i := fun _ => rfl
  have f0 : ∀ i, frzB c (bump s e) i = frzB c s i := fun _ => rfl
  have hg : (s.Tenants.getD e.Tenant.toNat default) = tAt s e.Tenant := rfl
  rw [t0, hg]
  simp only [c0, f0, st_mode h2, Option.bind_some, st_frozen h hv, tn_may h, st_near h, ne_neg hT.tg.1, ne_neg hT.sb.1, ne_neg hT.nx.1]
  have tg1 : togetherB c e.Cell (tAt s e.Tenant).Standby = (decide (0 ≤ (tAt s e.Tenant).Standby) && !(apartB c e.Cell (tAt s e.Tenant).Standby)) := by unfold togetherB; rw [decide_eq_true h2.1]; rfl
  have tg2 : togetherB c e.Cell (tAt s e.Tenant).Next = (decide (0 ≤ (tAt s e.Tenant).Next) && !(apartB c e.Cell (tAt s e.Tenant).Next)) := by unfold togetherB; rw [decide_eq_true h2.1]; rfl
  rw [tg1, tg2]
  generalize fitS c _ = R
  generalize (decide (0 ≤ (tAt s e.Tenant).Standby) && !(apartB c e.Cell (tAt s e.Tenant).Standby)) = b8
  generalize (decide (0 ≤ (tAt s e.Tenant).Next) && !(apartB c e.Cell (tAt s e.Tenant).Next)) = b9
  generalize decide (0 ≤ (tAt s e.Tenant).Target) = b7
  cases (tAt s e.Tenant).Placed with
  | false => exact Ok.some rfl
  | true =>
    cases (tAt s e.Tenant).Shed with
    | true => exact Ok.some rfl
    | false =>
      cases b7 with
      | true => exact Ok.some rfl
      | false =>
        cases (e.Cell == (tAt s e.Tenant).Home) with
        | true => exact Ok.some rfl
        | false =>
          cases (e.Cell == (tAt s e.Tenant).Standby) with
          | true => exact Ok.some rfl
          | false =>
            cases (e.Cell == (tAt s e.Tenant).Next) with
            | true => exact Ok.some rfl
            | false =>
              cases ((cAt s e.Cell).Mode != 1) with
              | true => exact Ok.some rfl
              | false =>
                cases frzB c s e.Cell with
                | true => exact Ok.some rfl
                | false =>
                  cases mayB c e.Tenant e.Cell with
                  | false => exact Ok.some rfl
                  | true =>
                    cases b8 with
                    | true => exact Ok.some rfl
                    | false => cases b9 <;> exact Ok.some rfl
theorem abandon_p [Fuel] (hv : VS c s) (t : tOk c e) : Ok (state_abandon s e) (fun x => abandonS (bump s e) e = outS x (setT (bump s e) e.Tenant { tAt s e.Tenant with Target := -1 }, 0)) := by
  have h1 := tlen hv t
  have hT := ts_at hv h1
  unfold state_abandon abandonS
  have t0 : tAt (bump s e) e.Tenant = tAt s e.Tenant := rfl
  have hg : (s.Tenants.getD e.Tenant.toNat default) = tAt s e.Tenant := rfl
  rw [ixL_ok h1.1 h1.2, t0, hg, eq_neg hT.tg.1]
  dsimp only
  cases (!(tAt s e.Tenant).Placed || decide ((tAt s e.Tenant).Target < 0)) <;> exact Ok.some rfl
theorem shed_p [Fuel] (h : VC c) (hv : VS c s) (t : tOk c e) (n : e.N = 0 ∨ e.N = 1) :
    Ok (state_shed s e) (fun x => shedS c (bump s e) e = outS x (bif e.N == 1 then (setT (bump s e) e.Tenant { tAt s e.Tenant with Shed := true, Target := -1 }, 0) else fitS c (setT (bump s e) e.Tenant { tAt s e.Tenant with Shed := false }))) := by
  have h1 := tlen hv t
  have hT := ts_at hv h1
  have hcl := hv.cl
  unfold state_shed state_shed_k1 shedS
  have t0 : tAt (bump s e) e.Tenant = tAt s e.Tenant := rfl
  have c0 : ∀ i, cAt (bump s e) i = cAt s i := fun _ => rfl
  have hg : (s.Tenants.getD e.Tenant.toNat default) = tAt s e.Tenant := rfl
  rw [ixL_ok h1.1 h1.2, t0, hg]
  dsimp only
  rw [c0]
  rcases n with n | n
  · rw [n]
    simp only [Int.reduceBEq, cond_true, cond_false]
    cases hs : (tAt s e.Tenant).Shed with
    | false => exact Ok.some rfl
    | true =>
      have hh := hT.pl (hT.sh hs)
      have := hT.home
      rw [st_mode (s := s) (i := (tAt s e.Tenant).Home) (by omega)]
      simp only [Bool.not_true, cond_false, Option.bind_some]
      cases ((cAt s (tAt s e.Tenant).Home).Mode == 3) <;> exact Ok.some rfl
  · rw [n]
    simp only [Int.reduceBEq, cond_true, cond_false]
    cases (tAt s e.Tenant).Placed with
    | false => exact Ok.some rfl
    | true =>
      cases (tAt s e.Tenant).Shed with
      | true => exact Ok.some rfl
      | false => cases decide (e.Tick < (tAt s e.Tenant).Window.Until) <;> exact Ok.some rfl
theorem cut_p [Fuel] (hv : VS c s) (t : tOk c e) : Ok (state_cut s e) (fun x => cutS (bump s e) e = outS x (setT (bump s e) e.Tenant { tAt s e.Tenant with Window := cutW (tAt s e.Tenant).Window e.Tick }, 0)) := by
  have h1 := tlen hv t
  unfold state_cut cutS
  have t0 : tAt (bump s e) e.Tenant = tAt s e.Tenant := rfl
  have hg : (s.Tenants.getD e.Tenant.toNat default) = tAt s e.Tenant := rfl
  rw [ixL_ok h1.1 h1.2, t0, hg]
  dsimp only
  cases (tAt s e.Tenant).Placed with
  | false => exact Ok.some rfl
  | true => cases (e.Epoch != (tAt s e.Tenant).Epoch) <;> exact Ok.some rfl
theorem grant_p [Fuel] (h : VC c) (hv : VS c s) (t : tOk c e) (ce : cOk c e) (hk : 0 ≤ e.Tick ∧ e.Tick ≤ 1073741824) (w : 0 ≤ e.From ∧ e.From ≤ 1073741824 ∧ 0 ≤ e.Until ∧ e.Until ≤ 1073741824) :
    Ok (state_grant c s e) (fun x => grantS c (bump s e) e = outS x (fitS c (setT (bump s e) e.Tenant (afterGrant (tAt s e.Tenant) e)))) := by
  have h1 := tlen hv t
  have h2 := clen hv ce
  have hT := ts_at hv h1
  have hle := h.lease
  have hep := hT.ep
  unfold state_grant state_grant_k5 state_grant_k4 state_grant_k3 state_grant_k2 state_grant_k1 grantS grantedS
  have t0 : tAt (bump s e) e.Tenant = tAt s e.Tenant := rfl
  have c0 : ∀ i, cAt (bump s e) i = cAt s i := fun _ => rfl
  have hg : (s.Tenants.getD e.Tenant.toNat default) = tAt s e.Tenant := rfl
  have hg2 : (s.Cells.getD e.Cell.toNat default) = cAt s e.Cell := rfl
  rw [ixL_ok h1.1 h1.2, ixL_ok h2.1 h2.2, t0, hg, hg2]
  dsimp only
  rw [c0]
  rw [w64_eq (x := (tAt s e.Tenant).Epoch + 1) (by omega) (by omega), w64_eq (x := e.Tick + c.Lease) (by omega) (by omega), w64_eq (x := e.Until - e.From) (by omega) (by omega)]
  generalize fitS c _ = R
  simp only [bne]
  generalize (e.Cell == (tAt s e.Tenant).Home) = b1
  generalize (e.Cell == (tAt s e.Tenant).Standby) = b2
  generalize (e.Cell == (tAt s e.Tenant).Target) = b3
  generalize ((cAt s e.Cell).Mode == 3) = b4
  generalize ((cAt s e.Cell).Mode == 2) = b5
  generalize (e.Epoch == (tAt s e.Tenant).Epoch) = b6
  generalize (e.Epoch == (tAt s e.Tenant).Epoch + 1) = b7
  generalize (e.N == (cAt s e.Cell).Running) = b8
  generalize ((cAt s e.Cell).Running == (cAt s e.Cell).Wanted) = b9
  generalize decide (e.From < e.Tick) = d1
  generalize decide (e.Tick + c.Lease < e.From) = d2
  generalize decide (e.Until ≤ e.From) = d3
  generalize decide (c.Lease < e.Until - e.From) = d4
  generalize decide (e.From < (tAt s e.Tenant).Window.Until) = d5
  generalize decide (e.Tick < (tAt s e.Tenant).Window.Until) = d6
  cases (tAt s e.Tenant).Placed with
  | false => exact Ok.some rfl
  | true =>
    cases (tAt s e.Tenant).Shed <;> cases b2 <;> first
      | (exact Ok.some rfl)
      | (cases b1 <;> cases b3 <;> first
          | (exact Ok.some rfl)
          | (cases b4 with
             | true => exact Ok.some rfl
             | false =>
               cases b5 <;> first
                 | (exact Ok.some rfl)
                 | (cases b6 <;> cases b7 <;> first
                     | (exact Ok.some rfl)
                     | (cases b8 with
                        | false => exact Ok.some rfl
                        | true =>
                          cases b9 with
                          | false => exact Ok.some rfl
                          | true =>
                            cases d1 with
                            | true => exact Ok.some rfl
                            | false =>
                              cases d2 with
                              | true => exact Ok.some rfl
                              | false =>
                                cases d3 with
                                | true => exact Ok.some rfl
                                | false =>
                                  cases d4 with
                                  | true => exact Ok.some rfl
                                  | false =>
                                    cases d5 with
                                    | true => exact Ok.some rfl
                                    | false => cases d6 <;> exact Ok.some rfl))))
end
end Go.CP
namespace Go.CP
open Go
set_option linter.unusedSimpArgs false
set_option linter.unusedVariables false
section
variable {c : ApiConfig} {s : ApiState} {e : ApiEntry}
theorem mode_p [Fuel] (hv : VS c s) (ce : cOk c e) : Ok (state_mode s e) (fun x => modeS (bump s e) e = outS x (setC (bump s e) e.Cell { cAt s e.Cell with Mode := e.N, Since := e.Tick }, 0)) := by
  have h2 := clen hv ce
  unfold state_mode modeS
  have c0 : ∀ i, cAt (bump s e) i = cAt s i := fun _ => rfl
  have hg2 : (s.Cells.getD e.Cell.toNat default) = cAt s e.Cell := rfl
  rw [ixL_ok h2.1 h2.2, c0, hg2]
  cases ((cAt s e.Cell).Mode == e.N) <;> exact Ok.some rfl
def openF (s : ApiState) : Nat → List Int
  | 0 => []
  | k + 1 => bif openB s (k : Int) then openF s k ++ [(k : Int)] else openF s k
theorem openF_len [Fuel] (s : ApiState) : ∀ k, (openF s k).length ≤ k
  | 0 => Nat.le_refl 0
  | k + 1 => by
    have := openF_len s k
    rw [openF]
    cases openB s (k : Int) with
    | true => simp; omega
    | false => simp; omega
def cntF (cell : Int) (l : List Int) : Nat → Int
  | 0 => 0
  | k + 1 => (bif l.getD k default != cell then cntF cell l k + 1 else cntF cell l k)
theorem cntF_bd [Fuel] (cell : Int) (l : List Int) : ∀ k, 0 ≤ cntF cell l k ∧ cntF cell l k ≤ k
  | 0 => by simp [cntF]
  | k + 1 => by
    have := cntF_bd cell l k
    rw [cntF]
    cases (l.getD k default != cell) <;> simp <;> omega
theorem cntF_app [Fuel] (cell : Int) (l m : List Int) : ∀ k, k ≤ l.length → cntF cell (l ++ m) k = cntF cell l k
  | 0, _ => rfl
  | k + 1, hk => by
    rw [cntF, cntF, cntF_app cell l m k (by omega)]
    have : (l ++ m).getD k default = l.getD k default := by simp [List.getD_eq_getElem?_getD, List.getElem?_append_left (show k < l.length by omega)]
    rw [this]
theorem cnt_open [Fuel] (s : ApiState) (cell : Int) : ∀ k, cntF cell (openF s k) (openF s k).length = othersF s cell k
  | 0 => rfl
  | k + 1 => by
    have ih := cnt_open s cell k
    rw [openF]
    unfold othersF
    cases ho : openB s (k : Int) with
    | false =>
      simp only [cond_false]
      rw [ih]
      simp [ho]
    | true =>
      simp only [cond_true, List.length_append, List.length_singleton]
      rw [cntF, cntF_app _ _ _ _ (Nat.le_refl _), ih]
      have : (openF s k ++ [(k : Int)]).getD (openF s k).length default = (k : Int) := by simp [List.getD_eq_getElem?_getD]
      rw [this]
      by_cases hq : (k : Int) = cell
      · simp [hq]
      · simp [hq, ho]
theorem unproven_eq [Fuel] (h : VC c) (hv : VS c s) : state_Unproven s = some (openF s s.Cells.length) := by
  apply eqOk
  have hcl := hv.cl
  have hcl2 := h.cl
  have hp := hv.prov
  unfold state_Unproven
  refine loop0 (L := fun m x i => state_Unproven_l2 s s.Cells ((s.Cells.length : Nat) : Int) m x i) s.Cells.length (by omega) (fun k x => x = openF s k) rfl ?_ ?_
  · rintro m k x hk rfl ih
    show Ok (state_Unproven_l2 s s.Cells _ (m + 1) (openF s k) k) _
    have hol := openF_len s k
    rw [state_Unproven_l2]
    unfold state_Unproven_k1
    simp (disch := omega) only [condT, ixL_ok, Int.toNat_natCast, st_has hp, bifS, Option.bind_some, w64_eq]
    have e1 : ((!hasB s.Proven (s.Cells.getD k default).Running) || !(bif !(!hasB s.Proven (s.Cells.getD k default).Running) then hasB s.Proven (s.Cells.getD k default).Wanted else default)) = openB s (k : Int) := by
      unfold openB provenB cAt
      rw [Int.toNat_natCast]
      cases hasB s.Proven (s.Cells.getD k default).Running <;> rfl
    rw [e1]
    have nx := ih (openF s (k + 1)) rfl
    rw [openF] at nx
    cases ho : openB s (k : Int) with
    | true =>
      rw [ho] at nx
      simp only [cond_true] at nx ⊢
      rw [chkD_ok (by simp only [List.length_singleton]; unfold room; omega)]
      exact nx
    | false =>
      rw [ho] at nx
      exact nx
  · rintro m x rfl
    show Ok (state_Unproven_l2 s s.Cells _ (m + 1) _ _) _
    rw [state_Unproven_l2]
    simp (disch := omega) only [condF]
    exact Ok.some rfl
theorem want_l2 [Fuel] (h : VC c) {l : List Int} (hl : l.length ≤ 1000) : state_want_l2 c e l ((l.length : Nat) : Int) fuel 0 0 = some (bif decide (c.Blast ≤ cntF e.Cell l l.length) then 14 else 0) := by
  apply eqOk
  refine loop0 (L := fun m x i => state_want_l2 c e l ((l.length : Nat) : Int) m x i) l.length (by omega) (fun k x => x = cntF e.Cell l k) rfl ?_ ?_
  · rintro m k x hk rfl ih
    show Ok (state_want_l2 c e l _ (m + 1) (cntF e.Cell l k) k) _
    have hb := cntF_bd e.Cell l k
    rw [state_want_l2]
    unfold state_want_k1
    simp (disch := omega) only [condT, ixL_ok, Int.toNat_natCast, w64_eq]
    have nx := ih (cntF e.Cell l (k + 1)) rfl
    rw [cntF] at nx
    cases hq : (l.getD k default != e.Cell) with
    | true => rw [hq] at nx; exact nx
    | false => rw [hq] at nx; exact nx
  · rintro m x rfl
    show Ok (state_want_l2 c e l _ (m + 1) _ _) _
    rw [state_want_l2]
    simp (disch := omega) only [condF]
    cases decide (c.Blast ≤ cntF e.Cell l l.length) <;> exact Ok.some rfl
theorem want_p [Fuel] (h : VC c) (hv : VS c s) (ce : cOk c e) (n : vOk c e) : Ok (state_want c s e) (fun x => wantS c (bump s e) e = outS x (setC (bump s e) e.Cell { cAt s e.Cell with Wanted := e.N }, 0)) := by
  have h2 := clen hv ce
  have hp := hv.prov
  have hcl := hv.cl
  have hcl2 := h.cl
  unfold vOk at n
  unfold state_want state_want_k4 state_want_k3 wantS
  have c0 : ∀ i, cAt (bump s e) i = cAt s i := fun _ => rfl
  have hg2 : (s.Cells.getD e.Cell.toNat default) = cAt s e.Cell := rfl
  have hol := openF_len s s.Cells.length
  rw [ixL_ok h2.1 h2.2, hg2]
  dsimp only
  rw [c0, st_ver n, unproven_eq h hv]
  simp only [Option.bind_some, st_has hp, others_bump]
  rw [want_l2 h (by omega), cnt_open]
  have p0 : provenB (bump s e) e.N = hasB s.Proven e.N := rfl
  have q0 : (bump s e).Cells.length = s.Cells.length := rfl
  have q1 : (bump s e).Evacuating = s.Evacuating := rfl
  have q2 : (bump s e).Low = s.Low := rfl
  have q3 : (bump s e).High = s.High := rfl
  rw [p0, q0, q1, q2, q3]
  have r0 : (e.N != (cAt s e.Cell).Running) = !((cAt s e.Cell).Running == e.N) := by rw [Bool.eq_iff_iff]; simp; exact ⟨fun a b => a b.symm, fun a b => a b.symm⟩
  rw [r0]
  generalize othersF s e.Cell s.Cells.length = ot
  cases ((cAt s e.Cell).Wanted == e.N) with
  | true => exact Ok.some rfl
  | false =>
    cases decide (s.Low < (c.Versions.getD e.N.toNat default).Low) with
    | true => exact Ok.some rfl
    | false =>
      cases decide ((c.Versions.getD e.N.toNat default).High < s.High) with
      | true => exact Ok.some rfl
      | false =>
        cases ((cAt s e.Cell).Running == e.N) with
        | true => exact Ok.some rfl
        | false =>
          cases hasB s.Proven e.N with
          | true => exact Ok.some rfl
          | false =>
            cases (s.Evacuating != 0) with
            | true => exact Ok.some rfl
            | false => cases decide (c.Blast ≤ ot) <;> exact Ok.some rfl
theorem any_get [Fuel] {α : Type} [Inhabited α] (p : α → Bool) (l : List α) : l.any p = true ↔ ∃ k, k < l.length ∧ p (l.getD k default) = true := by
  rw [List.any_eq_true]
  constructor
  · rintro ⟨x, hx, hp⟩
    obtain ⟨k, hk, rfl⟩ := List.getElem_of_mem hx
    exact ⟨k, hk, by simpa [List.getD_eq_getElem?_getD, hk] using hp⟩
  · rintro ⟨k, hk, hp⟩
    exact ⟨_, getD_mem hk, hp⟩
theorem runs_l1 [Fuel] (hl : s.Tenants.length ≤ 1000) : state_runs_l1 e s.Tenants ((s.Tenants.length : Nat) : Int) fuel 0 = some (bif s.Tenants.any (busyB e) then 9 else 0) := by
  apply eqOk
  refine loop0 (L := fun m (_ : Unit) i => state_runs_l1 e s.Tenants ((s.Tenants.length : Nat) : Int) m i) (x := ()) s.Tenants.length (by omega) (fun k _ => ∀ j, j < k → busyB e (s.Tenants.getD j default) = false) (fun j hj => by omega) ?_ ?_
  · rintro m k x hk hI ih
    show Ok (state_runs_l1 e s.Tenants _ (m + 1) k) _
    rw [state_runs_l1]
    simp (disch := omega) only [condT, ixL_ok, Int.toNat_natCast, w64_eq]
    show Ok (bif busyB e (s.Tenants.getD k default) then _ else _) _
    cases hb : busyB e (s.Tenants.getD k default) with
    | true =>
      have : s.Tenants.any (busyB e) = true := (any_get _ _).2 ⟨k, hk, hb⟩
      rw [this]; exact Ok.some rfl
    | false =>
      exact ih () (fun j hj => by
        by_cases q : j = k
        · exact q ▸ hb
        · exact hI j (by omega))
  · rintro m x hI
    show Ok (state_runs_l1 e s.Tenants _ (m + 1) _) _
    rw [state_runs_l1]
    simp (disch := omega) only [condF]
    have : s.Tenants.any (busyB e) = false := by
      cases hq : s.Tenants.any (busyB e) with
      | false => rfl
      | true => obtain ⟨k, hk, hp⟩ := (any_get _ _).1 hq; rw [hI k hk] at hp; cases hp
    rw [this]; exact Ok.some rfl
theorem runs_p [Fuel] (h : VC c) (hv : VS c s) (ce : cOk c e) (n : vOk c e) : Ok (state_runs s e) (fun x => runsS (bump s e) e = outS x (setC (bump s e) e.Cell { cAt s e.Cell with Running := e.N, Since := e.Tick }, 0)) := by
  have h2 := clen hv ce
  have hp := hv.prov
  have htl := hv.tl
  have htl2 := h.tl
  unfold state_runs state_runs_k2 runsS
  have c0 : ∀ i, cAt (bump s e) i = cAt s i := fun _ => rfl
  have hg2 : (s.Cells.getD e.Cell.toNat default) = cAt s e.Cell := rfl
  rw [ixL_ok h2.1 h2.2, hg2]
  dsimp only
  rw [c0, runs_l1 (by omega)]
  simp only [Option.bind_some, st_has hp]
  have p0 : provenB (bump s e) e.N = hasB s.Proven e.N := rfl
  have q0 : (bump s e).Tenants = s.Tenants := rfl
  have q1 : (bump s e).Evacuating = s.Evacuating := rfl
  rw [p0, q0, q1]
  have r0 : (e.N != (cAt s e.Cell).Wanted) = ((cAt s e.Cell).Wanted != e.N) := by rw [Bool.eq_iff_iff]; simp only [bne_iff_ne, ne_eq]; exact ⟨fun a b => a b.symm, fun a b => a b.symm⟩
  rw [r0]
  cases ((cAt s e.Cell).Wanted != e.N) with
  | true => exact Ok.some rfl
  | false =>
    cases ((cAt s e.Cell).Running == (cAt s e.Cell).Wanted) with
    | true => exact Ok.some rfl
    | false =>
      cases hasB s.Proven e.N with
      | true => cases s.Tenants.any (busyB e) <;> exact Ok.some rfl
      | false =>
        cases (s.Evacuating != 0) with
        | true => exact Ok.some rfl
        | false => cases s.Tenants.any (busyB e) <;> exact Ok.some rfl
theorem prove_l1 [Fuel] (h : VC c) (hv : VS c s) (hk : 0 ≤ e.Tick ∧ e.Tick ≤ 1073741824) : state_prove_l1 c e s.Cells ((s.Cells.length : Nat) : Int) fuel 0 = some (bif s.Cells.any (bakedB c e) then 0 else 15) := by
  apply eqOk
  have hcl := hv.cl
  have hcl2 := h.cl
  refine loop0 (L := fun m (_ : Unit) i => state_prove_l1 c e s.Cells ((s.Cells.length : Nat) : Int) m i) (x := ()) s.Cells.length (by omega) (fun k _ => ∀ j, j < k → bakedB c e (s.Cells.getD j default) = false) (fun j hj => by omega) ?_ ?_
  · rintro m k x hk2 hI ih
    show Ok (state_prove_l1 c e s.Cells _ (m + 1) k) _
    have hC := (hv.cel _ (getD_mem hk2)).sin
    rw [state_prove_l1]
    simp (disch := omega) only [condT, ixL_ok, Int.toNat_natCast, w64_eq]
    show Ok (bif bakedB c e (s.Cells.getD k default) then _ else _) _
    cases hb : bakedB c e (s.Cells.getD k default) with
    | true =>
      have : s.Cells.any (bakedB c e) = true := (any_get _ _).2 ⟨k, hk2, hb⟩
      rw [this]; exact Ok.some rfl
    | false =>
      exact ih () (fun j hj => by
        by_cases q : j = k
        · exact q ▸ hb
        · exact hI j (by omega))
  · rintro m x hI
    show Ok (state_prove_l1 c e s.Cells _ (m + 1) _) _
    rw [state_prove_l1]
    simp (disch := omega) only [condF]
    have : s.Cells.any (bakedB c e) = false := by
      cases hq : s.Cells.any (bakedB c e) with
      | false => rfl
      | true => obtain ⟨k, hk, hp⟩ := (any_get _ _).1 hq; rw [hI k hk] at hp; cases hp
    rw [this]; exact Ok.some rfl
theorem prove_p [Fuel] (h : VC c) (hv : VS c s) (hk : 0 ≤ e.Tick ∧ e.Tick ≤ 1073741824) : Ok (state_prove c s e) (fun x => proveS c (bump s e) e = outS x ({ bump s e with Proven := orK .i64 s.Proven (shlK .i64 1 (IntKind.u64.wrap e.N)) }, 0)) := by
  have hp := hv.prov
  unfold state_prove proveS
  rw [prove_l1 h hv hk]
  simp only [Option.bind_some, st_has hp]
  have p0 : provenB (bump s e) e.N = hasB s.Proven e.N := rfl
  have q0 : (bump s e).Cells = s.Cells := rfl
  rw [p0, q0]
  cases hasB s.Proven e.N with
  | true => exact Ok.some rfl
  | false => cases s.Cells.any (bakedB c e) <;> exact Ok.some rfl
theorem expand_l1 [Fuel] (h : VC c) (hv : VS c s) : state_expand_l1 c s s.Cells ((s.Cells.length : Nat) : Int) fuel 0 = some (bif s.Cells.any (oldB c s) then 13 else 0) := by
  apply eqOk
  have hcl := hv.cl
  have hcl2 := h.cl
  refine loop0 (L := fun m (_ : Unit) i => state_expand_l1 c s s.Cells ((s.Cells.length : Nat) : Int) m i) (x := ()) s.Cells.length (by omega) (fun k _ => ∀ j, j < k → oldB c s (s.Cells.getD j default) = false) (fun j hj => by omega) ?_ ?_
  · rintro m k x hk2 hI ih
    show Ok (state_expand_l1 c s s.Cells _ (m + 1) k) _
    have hC := hv.cel _ (getD_mem hk2)
    rw [state_expand_l1]
    simp (disch := omega) only [condT, ixL_ok, Int.toNat_natCast, w64_eq, st_ver hC.run, st_ver hC.wan, Option.bind_some, bifS]
    have e1 : (decide ((c.Versions.getD (s.Cells.getD k default).Running.toNat default).High ≤ s.High) || decide ((bif !decide ((c.Versions.getD (s.Cells.getD k default).Running.toNat default).High ≤ s.High) then c.Versions.getD (s.Cells.getD k default).Wanted.toNat default else default).High ≤ s.High)) = oldB c s (s.Cells.getD k default) := by
      unfold oldB
      cases decide ((c.Versions.getD (s.Cells.getD k default).Running.toNat default).High ≤ s.High) <;> rfl
    rw [e1]
    cases hb : oldB c s (s.Cells.getD k default) with
    | true =>
      have : s.Cells.any (oldB c s) = true := (any_get _ _).2 ⟨k, hk2, hb⟩
      rw [this]; exact Ok.some rfl
    | false =>
      exact ih () (fun j hj => by
        by_cases q : j = k
        · exact q ▸ hb
        · exact hI j (by omega))
  · rintro m x hI
    show Ok (state_expand_l1 c s s.Cells _ (m + 1) _) _
    rw [state_expand_l1]
    simp (disch := omega) only [condF]
    have : s.Cells.any (oldB c s) = false := by
      cases hq : s.Cells.any (oldB c s) with
      | false => rfl
      | true => obtain ⟨k, hk, hp⟩ := (any_get _ _).1 hq; rw [hI k hk] at hp; cases hp
    rw [this]; exact Ok.some rfl
theorem expand_p [Fuel] (h : VC c) (hv : VS c s) : Ok (state_expand c s) (fun x => expandS c (bump s e) = outS x ({ bump s e with High := s.High + 1 }, 0)) := by
  unfold state_expand expandS
  rw [expand_l1 h hv]
  have q0 : (bump s e).Cells.any (oldB c (bump s e)) = s.Cells.any (oldB c s) := rfl
  have q2 : (bump s e).Low = s.Low := rfl
  have q3 : (bump s e).High = s.High := rfl
  rw [q0, q2, q3]
  cases decide (s.Low < s.High) with
  | true => exact Ok.some rfl
  | false =>
    cases decide (30 ≤ s.High) with
    | true => exact Ok.some rfl
    | false => cases s.Cells.any (oldB c s) <;> exact Ok.some rfl
theorem contract_p [Fuel] : Ok (state_contract s) (fun x => contractS (bump s e) = outS x ({ bump s e with Low := s.High }, 0)) := by
  unfold state_contract contractS
  have q2 : (bump s e).Low = s.Low := rfl
  have q3 : (bump s e).High = s.High := rfl
  rw [q2, q3]
  cases (s.High == s.Low) <;> exact Ok.some rfl
theorem evac_p [Fuel] (hv : VS c s) : Ok (state_evacuate s e) (fun x => evacS (bump s e) e = outS x ({ bump s e with Evacuating := xorK .i64 s.Evacuating (shlK .i64 1 (IntKind.u64.wrap e.Other)) }, 0)) := by
  have hp := hv.evac
  unfold state_evacuate evacS
  rw [st_has (by omega)]
  simp only [Option.bind_some]
  have q1 : (bump s e).Evacuating = s.Evacuating := rfl
  rw [q1]
  cases (hasB s.Evacuating e.Other == (e.N == 1)) <;> exact Ok.some rfl
theorem evac_bits [Fuel] {a n : Int} (ha : 0 ≤ a ∧ a < 8) (hn : 0 ≤ n ∧ n < 3) :
    (hasB a n = false → orK .i64 a (shlK .i64 1 n) = xorK .i64 a (shlK .i64 1 (IntKind.u64.wrap n))) ∧ (hasB a n = true → andNotK .i64 a (shlK .i64 1 n) = xorK .i64 a (shlK .i64 1 (IntKind.u64.wrap n))) := by
  have h1 : a = 0 ∨ a = 1 ∨ a = 2 ∨ a = 3 ∨ a = 4 ∨ a = 5 ∨ a = 6 ∨ a = 7 := by omega
  have h2 : n = 0 ∨ n = 1 ∨ n = 2 := by omega
  rcases h1 with rfl | rfl | rfl | rfl | rfl | rfl | rfl | rfl <;> rcases h2 with rfl | rfl | rfl <;> decide
end
end Go.CP
namespace Go.CP
open Go
set_option linter.unusedSimpArgs false
set_option linter.unusedVariables false
section
variable {c : ApiConfig} {s : ApiState}
theorem load_over_l [Fuel] (h : VC c) {b : List Int} (hl : b.length = c.Cells.length) : ∀ (m k : Nat), c.Cells.length - k < m → k ≤ c.Cells.length → load_Over_l2 c b ((b.length : Nat) : Int) m (overF c b k) (k : Int) = some (overF c b c.Cells.length)
  | 0, _, hm, _ => absurd hm (Nat.not_lt_zero _)
  | m + 1, k, hm, hk => by
    have hcl := h.cl
    have hol := overF_len c b k
    rw [load_Over_l2]; (try simp only [ixL_b, letD])
    by_cases hlt : k < c.Cells.length
    · have i1 : 0 ≤ (k : Int) ∧ (k : Int) < ((b.length : Nat) : Int) := by omega
      have i2 : 0 ≤ (k : Int) ∧ (k : Int) < ((c.Cells.length : Nat) : Int) := by omega
      rw [decide_eq_true i1.2]
      simp only [cond_true, idx_eq i1, idx_eq i2, Option.bind_some, Int.toNat_natCast]
      have next : load_Over_l2 c b ((b.length : Nat) : Int) m (overF c b (k + 1)) (w64 ((k : Int) + 1)) = some (overF c b c.Cells.length) := by
        rw [w64_eq (by omega) (by omega)]
        have := load_over_l h hl m (k + 1) (by omega) (by omega)
        simpa using this
      simp only [overF] at next
      unfold load_Over_k1; (try simp only [ixL_b, letD])
      have e0 : b.getD k 0 = b.getD k default := rfl
      rw [e0] at next
      by_cases hc : (c.Cells.getD k default).Capacity < b.getD k default
      · rw [if_pos hc] at next
        rw [decide_eq_true hc, decide_eq_true (show ((overF c b k).length + [(k : Int)].length) * 8 ≤ 140737488355328 by simp; omega)]
        exact next
      · rw [if_neg hc] at next
        rw [decide_eq_false hc]
        exact next
    · rw [decide_eq_false (show ¬ (k : Int) < ((b.length : Nat) : Int) by omega)]
      have : k = c.Cells.length := by omega
      subst this; rfl
theorem load_over [Fuel] (h : VC c) (hl : s.Tenants.length = c.Tenants.length) : load_Over c s = some (overS c s) := by
  have hcl := h.cl
  unfold load_Over overS; (try simp only [ixL_b, letD])
  rw [load_booked h hl]
  have := load_over_l h (booked_len c s) fuel 0 (by rw [fuel_eq]; omega) (by omega)
  simpa [overF] using this
end
end Go.CP
namespace Go.CP
open Go
set_option linter.unusedSimpArgs false
set_option linter.unusedVariables false
section
variable {c : ApiConfig} {s : ApiState} {e : ApiEntry}
theorem clone_t [Fuel] {l : List ApiTenantState} (hl : l.length ≤ 1000) : slices_Clone_api_TenantState_api_TenantState l = some l := by
  unfold slices_Clone_api_TenantState_api_TenantState
  rw [chkD_ok (by simp only [List.length_nil]; unfold room; omega)]; rfl
theorem clone_c [Fuel] {l : List ApiCellState} (hl : l.length ≤ 1000) : slices_Clone_api_CellState_api_CellState l = some l := by
  unfold slices_Clone_api_CellState_api_CellState
  rw [chkD_ok (by simp only [List.length_nil]; unfold room; omega)]; rfl
def tailP [Fuel] (c : ApiConfig) (s : ApiState) (e : ApiEntry) : Option (ApiState × Int) :=
  (state_effect s e).bind fun x2 => (state_books e).bind fun x3 => (bif x3 then load_Over c x2 else some default).bind fun x4 =>
    bif (x3 && (decide (0 < ((x4.length : Nat) : Int)))) then (some (zeroS, 10)) else (some (x2, 0))
theorem apply_tail [Fuel] : state_Apply c s e = (state_refused c s e).bind fun x1 => bif x1 != 0 then some (zeroS, x1) else tailP c s e := rfl
theorem tail_fit [Fuel] (h : VC c) {S : ApiState} (he : state_effect s e = some S) (hb : state_books e = some true) (hl : S.Tenants.length = c.Tenants.length) : tailP c s e = some (fitS c S) := by
  unfold tailP fitS
  rw [he, hb]
  simp only [Option.bind_some, cond_true, load_over h hl, Bool.true_and]
  cases decide (0 < (((overS c S).length : Nat) : Int)) <;> rfl
theorem tail_ok [Fuel] {S : ApiState} (he : state_effect s e = some S) (hb : state_books e = some false) : tailP c s e = some (S, 0) := by
  unfold tailP
  rw [he, hb]; rfl
theorem apply_fin [Fuel] {x : Int} {R : ApiState × Int} (hr : state_refused c s e = some x) (hA : applyS c s e = outS x R) (hE : tailP c s e = some R) : state_Apply c s e = some (applyS c s e) := by
  rw [apply_tail, hr, hA]
  unfold outS
  simp only [Option.bind_some]
  cases (x != 0) with
  | true => rfl
  | false => exact hE
theorem eff_cell [Fuel] (h : VC c) (hv : VS c s) (ce : cOk c e) (k : e.Kind = 9 ∨ e.Kind = 10 ∨ e.Kind = 11) : state_effect s e = (state_onCell s.Cells e.Cell.toNat e).bind fun x => some { bump s e with Cells := x } := by
  have h2 := clen hv ce
  have htl := hv.tl; have hcl := hv.cl; have a1 := h.tl; have a2 := h.cl; have hcnt := hv.cnt
  unfold state_effect state_effect_k2 state_effect_k1
  rw [clone_t (by omega), clone_c (by omega), w64_eq (by omega) (by omega)]
  simp only [Option.bind_some]
  rcases k with k | k | k <;> (simp only [k, Int.reduceBEq, cond_true, cond_false]; rw [ixL_ok h2.1 h2.2]; rfl)
theorem eff_ten [Fuel] (h : VC c) (hv : VS c s) (t : tOk c e) (k : 1 ≤ e.Kind ∧ e.Kind ≤ 8) : state_effect s e = (state_onTenant s.Tenants e.Tenant.toNat e).bind fun x => some { bump s e with Tenants := x } := by
  have h1 := tlen hv t
  have htl := hv.tl; have hcl := hv.cl; have a1 := h.tl; have a2 := h.cl; have hcnt := hv.cnt
  have n : ∀ q : Int, 9 ≤ q → (e.Kind == q) = false := fun q hq => by simp; omega
  unfold state_effect state_effect_k2 state_effect_k1
  rw [clone_t (by omega), clone_c (by omega), w64_eq (by omega) (by omega)]
  simp only [Option.bind_some, n 9 (by omega), n 10 (by omega), n 11 (by omega), n 12 (by omega), n 13 (by omega), n 14 (by omega), n 15 (by omega), n 16 (by omega), cond_false]
  rw [ixL_ok h1.1 h1.2]; rfl
theorem eff_misc [Fuel] (h : VC c) (hv : VS c s) : (e.Kind = 12 → 0 ≤ e.N → state_effect s e = some { bump s e with Proven := orK .i64 s.Proven (shlK .i64 1 e.N) }) ∧
    (e.Kind = 13 → 0 ≤ e.Other → state_effect s e = some { bump s e with Evacuating := bif e.N == 1 then orK .i64 s.Evacuating (shlK .i64 1 e.Other) else andNotK .i64 s.Evacuating (shlK .i64 1 e.Other) }) ∧
    (e.Kind = 14 → state_effect s e = some { bump s e with High := s.High + 1 }) ∧ (e.Kind = 15 → state_effect s e = some { bump s e with Low := s.High }) ∧ (e.Kind = 16 → state_effect s e = some (bump s e)) := by
  have htl := hv.tl; have hcl := hv.cl; have a1 := h.tl; have a2 := h.cl; have hcnt := hv.cnt; have hlh := hv.lh
  unfold state_effect state_effect_k2 state_effect_k1
  rw [clone_t (by omega), clone_c (by omega), w64_eq (x := s.Count + 1) (by omega) (by omega)]
  have wh : w64 (s.High + 1) = s.High + 1 := w64_eq (by omega) (by omega)
  simp only [Option.bind_some, wh]
  refine ⟨fun k hn => ?_, fun k hn => ?_, fun k => ?_, fun k => ?_, fun k => ?_⟩
  · simp only [k, Int.reduceBEq, cond_true, cond_false]; rw [chkD_ok hn]; rfl
  · simp only [k, Int.reduceBEq, cond_true, cond_false]; rw [chkD_ok hn, chkD_ok hn]; cases (e.N == 1) <;> rfl
  · simp only [k, Int.reduceBEq, cond_true, cond_false]; rfl
  · simp only [k, Int.reduceBEq, cond_true, cond_false]; rfl
  · simp only [k, Int.reduceBEq, cond_true, cond_false]; rfl
theorem refused_eq [Fuel] (h : VC c) (hv : VS c s) (hb : validB c e = true) (h4 : s.Count < 4096) (h5 : s.Tick ≤ e.Tick) : state_refused c s e = state_refused_k1 c s e false := by
  unfold state_refused
  rw [entry_valid h, hb]
  have e1 : (((s.Tenants.length : Nat) : Int) != ((c.Tenants.length : Nat) : Int)) = false := by rw [hv.tl]; simp
  have e2 : (((s.Cells.length : Nat) : Int) != ((c.Cells.length : Nat) : Int)) = false := by rw [hv.cl]; simp
  rw [e1, e2]; rfl
theorem setlen [Fuel] {x : ApiTenantState} (hv : VS c s) {i : Int} : (setT (bump s e) i x).Tenants.length = c.Tenants.length := by
  show (s.Tenants.set i.toNat x).length = _
  rw [List.length_set]; exact hv.tl
theorem state_apply [Fuel] (h : VC c) (hI : Inv c s) : state_Apply c s e = some (applyS c s e) := by
  have hv := hI.vs
  have hcnt := hv.cnt
  cases hb : validB c e with
  | false =>
    have hr : state_refused c s e = some 1 := by
      unfold state_refused state_refused_k1
      rw [entry_valid h, hb]; rfl
    rw [apply_tail, hr]
    unfold applyS
    rw [hb]; rfl
  | true =>
    have hV := ((valid_eq (e := e) h).2).1 hb
    by_cases h4 : 4096 ≤ s.Count
    · have hr : state_refused c s e = some 2 := by
        unfold state_refused
        rw [entry_valid h, hb]
        have e1 : (((s.Tenants.length : Nat) : Int) != ((c.Tenants.length : Nat) : Int)) = false := by rw [hv.tl]; simp
        have e2 : (((s.Cells.length : Nat) : Int) != ((c.Cells.length : Nat) : Int)) = false := by rw [hv.cl]; simp
        rw [e1, e2]
        unfold state_refused_k1
        simp only [Option.bind_some, Bool.not_true, cond_false]
        rw [condT h4]
      rw [apply_tail, hr]
      unfold applyS
      rw [hb, decide_eq_true h4]; rfl
    · by_cases h5 : e.Tick < s.Tick
      · have hr : state_refused c s e = some 3 := by
          unfold state_refused
          rw [entry_valid h, hb]
          have e1 : (((s.Tenants.length : Nat) : Int) != ((c.Tenants.length : Nat) : Int)) = false := by rw [hv.tl]; simp
          have e2 : (((s.Cells.length : Nat) : Int) != ((c.Cells.length : Nat) : Int)) = false := by rw [hv.cl]; simp
          rw [e1, e2]
          unfold state_refused_k1
          simp only [Option.bind_some, Bool.not_true, cond_false]
          rw [condF h4, condT h5]
        rw [apply_tail, hr]
        unfold applyS
        rw [hb, decide_eq_false h4, decide_eq_true h5]; rfl
      · have hA : applyS c s e = kindS c (bump s e) e := by
          unfold applyS
          rw [hb, decide_eq_false h4, decide_eq_false h5]; rfl
        have hR := refused_eq h hv hb (by omega) (by omega)
        have hkk : state_refused_k1 c s e false = (bif (e.Kind == 1) then ((state_place c s e).bind fun x2 => (some x2)) else (bif (e.Kind == 4) then ((state_standby c s e).bind fun x3 => (some x3))
            else (bif (e.Kind == 5) then ((state_ready s e).bind fun x4 => (some x4)) else (bif (e.Kind == 6) then ((state_migrate c s e).bind fun x5 => (some x5)) else (bif (e.Kind == 7) then ((state_abandon s e).bind fun x6 => (some x6))
            else (bif (e.Kind == 8) then ((state_shed s e).bind fun x7 => (some x7)) else (bif (e.Kind == 2) then ((state_grant c s e).bind fun x8 => (some x8)) else (bif (e.Kind == 3) then ((state_cut s e).bind fun x9 => (some x9))
            else (bif (e.Kind == 9) then ((state_mode s e).bind fun x10 => (some x10)) else (bif (e.Kind == 10) then ((state_want c s e).bind fun x11 => (some x11)) else (bif (e.Kind == 11) then ((state_runs s e).bind fun x12 => (some x12))
            else (bif (e.Kind == 12) then ((state_prove c s e).bind fun x13 => (some x13)) else (bif (e.Kind == 13) then ((state_evacuate s e).bind fun x14 => (some x14)) else (bif (e.Kind == 14) then ((state_expand c s).bind fun x15 => (some x15))
            else (bif (e.Kind == 15) then ((state_contract s).bind fun x16 => (some x16)) else (some 0)))))))))))))))) := by
          unfold state_refused_k1
          rw [cond_false, condF h4, condF h5]
        rw [hkk] at hR
        have bs : ∀ {m : Option Int} {P : Int → Prop}, Ok m P → ∃ x, (m.bind fun y => some y) = some x ∧ P x := by
          rintro m P ⟨x, rfl, hx⟩; exact ⟨x, rfl, hx⟩
        unfold kindS at hA
        have hn : ∀ (t : tOk c e), e.Tenant.toNat < s.Tenants.length := fun t => by have := tlen hv t; omega
        have hc : ∀ (t : cOk c e), e.Cell.toNat < s.Cells.length := fun t => by have := clen hv t; omega
        cases hV.2 with
        | place k t ce o w n =>
          simp only [k, Int.reduceBEq, cond_true, cond_false] at hR hA
          obtain ⟨x, x1, x2⟩ := bs (place_p h hv t ce ⟨o.1, o.2.1⟩)
          refine apply_fin (by rw [hR, x1]) (by rw [hA, x2]) (tail_fit h ?_ ?_ (setlen hv))
          · rw [eff_ten h hv t (by omega)]
            unfold state_onTenant
            simp only [k, Int.reduceBEq, cond_true, cond_false, letD, getD_set (hn t), List.set_set, Option.bind_some, List.length_set]
            rfl
          · unfold state_books state_books_k1; simp only [k, Int.reduceBEq, cond_true, cond_false]
        | grant k t ce o ep w n =>
          simp only [k, Int.reduceBEq, cond_true, cond_false] at hR hA
          obtain ⟨x, x1, x2⟩ := bs (grant_p h hv t ce hV.1 w)
          by_cases hx : x = 0
          · subst hx
            refine apply_fin (x := 0) (by rw [hR, x1]) (by rw [hA, x2]) (tail_fit h ?_ ?_ (setlen hv))
            · rw [eff_ten h hv t (by omega)]
              unfold state_onTenant state_granted
              have hcl : e.Cell = (tAt s e.Tenant).Home ∨ e.Cell = (tAt s e.Tenant).Standby ∨ e.Cell = (tAt s e.Tenant).Target := by
                have hb2 : ((((e.Cell != (tAt s e.Tenant).Home) && (e.Cell != (tAt s e.Tenant).Standby)) && (e.Cell != (tAt s e.Tenant).Target))) = false := by
                  cases hq : (((e.Cell != (tAt s e.Tenant).Home) && (e.Cell != (tAt s e.Tenant).Standby)) && (e.Cell != (tAt s e.Tenant).Target)) with
                  | false => rfl
                  | true =>
                    exfalso
                    have hgs : ∃ k : Int, k ≠ 0 ∧ state_grant c s e = some k := by
                      have h1 := tlen hv t
                      have h2 := clen hv ce
                      unfold state_grant state_grant_k5
                      have hg : (s.Tenants.getD e.Tenant.toNat default) = tAt s e.Tenant := rfl
                      rw [ixL_ok h1.1 h1.2, ixL_ok h2.1 h2.2, hg]
                      have hq2 : (((!(e.Cell == (tAt s e.Tenant).Home)) && (e.Cell != (tAt s e.Tenant).Standby)) && (e.Cell != (tAt s e.Tenant).Target)) = true := hq
                      rw [hq2]
                      cases (tAt s e.Tenant).Placed with
                      | false => exact ⟨4, by decide, rfl⟩
                      | true => cases ((tAt s e.Tenant).Shed && (e.Cell != (tAt s e.Tenant).Standby)) with
                        | true => exact ⟨4, by decide, rfl⟩
                        | false => exact ⟨5, by decide, rfl⟩
                    obtain ⟨k', k1, k2⟩ := hgs
                    rw [k2] at x1
                    exact k1 (Option.some.inj x1)
                rcases Decidable.em (e.Cell = (tAt s e.Tenant).Home) with q | q
                · exact .inl q
                · rcases Decidable.em (e.Cell = (tAt s e.Tenant).Standby) with q2 | q2
                  · exact .inr (.inl q2)
                  · refine .inr (.inr ?_)
                    have a1 : (e.Cell != (tAt s e.Tenant).Home) = true := by simpa using q
                    have a2 : (e.Cell != (tAt s e.Tenant).Standby) = true := by simpa using q2
                    rw [a1, a2] at hb2
                    simpa using hb2
              simp only [k, Int.reduceBEq, cond_true, cond_false, letD, getD_set (hn t), List.set_set, List.length_set]
              have hg : (s.Tenants.getD e.Tenant.toNat default) = tAt s e.Tenant := rfl
              rw [hg]
              unfold afterGrant
              dsimp only
              rcases Decidable.em (e.Cell = (tAt s e.Tenant).Home) with q | q
              · have a1 : (e.Cell == (tAt s e.Tenant).Home) = true := by simpa using q
                rw [a1]; rfl
              · have a1 : (e.Cell == (tAt s e.Tenant).Home) = false := by simpa using q
                rw [a1]
                rcases Decidable.em (e.Cell = (tAt s e.Tenant).Standby) with q2 | q2
                · have a2 : (e.Cell == (tAt s e.Tenant).Standby) = true := by simpa using q2
                  rw [a2]; rfl
                · have a2 : (e.Cell == (tAt s e.Tenant).Standby) = false := by simpa using q2
                  have a3 : (e.Cell == (tAt s e.Tenant).Target) = true := by
                    rcases hcl with z | z | z
                    · exact absurd z q
                    · exact absurd z q2
                    · simpa using z
                  rw [a2, a3]; rfl
            · unfold state_books state_books_k1; simp only [k, Int.reduceBEq, cond_true, cond_false]
          · have hx' : (x != 0) = true := by simpa using hx
            rw [apply_tail, hR, x1, hA, x2]
            unfold outS
            rw [Option.bind_some, hx']; rfl
        | cut k t ce o ep w n =>
          simp only [k, Int.reduceBEq, cond_true, cond_false] at hR hA
          obtain ⟨x, x1, x2⟩ := bs (cut_p hv t)
          refine apply_fin (by rw [hR, x1]) (by rw [hA, x2]) (tail_ok ?_ ?_)
          · have hk := hV.1
            rw [eff_ten h hv t (by omega)]
            unfold state_onTenant
            rw [w64_eq (x := e.Tick + 1) (by omega) (by omega)]
            simp only [k, Int.reduceBEq, cond_true, cond_false, letD, getD_set (hn t), List.set_set, Option.bind_some, List.length_set]
            rfl
          · unfold state_books state_books_k1; simp only [k, Int.reduceBEq, cond_true, cond_false]
        | standby k t ce o w n =>
          simp only [k, Int.reduceBEq, cond_true, cond_false] at hR hA
          obtain ⟨x, x1, x2⟩ := bs (standby_p h hI t ce (by omega))
          refine apply_fin (by rw [hR, x1]) (by rw [hA, x2]) ?_
          have hE : state_effect s e = some (setT (bump s e) e.Tenant { tAt s e.Tenant with Next := e.Cell }) := by
            rw [eff_ten h hv t (by omega)]
            unfold state_onTenant
            simp only [k, Int.reduceBEq, cond_true, cond_false, letD, getD_set (hn t), List.set_set, Option.bind_some, List.length_set]
            rfl
          by_cases hc : e.Cell < 0
          · rw [condT hc]
            refine tail_ok hE ?_
            have : e.Cell = -1 := by omega
            unfold state_books state_books_k1; simp only [k, this, Int.reduceBEq, Int.reduceBNe, cond_true, cond_false]
          · rw [condF hc]
            refine tail_fit h hE ?_ (setlen hv)
            have : (e.Cell != (-1)) = true := by rw [ne_neg ce.1]; exact decide_eq_true (by omega)
            unfold state_books state_books_k1; simp only [k, this, Int.reduceBEq, cond_true, cond_false]
        | ready k t ce o w n =>
          simp only [k, Int.reduceBEq, cond_true, cond_false] at hR hA
          obtain ⟨x, x1, x2⟩ := bs (ready_p h hv t ce)
          refine apply_fin (by rw [hR, x1]) (by rw [hA, x2]) (tail_ok ?_ ?_)
          · rw [eff_ten h hv t (by omega)]
            unfold state_onTenant
            simp only [k, Int.reduceBEq, cond_true, cond_false, letD, getD_set (hn t), List.set_set, Option.bind_some, List.length_set]
            rfl
          · unfold state_books state_books_k1; simp only [k, Int.reduceBEq, cond_true, cond_false]
        | migrate k t ce o w n =>
          simp only [k, Int.reduceBEq, cond_true, cond_false] at hR hA
          obtain ⟨x, x1, x2⟩ := bs (migrate_p h hv t ce)
          refine apply_fin (by rw [hR, x1]) (by rw [hA, x2]) (tail_fit h ?_ ?_ (setlen hv))
          · rw [eff_ten h hv t (by omega)]
            unfold state_onTenant
            simp only [k, Int.reduceBEq, cond_true, cond_false, letD, getD_set (hn t), List.set_set, Option.bind_some, List.length_set]
            rfl
          · unfold state_books state_books_k1; simp only [k, Int.reduceBEq, cond_true, cond_false]
        | abandon k t ce o w n =>
          simp only [k, Int.reduceBEq, cond_true, cond_false] at hR hA
          obtain ⟨x, x1, x2⟩ := bs (abandon_p hv t)
          refine apply_fin (by rw [hR, x1]) (by rw [hA, x2]) (tail_ok ?_ ?_)
          · rw [eff_ten h hv t (by omega)]
            unfold state_onTenant
            simp only [k, Int.reduceBEq, cond_true, cond_false, letD, getD_set (hn t), List.set_set, Option.bind_some, List.length_set]
            rfl
          · unfold state_books state_books_k1; simp only [k, Int.reduceBEq, cond_true, cond_false]
        | shed k t ce o w n =>
          simp only [k, Int.reduceBEq, cond_true, cond_false] at hR hA
          obtain ⟨x, x1, x2⟩ := bs (shed_p h hv t n)
          refine apply_fin (by rw [hR, x1]) (by rw [hA, x2]) ?_
          rcases n with n | n
          · rw [n]
            simp only [Int.reduceBEq, cond_false]
            refine tail_fit h ?_ ?_ (setlen hv)
            · rw [eff_ten h hv t (by omega)]
              unfold state_onTenant
              simp only [k, n, Int.reduceBEq, cond_true, cond_false, letD, getD_set (hn t), List.set_set, Option.bind_some, List.length_set]
              rfl
            · unfold state_books state_books_k1; simp only [k, n, Int.reduceBEq, cond_true, cond_false]
          · rw [n]
            simp only [Int.reduceBEq, cond_true]
            refine tail_ok ?_ ?_
            · rw [eff_ten h hv t (by omega)]
              unfold state_onTenant
              simp only [k, n, Int.reduceBEq, cond_true, cond_false, letD, getD_set (hn t), List.set_set, Option.bind_some, List.length_set]
              rfl
            · unfold state_books state_books_k1; simp only [k, n, Int.reduceBEq, cond_true, cond_false]
        | mode k t ce o w n =>
          simp only [k, Int.reduceBEq, cond_true, cond_false] at hR hA
          obtain ⟨x, x1, x2⟩ := bs (mode_p hv ce)
          refine apply_fin (by rw [hR, x1]) (by rw [hA, x2]) (tail_ok ?_ ?_)
          · rw [eff_cell h hv ce (by omega)]
            unfold state_onCell
            simp only [k, Int.reduceBEq, cond_true, cond_false, letD, getD_set (hc ce), List.set_set, Option.bind_some, List.length_set]
            rfl
          · unfold state_books state_books_k1; simp only [k, Int.reduceBEq, cond_true, cond_false]
        | want k t ce o w n =>
          simp only [k, Int.reduceBEq, cond_true, cond_false] at hR hA
          obtain ⟨x, x1, x2⟩ := bs (want_p h hv ce n)
          refine apply_fin (by rw [hR, x1]) (by rw [hA, x2]) (tail_ok ?_ ?_)
          · rw [eff_cell h hv ce (by omega)]
            unfold state_onCell
            simp only [k, Int.reduceBEq, cond_true, cond_false, letD, getD_set (hc ce), List.set_set, Option.bind_some, List.length_set]
            rfl
          · unfold state_books state_books_k1; simp only [k, Int.reduceBEq, cond_true, cond_false]
        | runs k t ce o w n =>
          simp only [k, Int.reduceBEq, cond_true, cond_false] at hR hA
          obtain ⟨x, x1, x2⟩ := bs (runs_p h hv ce n)
          refine apply_fin (by rw [hR, x1]) (by rw [hA, x2]) (tail_ok ?_ ?_)
          · rw [eff_cell h hv ce (by omega)]
            unfold state_onCell
            simp only [k, Int.reduceBEq, cond_true, cond_false, letD, getD_set (hc ce), List.set_set, Option.bind_some, List.length_set]
            rfl
          · unfold state_books state_books_k1; simp only [k, Int.reduceBEq, cond_true, cond_false]
        | prove k t ce o w n =>
          simp only [k, Int.reduceBEq, cond_true, cond_false] at hR hA
          obtain ⟨x, x1, x2⟩ := bs (prove_p h hv hV.1)
          unfold vOk at n
          have hvl := h.vl
          refine apply_fin (by rw [hR, x1]) (by rw [hA, x2]) (tail_ok ?_ ?_)
          · rw [(eff_misc h hv).1 k n.1, u64_eq n.1 (by omega)]
          · unfold state_books state_books_k1; simp only [k, Int.reduceBEq, cond_true, cond_false]
        | evac k t ce o w n =>
          simp only [k, Int.reduceBEq, cond_true, cond_false] at hR hA
          obtain ⟨x, x1, x2⟩ := bs (evac_p (e := e) hv)
          have hreg := h.reg
          have hev := hv.evac
          obtain ⟨q1, q2⟩ := evac_bits (a := s.Evacuating) (n := e.Other) (by omega) (by omega)
          have hbk : state_books e = some false := by unfold state_books state_books_k1; simp only [k, Int.reduceBEq, cond_true, cond_false]
          by_cases hx : x = 0
          · subst hx
            refine apply_fin (x := 0) (by rw [hR, x1]) (by rw [hA, x2]) (tail_ok ?_ hbk)
            rw [(eff_misc h hv).2.1 k o.1]
            have hs : hasB s.Evacuating e.Other ≠ (e.N == 1) := by
              intro hq
              have : state_evacuate s e = some 4 := by
                unfold state_evacuate
                rw [st_has (by omega), Option.bind_some, hq]; simp
              rw [this] at x1; cases x1
            cases hq : (e.N == 1) with
            | true =>
              rw [hq] at hs
              have : hasB s.Evacuating e.Other = false := by simpa using hs
              rw [cond_true, q1 this]
            | false =>
              rw [hq] at hs
              have : hasB s.Evacuating e.Other = true := by simpa using hs
              rw [cond_false, q2 this]
          · have hx' : (x != 0) = true := by simpa using hx
            rw [apply_tail, hR, x1, hA, x2]
            unfold outS
            rw [Option.bind_some, hx']; rfl
        | expand k t ce o w n =>
          simp only [k, Int.reduceBEq, cond_true, cond_false] at hR hA
          obtain ⟨x, x1, x2⟩ := bs (expand_p (e := e) h hv)
          refine apply_fin (by rw [hR, x1]) (by rw [hA, x2]) (tail_ok ((eff_misc h hv).2.2.1 k) ?_)
          unfold state_books state_books_k1; simp only [k, Int.reduceBEq, cond_true, cond_false]
        | contract k t ce o w n =>
          simp only [k, Int.reduceBEq, cond_true, cond_false] at hR hA
          obtain ⟨x, x1, x2⟩ := bs (contract_p (s := s) (e := e))
          refine apply_fin (by rw [hR, x1]) (by rw [hA, x2]) (tail_ok ((eff_misc h hv).2.2.2.1 k) ?_)
          unfold state_books state_books_k1; simp only [k, Int.reduceBEq, cond_true, cond_false]
        | note k t ce o w n =>
          simp only [k, Int.reduceBEq, cond_true, cond_false] at hR hA
          refine apply_fin (x := 0) (R := (bump s e, 0)) hR (by rw [hA]; rfl) (tail_ok ((eff_misc h hv).2.2.2.2 k) ?_)
          unfold state_books state_books_k1; simp only [k, Int.reduceBEq, cond_true, cond_false]
end
end Go.CP
namespace Go.CP
open Go
set_option linter.unusedSimpArgs false
set_option linter.unusedVariables false
section
variable {c : ApiConfig} {s : ApiState}
end
end Go.CP
namespace Go.CP
open Go
set_option linter.unusedSimpArgs false
set_option linter.unusedVariables false
section
variable {c : ApiConfig} {s : ApiState}
end
end Go.CP
namespace Go.CP
open Go
set_option linter.unusedSimpArgs false
set_option linter.unusedVariables false
def tbef (c : ApiConfig) (x y : Int) : Bool :=
  bif (tn c x).Priority != (tn c y).Priority then decide ((tn c y).Priority < (tn c x).Priority)
  else bif (tn c x).Load != (tn c y).Load then decide ((tn c y).Load < (tn c x).Load) else decide (x < y)
theorem tbef_iff [Fuel] (c : ApiConfig) (x y : Int) : tbef c x y = true ↔ (tn c y).Priority < (tn c x).Priority ∨ ((tn c x).Priority = (tn c y).Priority ∧ ((tn c y).Load < (tn c x).Load ∨ ((tn c x).Load = (tn c y).Load ∧ x < y))) := by
  unfold tbef
  generalize (tn c x).Priority = a
  generalize (tn c y).Priority = b
  generalize (tn c x).Load = d
  generalize (tn c y).Load = e
  by_cases h1 : a = b
  · subst h1
    by_cases h2 : d = e
    · subst h2; simp
    · simp [h2]
  · simp [h1]
theorem tbef_sto [Fuel] (c : ApiConfig) : STO (tbef c) := by
  refine ⟨fun x => ?_, fun x y z h1 h2 => ?_, fun x y hne => ?_⟩
  · rw [Bool.eq_false_iff]; intro h; rw [tbef_iff] at h; omega
  · rw [tbef_iff] at h1 h2 ⊢; omega
  · rw [tbef_iff, tbef_iff]; omega
section
variable {c : ApiConfig}
structure TOrd (c : ApiConfig) (out : List Int) : Prop where
  so : out.Pairwise (fun x y => tbef c x y = true)
  mem : ∀ y, y ∈ out ↔ 0 ≤ y ∧ y < ((c.Tenants.length : Nat) : Int)
  len : out.length = c.Tenants.length
theorem TOrd.uniq [Fuel] {o1 o2 : List Int} (h1 : TOrd c o1) (h2 : TOrd c o2) : o1 = o2 :=
  ord_uniq (tbef_sto c) h1.so h2.so (fun y => (h1.mem y).trans (h2.mem y).symm)
theorem TOrd.nodup [Fuel] {o : List Int} (h : TOrd c o) : o.Nodup := h.so.imp (fun q => (tbef_sto c).ne q)
theorem ten_cmp [Fuel] {x y : Int} (hx : 0 ≤ x ∧ x < ((c.Tenants.length : Nat) : Int)) (hy : 0 ≤ y ∧ y < ((c.Tenants.length : Nat) : Int)) : ∃ q, tenant_Order_1 x y c = some q ∧ decide (q < 0) = tbef c x y := by
  unfold tenant_Order_1
  simp only [ixL_ok hx.1 hx.2, ixL_ok hy.1 hy.2, compare_eq, Option.bind_some, or3_eq]
  refine ⟨_, rfl, ?_⟩
  rw [cmp_lt3, cmpI_lt, cmpI_lt, cmpI_lt, cmpI_ne, cmpI_ne]
  unfold tbef
  have sw : ∀ a b : Int, (a != b) = (b != a) := by
    intro a b
    by_cases e : a = b
    · rw [e]
    · have e' : b ≠ a := fun q => e q.symm
      rw [(bne_iff_ne).2 e, (bne_iff_ne).2 e']
  rw [sw (tn c x).Priority, sw (tn c x).Load]
  rfl
theorem pw_of_not [Fuel] {lt : Int → Int → Bool} (h : STO lt) {xs : List Int} (hp : xs.Pairwise (fun x y => lt y x = false)) (hn : xs.Nodup) : xs.Pairwise (fun x y => lt x y = true) := by
  refine (hp.and hn).imp (fun {a b} q => ?_)
  rcases h.ofNot q.1 with e | e
  · exact absurd e q.2
  · exact e
theorem tenant_order_p [Fuel] (hc : VC c) : Ok (tenant_Order c) (TOrd c) := by
  have hct := hc.tl
  unfold tenant_Order
  rw [chkD_ok (by omega)]
  refine loop0 (L := fun m x i => tenant_Order_l1 c ((c.Tenants.length : Nat) : Int) m x i) c.Tenants.length (by omega) (fun k x => x.length = k ∧ x.Nodup ∧ ∀ y, y ∈ x ↔ (0 ≤ y ∧ y < (k : Int))) ⟨rfl, List.nodup_nil, fun y => ⟨fun h => absurd h List.not_mem_nil, fun ⟨a, b⟩ => by omega⟩⟩ ?_ ?_
  · rintro m k x hk ⟨h1, h2, h3⟩ ih
    show Ok (tenant_Order_l1 c _ (m + 1) x k) _
    rw [tenant_Order_l1, condT (by omega), chkD_ok (by simp only [List.length_singleton]; unfold room; omega), w64_eq (by omega) (by omega)]
    refine ih _ ⟨by simp [h1], ?_, fun y => ?_⟩
    · rw [List.nodup_append]
      refine ⟨h2, by simp, fun a ha b hb e => ?_⟩
      rw [List.mem_singleton] at hb
      have := (h3 a).1 ha
      omega
    · rw [List.mem_append, List.mem_singleton, h3]; omega
  · rintro m x ⟨h1, h2, h3⟩
    show Ok (tenant_Order_l1 c _ (m + 1) x _) _
    rw [tenant_Order_l1, condF (by omega)]
    unfold sort_tenant_Order_1
    obtain ⟨s, es, p1, p2, p3⟩ := sortM_ok (tbef_sto c) (cmp := fun x y => tenant_Order_1 x y c) (xs := x) (by omega) (fun a ha b hb => ten_cmp ((h3 a).1 ha) ((h3 b).1 hb))
    have hperm : s.Nodup := by
      have hs : sortM (fun x y => tenant_Order_1 x y c) x = some s := es
      obtain ⟨_, _, _, rfl⟩ := sortM_elim hs
      exact (List.mergeSort_perm _ _).nodup_iff.2 h2
    rw [es]
    exact Ok.some ⟨pw_of_not (tbef_sto c) p1 hperm, fun y => by rw [p2, h3], by rw [p3, h1]⟩
theorem ref05_bef [Fuel] {x y : Int} (hx : 0 ≤ x ∧ x < ((c.Tenants.length : Nat) : Int)) (hy : 0 ≤ y ∧ y < ((c.Tenants.length : Nat) : Int)) : ref05_before c x y = some (tbef c x y) := by
  unfold ref05_before
  simp only [ixL_ok hx.1 hx.2, ixL_ok hy.1 hy.2, bifS]
  rfl
theorem ins_cpy [Fuel] {xs : List Int} {n : Nat} {i : Int} (hn : n ≤ xs.length) :
    (cpyL (0 + (n + 1)) (xs.length + 1 - (n + 1)) (xs ++ [0]) (((xs ++ [0]).drop (0 + n)).take (xs.length + 1 - n))).set n i = xs.take n ++ [i] ++ xs.drop n := by
  have e1 : ((xs ++ [0]).drop (0 + n)).take (xs.length + 1 - n) = xs.drop n ++ [0] := by
    rw [Nat.zero_add, List.drop_append_of_le_length hn, List.take_of_length_le (by simp; omega)]
  rw [e1]
  unfold cpyL
  apply List.ext_getElem?
  intro j
  rw [List.getElem?_set]
  have hl : (xs.take n).length = n := by rw [List.length_take]; omega
  by_cases h1 : n = j
  · subst h1
    rw [if_pos rfl, if_pos (by simp; omega), List.append_assoc, List.getElem?_append_right (by omega), hl, Nat.sub_self]
    rfl
  · rw [if_neg h1]
    by_cases h2 : j < n
    · rw [List.getElem?_append_left (by simp; omega), List.append_assoc, List.getElem?_append_left (by omega), List.getElem?_take, List.getElem?_take, if_pos (by omega), if_pos h2, List.getElem?_append_left (by omega)]
    · by_cases h3 : j < xs.length + 1
      · rw [List.getElem?_append_right (by simp; omega)]
        have ht : ((xs ++ [0]).take (0 + (n + 1))).length = n + 1 := by simp; omega
        rw [ht, List.getElem?_append_left (by simp; omega), List.getElem?_take, if_pos (by omega), List.getElem?_append_left (by simp; omega), List.append_assoc, List.getElem?_append_right (by omega), hl]
        have e2 : j - n = (j - n - 1) + 1 := by omega
        rw [e2]
        show _ = (i :: xs.drop n)[j - n - 1 + 1]?
        rw [List.getElem?_cons_succ]
        rw [show j - (n + 1) = j - n - 1 by omega]
      · rw [List.getElem?_eq_none (by simp; omega), List.getElem?_eq_none (by simp; omega)]
theorem tenant_order_r [Fuel] (hc : VC c) : Ok (ref05_Order c) (TOrd c) := by
  have hct := hc.tl
  unfold ref05_Order
  refine loop0 (L := fun m x i => ref05_Order_l2 c m x i) c.Tenants.length (by omega) (fun k x => x.length = k ∧ x.Pairwise (fun x y => tbef c x y = true) ∧ ∀ y, y ∈ x ↔ (0 ≤ y ∧ y < (k : Int))) ⟨rfl, List.Pairwise.nil, fun y => ⟨fun h => absurd h List.not_mem_nil, fun ⟨a, b⟩ => by omega⟩⟩ ?_ ?_
  · rintro m k x hk ⟨h1, h2, h3⟩ ih
    show Ok (ref05_Order_l2 c (m + 1) x k) _
    rw [ref05_Order_l2, condT (by omega)]
    have hnx : (k : Int) ∉ x := fun q => by have := (h3 _).1 q; omega
    have hval : ∀ j, j < x.length → 0 ≤ x.getD j default ∧ x.getD j default < ((c.Tenants.length : Nat) : Int) := fun j hj => by
      have := (h3 (x.getD j default)).1 (getD_mem hj); omega
    have fin : ∀ (m' : Nat) (j : Nat), j ≤ x.length → (∀ i, i < j → tbef c (x.getD i default) (k : Int) = true) → (j < x.length → tbef c (x.getD j default) (k : Int) = false) → Ok (ref05_Order_l1 (ref05_Order_l2 c m) c x (k : Int) (m' + 1) (j : Int)) (TOrd c) := by
      intro m' j hj hI hb
      rw [ref05_Order_l1]
      rw [ixG_if (by intro h; have := of_decide_eq_true h; omega)]
      have hxx : ((((bif (decide ((j : Int) < ((x.length : Nat) : Int))) then ref05_before c (x.getD (j : Int).toNat default) (k : Int) else some default))).bind fun x5 => (some ((decide ((j : Int) < ((x.length : Nat) : Int))) && x5))) = some false := by
        by_cases h : j < x.length
        · rw [condT (by omega), Int.toNat_natCast, ref05_bef (hval j h) ⟨by omega, by omega⟩, hb h]; simp
        · rw [condF (by omega), decide_eq_false (by omega)]; rfl
      obtain ⟨v, hv⟩ : ∃ v, ((bif (decide ((j : Int) < ((x.length : Nat) : Int))) then ref05_before c (x.getD (j : Int).toNat default) (k : Int) else some default)) = some v := by
        by_cases h : j < x.length
        · rw [condT (by omega), Int.toNat_natCast, ref05_bef (hval j h) ⟨by omega, by omega⟩]; exact ⟨_, rfl⟩
        · rw [condF (by omega)]; exact ⟨_, rfl⟩
      rw [hv] at hxx ⊢
      have hxx : (decide ((j : Int) < ((x.length : Nat) : Int)) && v) = false := Option.some.inj hxx
      rw [Option.bind_some, hxx, cond_false]
      obtain ⟨q1, q2⟩ := ins_ord (tbef_sto c) h2 hnx hI hj hb
      have hl0 : ((((x ++ [0]).length : Nat) : Int)).toNat = x.length + 1 := by simp
      have hw : (w64 ((j : Int) + 1)).toNat = j + 1 := by rw [w64_eq (by omega) (by omega)]; omega
      have e1 := ins_cpy (xs := x) (n := j) (i := (k : Int)) hj
      rw [chkD_ok (by simp only [List.length_singleton]; unfold room; omega), chkD_ok (by rw [w64_eq (by omega) (by omega)]; simp; omega), chkD_ok (by simp; omega), chkD_ok (by rw [hl0, Int.toNat_natCast]; simp; omega), chkD_ok (by rw [hl0, hw]; simp; omega)]
      rw [hl0, hw, Int.toNat_natCast]
      rw [ixL_ok (by omega) (by unfold cpyL; simp; omega)]
      unfold letD
      rw [e1, w64_eq (by omega) (by omega)]
      refine ih _ ⟨by simp only [List.length_append, List.length_singleton, List.length_take, List.length_drop]; omega, q1, fun y => ?_⟩
      rw [q2, h3]; omega
    refine loop_up (L := fun m' (_ : Unit) j => ref05_Order_l1 (ref05_Order_l2 c m) c x (k : Int) m' j) x.length (fun j _ => ∀ i, i < j → tbef c (x.getD i default) (k : Int) = true) ?_ ?_ fuel 0 () (Nat.zero_le _) (by rw [fuel_eq]; omega) (fun i hi => absurd hi (Nat.not_lt_zero _))
    · rintro m' j _ hj hI ih'
      show Ok (ref05_Order_l1 _ c x _ (m' + 1) j) _
      cases hbf : tbef c (x.getD j default) (k : Int) with
      | false => exact fin m' j (by omega) hI (fun _ => hbf)
      | true =>
        rw [ref05_Order_l1]
        simp (disch := omega) only [ixG_ok', Int.toNat_natCast, condT, ref05_bef (hval j hj) (show 0 ≤ (k : Int) ∧ (k : Int) < ((c.Tenants.length : Nat) : Int) by omega), Option.bind_some, w64_eq]
        rw [decide_eq_true (show (j : Int) < ((x.length : Nat) : Int) by omega), hbf]
        refine ih' () (fun i hi => ?_)
        by_cases e : i = j
        · subst e; exact hbf
        · exact hI i (by omega)
    · rintro m' _ hI
      exact fin m' x.length (Nat.le_refl _) hI (fun h => absurd h (Nat.lt_irrefl _))
  · rintro m x ⟨h1, h2, h3⟩
    show Ok (ref05_Order_l2 c (m + 1) x _) _
    rw [ref05_Order_l2, condF (by omega)]
    exact Ok.some ⟨h2, h3, h1⟩
theorem tenant_order_eq [Fuel] (hc : VC c) : ∃ o, tenant_Order c = some o ∧ ref05_Order c = some o ∧ TOrd c o := by
  obtain ⟨o1, e1, h1⟩ := tenant_order_p hc
  obtain ⟨o2, e2, h2⟩ := tenant_order_r hc
  have := h1.uniq h2
  subst this
  exact ⟨o1, e1, e2, h1⟩
end
end Go.CP
namespace Go.CP
open Go
set_option linter.unusedSimpArgs false
set_option linter.unusedVariables false
section
variable {c : ApiConfig} {s : ApiState} {e : ApiEntry}
theorem step_tick [Fuel] {s' : ApiState} (h : Step c s e s') : s'.Tick = e.Tick ∧ s'.Count = s.Count + 1 := by
  cases h <;> exact ⟨rfl, rfl⟩
theorem apply_tick [Fuel] (h : VC c) (hz : (applyS c s e).2 = 0) : (applyS c s e).1.Tick = e.Tick ∧ (applyS c s e).1.Count = s.Count + 1 := step_tick (apply_step h hz).2.2.2
structure RL [Fuel] (c : ApiConfig) (s : ApiState) (out : List ApiEntry) (n : Nat) : Prop where
  ok : okS c (newS c) out
  run : runS c (newS c) out = s
  len : out.length ≤ n
  tk : s.Tick ≤ 20000 * (out.length : Int)
  ct : s.Count = (out.length : Int)
theorem RL.up [Fuel] {out : List ApiEntry} {n n' : Nat} (h : RL c s out n) (hn : n ≤ n') : RL c s out n' := ⟨h.ok, h.run, Nat.le_trans h.len hn, h.tk, h.ct⟩
theorem RL.vs [Fuel] (hc : VC c) {out : List ApiEntry} {n : Nat} (h : RL c s out n) : VS c s := by
  rw [← h.run]; exact run_vs hc _ _ (new_vs hc) h.ok
theorem RL.inv [Fuel] (hc : VC c) {out : List ApiEntry} {n : Nat} (h : RL c s out n) : Inv c s := by
  rw [← h.run]; exact run_inv hc _ _ (inv_new hc) h.ok
theorem RL.snoc [Fuel] (hc : VC c) {out : List ApiEntry} {n : Nat} (h : RL c s out n) (hz : (applyS c s e).2 = 0) (ht : e.Tick ≤ s.Tick + 20000) : RL c (applyS c s e).1 (out ++ [e]) (n + 1) := by
  obtain ⟨t1, t2⟩ := apply_tick hc hz
  have h1 := h.tk
  have h2 := h.ct
  refine ⟨ok_snoc out e _ h.ok (by rw [h.run]; exact hz), by rw [run_snoc, h.run], by have := h.len; simp; omega, ?_, ?_⟩
  · rw [t1]; simp only [List.length_append, List.length_singleton]; push_cast; omega
  · rw [t2, h2]; simp
theorem RL.new [Fuel] (h : VC c) : RL c (newS c) [] 0 := ⟨trivial, rfl, Nat.le_refl _, by show (0 : Int) ≤ 20000 * 0; omega, rfl⟩
theorem log2_l [Fuel] (h : VC c) {n : Nat} (hn : n ≤ 1000) : ∀ (m : Nat) (T : MakeTape) (s : ApiState) (out : List ApiEntry), TB T 300 → RL c s out n → (400 - T.At).toNat < m →
    Ok (make_Log_l2 c (n : Int) m T s out) (fun r => ∃ s', RL c s' r n)
  | 0, _, _, _, _, _, hm => absurd hm (Nat.not_lt_zero _)
  | m + 1, T, s, out, hT, hr, hm => by
    have hlo := hT.lo
    have hhi := hT.hi
    have hln := hT.ln
    have hl := hr.len
    have hv := hr.vs h
    have hI := hr.inv h
    rw [make_Log_l2]
    unfold make_Tape_More
    simp only [bif_some, Option.bind_some]
    refine Ok.cond (fun hc => ?_) (fun _ => Ok.some ⟨s, hr⟩)
    have hlt : ((out.length : Nat) : Int) < (n : Int) ∧ T.At < ((T.L.length : Nat) : Int) := by
      cases hd : decide (((out.length : Nat) : Int) < (n : Int)) with
      | false => rw [hd] at hc; cases hc
      | true =>
        rw [hd] at hc
        simp only [Bool.true_and, cond_true] at hc
        exact ⟨of_decide_eq_true hd, of_decide_eq_true hc⟩
    rw [decide_eq_true hlt.1]
    simp only [cond_true]
    have hT' : TB T 200 := ⟨hT.el, hT.ln, hT.lo, by omega⟩
    unfold make_Log_k1
    have hle := h.lease
    refine Ok.bind (entry_ok h hv hT' (by omega) (B := s.Tick + 10004) (by omega) (fun x hx => ?_)) (fun r1 q1 => ?_)
    · obtain ⟨i, hi, rfl⟩ := List.getElem_of_mem hx
      have := (hI.t i hi).wl
      have e : s.Tenants[i] = s.Tenants.getD i default := by simp [List.getD_eq_getElem?_getD, hi]
      rw [e]; omega
    refine Ok.bindE (apply_eq h hv) ?_
    have hA : T.At + 1 ≤ r1.2.At := q1.2.2.1 (by omega)
    have hT2 : TB r1.2 300 := q1.1.up (by omega)
    have hB : r1.2.At ≤ 300 := hT2.hi
    refine Ok.cond (fun h0 => Ok.chk (dT (by show _ ≤ 140737488355328; simp; omega)) ?_) (fun _ => ?_)
    · have h0 : (applyS c s r1.1).2 = 0 := by simpa using h0
      have hs := hr.snoc h h0 (by have := q1.2.2.2; omega)
      refine log2_l h hn m _ _ _ hT2 ⟨hs.ok, hs.run, by simp; omega, hs.tk, hs.ct⟩ (by omega)
    · exact log2_l h hn m _ _ _ hT2 hr (by omega)
theorem log2_ok [Fuel] (h : VC c) {l : List Int} (hl : Lst l) {n : Nat} (hn : n ≤ 1000) : Ok (make_Log l c (n : Int)) (fun r => ∃ s', RL c s' r n) := by
  unfold make_Log make_New
  have hT : TB { L := l, At := 0 } 300 := ⟨hl.1, hl.2, Int.le_refl 0, by show (0 : Int) ≤ 300; omega⟩
  refine Ok.bindE rfl (Ok.bindE (new_eq h) ?_)
  exact log2_l h hn fuel _ (newS c) [] hT ((RL.new h).up (by omega)) (by rw [fuel_eq]; simp)
end
end Go.CP
namespace Go.CP
open Go
set_option linter.unusedSimpArgs false
set_option linter.unusedVariables false
section
variable {c : ApiConfig} {s : ApiState}
theorem state2_ok [Fuel] (h : VC c) {l : List Int} (hl : Lst l) {n : Nat} (hn : n ≤ 1000) : Ok (make_State l c (n : Int)) (fun s => ∃ out, RL c s out n) := by
  unfold make_State
  refine Ok.bind (log2_ok h hl hn) (fun r hr => ?_)
  obtain ⟨s', hr⟩ := hr
  have hlen := hr.len
  rw [fold_eq h (by omega) hr.ok, Option.bind_some]
  exact Ok.some ⟨r, by rw [hr.run]; exact hr⟩
end
end Go.CP
namespace Go.CP
open Go
set_option linter.unusedSimpArgs false
set_option linter.unusedVariables false
def backE (tick i : Int) : ApiEntry := { Kind := 8, Tick := tick, Tenant := i, Cell := (-1), Other := (-1), Epoch := 0, From := 0, Until := 0, N := 0 : ApiEntry }
def backF [Fuel] (c : ApiConfig) (tick : Int) (s0 : ApiState) : List Int → ApiState → List Int
  | [], _ => []
  | i :: r, s => bif (tAt s0 i).Placed && (tAt s0 i).Shed then (bif (applyS c s (backE tick i)).2 == 0 then i :: backF c tick s0 r (applyS c s (backE tick i)).1 else backF c tick s0 r s) else backF c tick s0 r s
section
variable {c : ApiConfig} {s : ApiState}
theorem backF_len [Fuel] (tick : Int) (s0 : ApiState) : ∀ (l : List Int) (s : ApiState), (backF c tick s0 l s).length ≤ l.length
  | [], s => Nat.le_refl _
  | i :: r, s => by
    have a := backF_len tick s0 r s
    have b := backF_len tick s0 r (applyS c s (backE tick i)).1
    rw [backF]
    cases ((tAt s0 i).Placed && (tAt s0 i).Shed) with
    | false => simp only [cond_false, List.length_cons]; omega
    | true => cases ((applyS c s (backE tick i)).2 == 0) <;> simp <;> omega
theorem back_ok [Fuel] (tick : Int) (s0 : ApiState) : ∀ (l : List Int) (s : ApiState), okS c s ((backF c tick s0 l s).map (backE tick))
  | [], s => trivial
  | i :: r, s => by
    rw [backF]
    cases ((tAt s0 i).Placed && (tAt s0 i).Shed) with
    | false => exact back_ok tick s0 r s
    | true =>
      cases h : ((applyS c s (backE tick i)).2 == 0) with
      | false => exact back_ok tick s0 r s
      | true => exact ⟨by simpa using h, back_ok tick s0 r _⟩
theorem step_back [Fuel] {tick i : Int} {s' : ApiState} (hv : VS c s) (h : Step c s (backE tick i) s') : (0 ≤ i ∧ i < ((c.Tenants.length : Nat) : Int)) ∧ ∀ j : Int, 0 ≤ j → j ≠ i → tAt s' j = tAt s j := by
  have h0 : (backE tick i).Kind = 8 := rfl
  have hn : (backE tick i).N = 0 := rfl
  cases h with
  | back k t n sh m1 fit =>
    refine ⟨t, fun j hj q => ?_⟩
    have hl := tlen hv t
    have hi : (0 : Int) ≤ i := t.1
    unfold tAt setT bump
    show (s.Tenants.set i.toNat _).getD j.toNat default = _
    have : i.toNat ≠ j.toNat := by omega
    simp [List.getD_eq_getElem?_getD, List.getElem?_set, this]
  | shed k t n pl sh w => rw [hn] at n; cases n
  | place k => rw [h0] at k; cases k
  | grant k => rw [h0] at k; cases k
  | cut k => rw [h0] at k; cases k
  | standby0 k => rw [h0] at k; cases k
  | standby k => rw [h0] at k; cases k
  | ready k => rw [h0] at k; cases k
  | migrate k => rw [h0] at k; cases k
  | abandon k => rw [h0] at k; cases k
  | mode k => rw [h0] at k; cases k
  | want k => rw [h0] at k; cases k
  | runs k => rw [h0] at k; cases k
  | prove k => rw [h0] at k; cases k
  | evac k => rw [h0] at k; cases k
  | expand k => rw [h0] at k; cases k
  | contract k => rw [h0] at k; cases k
  | note k => rw [h0] at k; cases k
theorem drop_get' [Fuel] {l : List Int} {k : Nat} (hk : k < l.length) : l.drop k = l.getD k default :: l.drop (k + 1) := by
  rw [List.drop_eq_getElem_cons hk]; simp [List.getD_eq_getElem?_getD, hk]
theorem back_p [Fuel] (hc : VC c) (hI : Inv c s) (tick : Int) {o : List Int} (ho : tenant_Order c = some o) (hT : TOrd c o) (hol : o.length ≤ 1000) : shed_Back c s tick = some (backF c tick s o s) := by
  have htl := hI.vs.tl
  have hmem : ∀ k, k < o.length → 0 ≤ o.getD k default ∧ o.getD k default < ((c.Tenants.length : Nat) : Int) := fun k hk => (hT.mem _).1 (getD_mem hk)
  unfold shed_Back
  rw [ho, Option.bind_some]
  apply eqOk
  refine loop0 (L := fun m (x : ApiState × List Int) i => shed_Back_l2 c tick o s.Tenants ((o.length : Nat) : Int) m x.1 x.2 i) (x := (s, [])) o.length (by omega) (fun k x => Inv c x.1 ∧ x.2.length ≤ k ∧ x.2 ++ backF c tick s (o.drop k) x.1 = backF c tick s o s) ⟨hI, Nat.le_refl _, by rw [List.drop_zero]; rfl⟩ ?_ ?_
  · rintro m k ⟨S, out⟩ hk ⟨i1, i2, i3⟩ ih
    show Ok (shed_Back_l2 c tick o s.Tenants _ (m + 1) S out k) _
    simp only at i1 i2 i3
    obtain ⟨g1, g2⟩ := hmem k hk
    rw [drop_get' hk, backF] at i3
    have et : s.Tenants.getD (o.getD k default).toNat default = tAt s (o.getD k default) := rfl
    rw [shed_Back_l2, condT (by omega), ixL_ok (by omega) (by omega), Int.toNat_natCast, decide_eq_false (by omega), ixG_ok ⟨by omega, by omega⟩, ixG_ok ⟨by omega, by omega⟩, et]
    unfold shed_Back_k1
    rw [w64_eq (by omega) (by omega)]
    generalize o.getD k default = t at *
    cases hp : (tAt s t).Placed with
    | false =>
      rw [hp, Bool.false_and, cond_false] at i3
      exact ih (S, out) ⟨i1, (by show out.length ≤ k + 1; omega), i3⟩
    | true =>
      cases hs : (tAt s t).Shed with
      | false =>
        rw [hp, hs, Bool.and_false, cond_false] at i3
        exact ih (S, out) ⟨i1, (by show out.length ≤ k + 1; omega), i3⟩
      | true =>
        rw [hp, hs, Bool.and_true, cond_true] at i3
        show Ok ((state_Apply c S (backE tick t)).bind _) _
        rw [state_apply hc i1, Option.bind_some]
        cases hz : ((applyS c S (backE tick t)).2 == 0) with
        | false =>
          rw [hz, cond_false] at i3
          exact ih (S, out) ⟨i1, (by show out.length ≤ k + 1; omega), i3⟩
        | true =>
          rw [hz, cond_true] at i3
          have hz' : (applyS c S (backE tick t)).2 = 0 := by simpa using hz
          rw [cond_true, chkD_ok (by simp only [List.length_singleton]; unfold room; omega)]
          exact ih ((applyS c S (backE tick t)).1, out ++ [t]) ⟨inv_step hc i1 hz', by simp; omega, by rw [← i3]; simp⟩
  · rintro m ⟨S, out⟩ ⟨i1, i2, i3⟩
    show Ok (shed_Back_l2 c tick o s.Tenants _ (m + 1) S out _) _
    rw [shed_Back_l2, condF (by omega)]
    rw [List.drop_length] at i3
    exact Ok.some (by rw [← i3]; simp [backF])
theorem back_r [Fuel] (hc : VC c) (hI : Inv c s) (tick : Int) {o : List Int} (ho : ref05_Order c = some o) (hT : TOrd c o) (hol : o.length ≤ 1000) : ref33_Back c s tick = some (backF c tick s o s) := by
  have htl := hI.vs.tl
  have hmem : ∀ k, k < o.length → 0 ≤ o.getD k default ∧ o.getD k default < ((c.Tenants.length : Nat) : Int) := fun k hk => (hT.mem _).1 (getD_mem hk)
  unfold ref33_Back
  rw [ho, Option.bind_some]
  apply eqOk
  refine loop0 (L := fun m (x : ApiState × List Int) i => ref33_Back_l2 c tick o ((o.length : Nat) : Int) m x.1 x.2 i) (x := (s, [])) o.length (by omega) (fun k x => Inv c x.1 ∧ x.2.length ≤ k ∧ x.2 ++ backF c tick s (o.drop k) x.1 = backF c tick s o s ∧ ∀ j ∈ o.drop k, tAt x.1 j = tAt s j) ⟨hI, Nat.le_refl _, by rw [List.drop_zero]; rfl, fun j _ => rfl⟩ ?_ ?_
  · rintro m k ⟨S, out⟩ hk ⟨i1, i2, i3, i4⟩ ih
    show Ok (ref33_Back_l2 c tick o _ (m + 1) S out k) _
    simp only at i1 i2 i3 i4
    obtain ⟨g1, g2⟩ := hmem k hk
    have hnd : (o.drop k).Nodup := hT.nodup.sublist (List.drop_sublist _ _)
    have hml : ∀ j ∈ o.drop (k + 1), 0 ≤ j := fun j hj => ((hT.mem _).1 (List.mem_of_mem_drop hj)).1
    have hSl := i1.vs.tl
    rw [drop_get' hk] at i3 i4 hnd
    rw [backF] at i3
    rw [List.nodup_cons] at hnd
    have et : S.Tenants.getD (o.getD k default).toNat default = tAt S (o.getD k default) := rfl
    have e4 := i4 _ List.mem_cons_self
    have i4' : ∀ j ∈ o.drop (k + 1), tAt S j = tAt s j := fun j hj => i4 j (List.mem_cons_of_mem _ hj)
    rw [ref33_Back_l2, condT (by omega), ixL_ok (by omega) (by omega), Int.toNat_natCast, ixL_ok g1 (by omega), ixG_ok ⟨by omega, by omega⟩, et, e4]
    unfold ref33_Back_k1
    rw [w64_eq (by omega) (by omega)]
    generalize o.getD k default = t at *
    cases hp : (tAt s t).Placed with
    | false =>
      rw [hp, Bool.false_and, cond_false] at i3
      exact ih (S, out) ⟨i1, (by show out.length ≤ k + 1; omega), i3, i4'⟩
    | true =>
      cases hs : (tAt s t).Shed with
      | false =>
        rw [hp, hs, Bool.and_false, cond_false] at i3
        exact ih (S, out) ⟨i1, (by show out.length ≤ k + 1; omega), i3, i4'⟩
      | true =>
        rw [hp, hs, Bool.and_true, cond_true] at i3
        show Ok ((ref12_Apply c S (backE tick t)).bind _) _
        rw [apply_eq hc i1.vs, Option.bind_some]
        cases hz : ((applyS c S (backE tick t)).2 == 0) with
        | false =>
          rw [hz, cond_false] at i3
          exact ih (S, out) ⟨i1, (by show out.length ≤ k + 1; omega), i3, i4'⟩
        | true =>
          rw [hz, cond_true] at i3
          have hz' : (applyS c S (backE tick t)).2 = 0 := by simpa using hz
          have hst := (step_back i1.vs (apply_step hc hz').2.2.2).2
          rw [cond_true, chkD_ok (by simp only [List.length_singleton]; unfold room; omega)]
          refine ih ((applyS c S (backE tick t)).1, out ++ [t]) ⟨inv_step hc i1 hz', by simp; omega, by rw [← i3]; simp, fun j hj => ?_⟩
          rw [hst j (hml j hj) (fun q => by subst q; exact hnd.1 hj)]
          exact i4' j hj
  · rintro m ⟨S, out⟩ ⟨i1, i2, i3, i4⟩
    show Ok (ref33_Back_l2 c tick o _ (m + 1) S out _) _
    rw [ref33_Back_l2, condF (by omega)]
    rw [List.drop_length] at i3
    exact Ok.some (by rw [← i3]; simp [backF])
theorem backs_l1 [Fuel] (hc : VC c) (hI : Inv c s) {rc : Int → Option Bool} {j tick : Int} (hj : 0 ≤ j ∧ j ≤ 1000) {a : List Int} (ha : a.length ≤ 1000) (hok : okS c s (a.map (backE tick))) (hrc : Ok (rc (j + 1)) (fun b => b = true)) :
    Ok (law33_ShedBacks_l1 rc c j tick a ((a.length : Nat) : Int) fuel s 0) (fun b => b = true) := by
  refine loop0 (L := fun m x i => law33_ShedBacks_l1 rc c j tick a ((a.length : Nat) : Int) m x i) a.length (by omega) (fun k x => Inv c x ∧ okS c x ((a.drop k).map (backE tick))) ⟨hI, by rw [List.drop_zero]; exact hok⟩ ?_ ?_
  · rintro m k S hk ⟨i1, i2⟩ ih
    show Ok (law33_ShedBacks_l1 rc c j tick a _ (m + 1) S k) _
    rw [drop_get' hk, List.map_cons] at i2
    rw [law33_ShedBacks_l1, condT (by omega), ixL_ok (by omega) (by omega), Int.toNat_natCast]
    show Ok ((state_Apply c S (backE tick (a.getD k default))).bind _) _
    have hz := i2.1
    have hI2 := inv_step hc i1 hz
    rw [state_apply hc i1, Option.bind_some, hz]
    have e0 : ((0 : Int) != 0) = false := rfl
    rw [e0]
    simp only [Bool.not_false, cond_true]
    rw [load_over hc hI2.vs.tl, Option.bind_some, hI2.ov, w64_eq (by omega) (by omega)]
    exact ih _ ⟨hI2, i2.2⟩
  · rintro m S _
    show Ok (law33_ShedBacks_l1 rc c j tick a _ (m + 1) S _) _
    rw [law33_ShedBacks_l1, condF (by omega), w64_eq (by omega) (by omega)]
    exact hrc
theorem backs_l2 [Fuel] (hc : VC c) (hI : Inv c s) {l : List Int} (hl : l.length ≤ 10) : Ok (law33_ShedBacks_l2 c s l ((l.length : Nat) : Int) fuel 0) (fun b => b = true) := by
  obtain ⟨o, o1, o2, hT⟩ := tenant_order_eq hc
  have hol : o.length ≤ 1000 := by
    have := hc.tl
    have := hT.len
    omega
  refine loop0 (L := fun m (_ : Unit) i => law33_ShedBacks_l2 c s l ((l.length : Nat) : Int) m i) (x := ()) l.length (by omega) (fun _ _ => True) trivial ?_ ?_
  · rintro m k _ hk _ ih
    show Ok (law33_ShedBacks_l2 c s l _ (m + 1) k) _
    rw [law33_ShedBacks_l2, condT (by omega), ixL_ok (by omega) (by omega), Int.toNat_natCast, back_p hc hI _ o1 hT hol, Option.bind_some, back_r hc hI _ o2 hT hol, Option.bind_some]
    have hb := backF_len (c := c) (l.getD k default) s o s
    rw [same_refl _ (by omega), Option.bind_some]
    exact backs_l1 hc hI ⟨by omega, by omega⟩ (by omega) (back_ok _ _ _ _) (ih () trivial)
  · rintro m _ _
    show Ok (law33_ShedBacks_l2 c s l _ (m + 1) _) _
    rw [law33_ShedBacks_l2, condF (by omega)]
    exact Ok.some rfl
theorem ShedBacks_true [Fuel] {p1 p2 : List Int} {p3 : Int} (h1 : ∀ x ∈ p1, I64 x) (h2 : ∀ x ∈ p2, I64 x) (h3 : I64 p3) : law33_ShedBacks p1 p2 p3 = some true := by
  apply eqOk
  unfold law33_ShedBacks
  refine Ok.bindE awake33 ?_
  simp only [Bool.not_true, cond_false, make_Light, Option.bind_some]
  cases hq1 : decide (((p1.length : Nat) : Int) ≤ 200) with
  | false => exact Ok.some rfl
  | true =>
    rw [decide_eq_true_eq] at hq1
    simp only [Bool.not_true, Bool.not_false, cond_true, Option.bind_some, Bool.false_or]
    cases hq2 : decide (((p2.length : Nat) : Int) ≤ 200) with
    | false => exact Ok.some rfl
    | true =>
      rw [decide_eq_true_eq] at hq2
      simp only [Bool.not_true, cond_false]
      refine Ok.bind (config_ok (l := p1) ⟨h1, by omega⟩) (fun c hc => ?_)
      refine Ok.bind (state2_ok (n := 60) hc (l := p2) ⟨h2, by omega⟩ (by omega)) (fun s ⟨out, hs⟩ => ?_)
      refine Ok.bind (mmod60 h3 (by decide) (by decide)) (fun r hr => ?_)
      exact backs_l2 hc (hs.inv hc) (by simp)
end
end Go.CP
namespace Go.AM
open Go Go.RowKit Go.CP
set_option linter.unusedVariables false
def SimCs (w : World) (ys : List CV) (cs : List Value) : Prop :=
  cs.length = ys.length ∧ ∀ (j : Nat) y v, ys[j]? = some y → cs[j]? = some v → SimC w (fun _ => False) y v ∧ v.oneCell' = true
theorem list_cons {α : Type} {l : List α} {n : Nat} (h : l.length = n + 1) : ∃ a t, l = a :: t ∧ t.length = n := by
  cases l with
  | nil => simp at h
  | cons a t => exact ⟨a, t, rfl, by simpa using h⟩
theorem simCs_nil {w : World} : SimCs w [] [] := ⟨rfl, fun j y v h => by simp at h⟩
theorem simCs_cons {w : World} {y : CV} {ys : List CV} {v : Value} {vs : List Value} (h : SimC w (fun _ => False) y v) (h1 : v.oneCell' = true) (t : SimCs w ys vs) : SimCs w (y :: ys) (v :: vs) := by
  refine ⟨by simp [t.1], fun j y' v' e1 e2 => ?_⟩
  cases j with
  | zero => simp at e1 e2; subst e1; subst e2; exact ⟨h, h1⟩
  | succ j => simp at e1 e2; exact t.2 j y' v' e1 e2
theorem simCs_app {w : World} {ys ys' : List CV} {vs vs' : List Value} (h : SimCs w ys vs) (h' : SimCs w ys' vs') : SimCs w (ys ++ ys') (vs ++ vs') := by
  refine ⟨by simp [h.1, h'.1], fun j y v e1 e2 => ?_⟩
  by_cases hj : j < ys.length
  · rw [List.getElem?_append_left hj] at e1
    rw [List.getElem?_append_left (by rw [h.1]; exact hj)] at e2
    exact h.2 j y v e1 e2
  · rw [List.getElem?_append_right (by omega)] at e1
    rw [List.getElem?_append_right (by rw [h.1]; omega), h.1] at e2
    exact h'.2 _ y v e1 e2
theorem simCs_int {w : World} {k : IntKind} {x : Int} {ys : List CV} {vs : List Value} (t : SimCs w ys vs) : SimCs w (.val (.int k x) :: ys) (.int k x :: vs) := simCs_cons (.val _) rfl t
theorem simCs_bool {w : World} {x : Bool} {ys : List CV} {vs : List Value} (t : SimCs w ys vs) : SimCs w (.val (.bool x) :: ys) (.bool x :: vs) := simCs_cons (.val _) rfl t
theorem simCs_str {w : World} {x : ByteArray} {ys : List CV} {vs : List Value} (t : SimCs w ys vs) : SimCs w (.val (.string x) :: ys) (.string x :: vs) := simCs_cons (.val _) rfl t
section
variable {H : Type} {encH : TypeId × Value → H} {P : Program} {w : World} {base : Nat} {spare : Nat → Bool} {held : Bool}
def Opn {α : Type} (encH : TypeId × Value → H) (P : Program) (w : World) (base : Nat) (spare : Nat → Bool) (held : Bool) (t : TypeId) (enc : α → List CV) (Inv : α → Prop) : Prop :=
  ∀ n cs x, DataW.trod encH P w base spare held n t cs = some x → ∃ a, Inv a ∧ SimCs w (enc a) cs
theorem opn_int {t : TypeId} {k : IntKind} (ht : P.underlying t = some (.int k)) : Opn encH P w base spare held t (e_int k) (fun n => (Lit.int k n).wf = true) := by
  intro n cs x h
  obtain ⟨m, rfl, _, hw⟩ := DataW.trod_int ht h
  exact ⟨m, hw, simCs_int simCs_nil⟩
theorem opn_bool {t : TypeId} (ht : P.underlying t = some .bool) : Opn encH P w base spare held t e_bool (fun _ => True) := by
  intro n cs x h
  obtain ⟨m, rfl, _⟩ := DataW.trod_bool ht h
  exact ⟨m, trivial, simCs_bool simCs_nil⟩
theorem opn_str {t : TypeId} (ht : P.underlying t = some .string) : Opn encH P w base spare held t e_str (fun s => s.size ≤ maxLen) := by
  intro n cs x h
  obtain ⟨m, rfl, _, hw⟩ := DataW.trod_string ht h
  exact ⟨m, hw, simCs_str simCs_nil⟩
theorem opn_slice {t e : TypeId} {z : Nat} {τ : Ty} {Inv : den τ → Prop} (ht : P.underlying t = some (.slice e)) (hc : P.cellsOf e = z) (hz0 : 0 < z) (hw : wd τ = z)
    (he : Opn encH P w base spare held e (encT τ) Inv) : Opn encH P w base spare held t (fun xs : List (den τ) => [CV.ls τ xs]) (fun xs => ∀ x ∈ xs, Inv x) := by
  have hz : ∀ a : den τ, (encT τ a).length = z := fun a => by rw [encT_len, hw]
  intro n cs x h
  rcases Deep.open_slice ht h with ⟨rfl, _⟩ | ⟨a, len, cap, m, n, D, Pl, rfl, hb, hl, hm, hmm, _, hx⟩
  · exact ⟨[], by simp, simCs_cons (.ls _ _ _ (.rd0 _ _ _ _)) rfl simCs_nil⟩
  have hlm : len ≤ m := by rw [hmm]; split <;> omega
  have each : ∀ i, i < len → ∃ q : den τ × List Value, Inv q.1 ∧ SimCs w (encT τ q.1) q.2 ∧ q.2.length = z ∧ ∀ j, j < z → w.cell? ((a.add (i * z)).add j) = q.2[j]? := by
    intro i hi
    obtain ⟨cs', h1, h2⟩ := hx i (by omega)
    rw [hc] at h1
    obtain ⟨_, hlen, hcell⟩ := World.cells?_some h1
    obtain ⟨y, hy, hs⟩ := he _ _ _ h2
    exact ⟨(y, cs'), hy, hs, hlen, hcell⟩
  obtain ⟨q, hq⟩ := Deep.choose_lt each
  refine ⟨(List.range len).map (fun i => (q i).1), ?_, simCs_cons (.ls _ _ _ ?_) rfl simCs_nil⟩
  · intro y hy
    obtain ⟨i, hi, rfl⟩ := List.mem_map.1 hy
    exact (hq i (List.mem_range.1 hi)).1
  · rw [hw]
    have hln : ((List.range len).map (fun i => (q i).1)).length = len := by simp
    have hg : ∀ i, i < len → ((List.range len).map (fun i => (q i).1)).getD i default = (q i).1 := by
      intro i hi
      simp [List.getD_eq_getElem?_getD, hi]
    rcases Nat.eq_zero_or_pos len with h0 | h0
    · subst h0; exact .rd0 _ _ _ _
    rw [hln]
    obtain ⟨b, off, spot⟩ := a
    have hsome : ∀ i j, i < len → j < z → (q i).2[j]? = some ((q i).2.getD j undef) := by
      intro i j hi hj
      have : j < (q i).2.length := by rw [(hq i hi).2.2.1]; exact hj
      simp [List.getD_eq_getElem?_getD, this]
    have hsp : spot = none ∧ b < w.heap.size := by
      have h1 := (hq 0 h0).2.2.2 0 hz0
      rw [hsome 0 0 h0 hz0, Nat.zero_mul] at h1
      have ez : ∀ x : Addr, x.add 0 = x := fun x => rfl
      rw [ez, ez] at h1
      unfold World.cell? at h1
      split at h1
      · rename_i heq
        refine ⟨?_, ?_⟩
        · cases spot with
          | none => rfl
          | some s => simp at h1
        · rw [Array.getElem?_eq_some_iff] at heq; exact heq.1
      · cases h1
    obtain ⟨rfl, hbs⟩ := hsp
    have c0 : ∀ i j, i < len → j < z → w.cell? ⟨b, off + (i * z + j), none⟩ = (q i).2[j]? := by
      intro i j hi hj
      have := (hq i hi).2.2.2 j hj
      rw [WideShapes.add_plain, WideShapes.add_plain, Nat.add_assoc] at this
      exact this
    have dm : ∀ j, j < len * z → j / z < len ∧ j % z < z ∧ j / z * z + j % z = j := by
      intro j hj
      refine ⟨(Nat.div_lt_iff_lt_mul hz0).2 hj, Nat.mod_lt _ hz0, ?_⟩
      rw [Nat.mul_comm]; exact Nat.div_add_mod j z
    refine .rd z len _ b off cap (fun j => (q (j / z)).2.getD (j % z) undef) (fun h => h) hbs hl ?_ ?_ ?_ ?_
    · intro i hi; exact hz _
    · intro j hj
      obtain ⟨h1, h2, h3⟩ := dm j hj
      have := c0 (j / z) (j % z) h1 h2
      rw [h3, hsome _ _ h1 h2] at this
      exact this
    · intro j hj
      obtain ⟨h1, h2, h3⟩ := dm j hj
      have hs := (hq (j / z) h1).2.1
      have hlt : j % z < (encT τ (q (j / z)).1).length := by rw [hz]; exact h2
      exact (hs.2 (j % z) ((encT τ (q (j / z)).1)[j % z]) _ (List.getElem?_eq_getElem hlt) (hsome _ _ h1 h2)).2
    · intro i j y hi hy
      unfold fE at hy; rw [hg i hi] at hy
      have hj : j < z := by rw [← hz (q i).1]; exact (List.getElem?_eq_some_iff.1 hy).1
      have e1 : (i * z + j) / z = i := by rw [Nat.mul_comm, Nat.mul_add_div hz0, Nat.div_eq_of_lt hj, Nat.add_zero]
      have e2 : (i * z + j) % z = j := by rw [Nat.mul_comm, Nat.mul_add_mod, Nat.mod_eq_of_lt hj]
      simp only [e1, e2]
      exact ((hq i hi).2.1.2 j y _ hy (hsome i j hi hj)).1
theorem opn_arg {t : TypeId} {τ : Ty} {Inv : List (den τ) → Prop} {a : Option Addr} {len cap : Nat} {d : DataW H} {ps : List MemPlace}
    (he : Opn encH P w base spare held t (fun xs : List (den τ) => [CV.ls τ xs]) Inv) (h : DataW.Trod encH P w base spare held t (.slice a len cap) d ps) : ∃ xs : List (den τ), Inv xs ∧ SimV w (fun _ => none) (fun _ => False) (.one (.s (.c (.ls τ xs)))) (.slice a len cap) := by
  obtain ⟨n, hn⟩ := h
  obtain ⟨xs, hi, hs⟩ := he _ _ _ hn
  refine ⟨xs, hi, ?_⟩
  exact .c (hs.2 0 _ (.slice a len cap) rfl rfl).1
theorem opn_agg {α : Type} {t : TypeId} {e : α → List CV} {Inv : α → Prop} {cs : Array Value} {d : DataW H} {ps : List MemPlace}
    (he : Opn encH P w base spare held t e Inv) (h : DataW.Trod encH P w base spare held t (.agg cs) d ps) : ∃ x : α, Inv x ∧ SimV w (fun _ => none) (fun _ => False) (.one (.agg ((e x).map .c))) (.agg cs) := by
  obtain ⟨n, hn⟩ := h
  obtain ⟨x, hi, hs⟩ := he _ _ _ hn
  have hlen : cs.toList.length = (e x).length := hs.1
  refine ⟨x, hi, cs, rfl, by rw [List.length_map, ← hlen]; simp, fun i y hy => ?_⟩
  rw [List.getElem?_map] at hy
  cases hc : (e x)[i]? with
  | none => rw [hc] at hy; cases hy
  | some z =>
    rw [hc] at hy
    cases hy
    have hlt : i < cs.size := by
      have := (List.getElem?_eq_some_iff.1 hc).1
      rw [← hlen] at this; simpa using this
    refine .c (hs.2 i z (cs.getD i undef) hc ?_).1
    show cs.toList[i]? = _
    simp [Array.getD, hlt]
theorem wf_i64 {x : Int} (h : (Lit.int .i64 x).wf = true) : -9223372036854775808 ≤ x ∧ x < 9223372036854775808 := by
  simp only [Lit.wf, decide_eq_true_eq, Bool.and_eq_true] at h
  have e1 : IntKind.i64.min = -9223372036854775808 := by decide
  have e2 : IntKind.i64.max = 9223372036854775807 := by decide
  omega
theorem mx_none : MX (fun _ => False) (fun _ => none) [] = fun _ => False := by
  funext b
  simp only [MX, Mut]
  apply propext
  constructor
  · rintro (h | ⟨k, o, l, hk, _⟩)
    · exact h
    · simp at hk
  · exact fun h => h.elim
theorem CallA.law {P : Program} {f : FuncId} {args : List SV} {v : Value} (hA : CallA P f args [] (fun r' h' => r' = mkv v ∧ h' = [])) {w : World} {vs : List Value}
    (ha : All2 (SimV w (fun _ => none) (fun _ => False)) args vs) :
    Calls P f vs.toArray w fun e w' => e = .returned v ∧ w'.os = w.os ∧ w'.tape = w.tape ∧ w'.output = w.output ∧ w.heap.size ≤ w'.heap.size ∧ ∀ b, b < w.heap.size → w'.heap[b]? = w.heap[b]? := by
  have hH : HeapRel (fun _ => False) w (fun _ => none) [] := ⟨fun k o hk => by simp at hk, fun k k' o o' l l' b e1 => by simp at e1, fun _ _ => rfl, fun b hb => fun h => h, fun b h => h.elim⟩
  refine (hA (fun _ => False) w (fun _ => none) vs hH (by rw [mx_none]; exact ha)).mono (fun e w' he => ?_)
  obtain ⟨v', r', h', m', rfl, ⟨rfl, rfl⟩, H', hsim, hfr, hmt, hid⟩ := he
  have : v' = v := by cases hsim with | c h => cases h; rfl
  subst this
  exact ⟨rfl, hfr.os, hfr.tape, hfr.output.1, hfr.size, fun b hb => hfr.keep b hb (by rintro ⟨k, o, l, hk, _⟩; simp at hk)⟩
theorem CallA.below {P : Program} {f : FuncId} {args : List SV} {v : Value} (hA : CallA P f args [] (fun r' h' => r' = mkv v ∧ h' = [])) {w : World} {vs : List Value}
    (ha : All2 (SimV w (fun _ => none) (fun _ => False)) args vs) : Calls P f vs.toArray w fun e w' => e = .returned v ∧ Below w.heap.size w w' :=
  (CallA.law hA ha).mono fun e w' ⟨h1, h2, h3, h4, h5, h6⟩ => ⟨h1, ⟨h2, h3, h4, h5, h6⟩⟩
end
theorem FnOk.below {P : Program} {S : TSpec} (h : FnOk P S) (v : S.ps.V) {r : S.β} (hF : S.F v = some r) (h0 : eOs S.ps.objs v.2 = []) (h1 : eOs S.rs.objs (S.g r).2 = []) {y : Value} (hy : packR (eSs S.rs.slots (S.g r).1) = mkv y) {w : World} {vs : List Value}
    (ha : All2 (SimV w (fun _ => none) (fun _ => False)) ((eSs S.ps.slots v.1).map (·.2)) vs) : Calls P S.f vs.toArray w fun e w' => e = .returned y ∧ Below w.heap.size w w' := by
  have := h.2 v r hF
  rw [h0, h1, hy] at this
  exact this.below ha
end Go.AM
