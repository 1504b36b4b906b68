/- Planned situations: the program's and the reference's, by the tenants' states. -/
import Derived.Deep.Slices
import Derived.ChangeArms
import Derived.Below
import Derived.Test.YtcobljijioaflaaGreatP43ee0f771
namespace Go.CP
open Go
set_option linter.unusedSimpArgs false
set_option linter.unusedVariables false
def seatOf (t : ApiTenantState) : EvacplanSeat := { active := t.Placed && !t.Shed, home := t.Home, standby := t.Standby, next := t.Next, target := t.Target }
def bkS (c : ApiConfig) (s : ApiState) (ts : List ApiTenantState) : List Int := bookedS c { s with Tenants := ts }
def sit (c : ApiConfig) (s : ApiState) (ts : List ApiTenantState) : EvacplanSituation := { config := c, state := s, seats := ts.map seatOf, booked := bkS c s ts }
def actB (t : ApiTenantState) : Bool := t.Placed && !t.Shed
def usB (c : ApiConfig) (s : ApiState) (k : Int) : Bool := (decide (0 ≤ k) && decide (k < ((c.Cells.length : Nat) : Int))) && (((cAt s k).Mode == 1) && ((cAt s k).Running == (cAt s k).Wanted)) && !frzB c s k
def tkT (t : ApiTenantState) (x : ApiStep) : ApiTenantState :=
  bif x.Kind == 1 then { t with Shed := true, Target := -1 } else { t with Home := x.Cell, Standby := -1, Next := -1, Target := -1 }
def tkS (ts : List ApiTenantState) (x : ApiStep) : List ApiTenantState := ts.set x.Tenant.toNat (tkT (ts.getD x.Tenant.toNat default) x)
def possB (c : ApiConfig) (s : ApiState) (ts : List ApiTenantState) (x : ApiStep) : Bool :=
  (decide (0 ≤ x.Tenant) && decide (x.Tenant < ((ts.length : Nat) : Int))) && (decide (0 ≤ x.Cell) && decide (x.Cell < ((c.Cells.length : Nat) : Int))) && actB (ts.getD x.Tenant.toNat default) &&
    ((x.Kind == 1 && (ts.getD x.Tenant.toNat default).Home == x.Cell) || (x.Kind == 2 && (ts.getD x.Tenant.toNat default).Standby == x.Cell && usB c s x.Cell))
structure GS (c : ApiConfig) (ts : List ApiTenantState) : Prop where
  len : ts.length = c.Tenants.length
  t : ∀ x ∈ ts, TS c x
section
variable {c : ApiConfig} {s : ApiState} {ts : List ApiTenantState}
theorem GS.at [Fuel] (h : GS c ts) {i : Nat} (hi : i < ts.length) : TS c (ts.getD i default) := h.t _ (getD_mem hi)
theorem VS.gs [Fuel] (h : VS c s) : GS c s.Tenants := ⟨h.tl, h.t⟩
theorem GS.set [Fuel] (h : GS c ts) {i : Nat} {t : ApiTenantState} (ht : TS c t) : GS c (ts.set i t) :=
  ⟨by rw [List.length_set]; exact h.len, fun x hx => by
    rcases List.mem_or_eq_of_mem_set hx with q | q
    · exact h.t x q
    · rw [q]; exact ht⟩
theorem bk_len [Fuel] (c : ApiConfig) (s : ApiState) (ts : List ApiTenantState) : (bkS c s ts).length = c.Cells.length := booked_len _ _
theorem bk_get [Fuel] {j : Nat} (hj : j < c.Cells.length) : (bkS c s ts).getD j 0 = sumD c ts j ts.length := booked_get hj
theorem bk_bd [Fuel] (hc : VC c) (hg : GS c ts) : ∀ x ∈ bkS c s ts, 0 ≤ x ∧ x ≤ 8388608 := booked_bd hc (s := { s with Tenants := ts }) hg.len
theorem bk_at [Fuel] (hc : VC c) (hg : GS c ts) {j : Nat} (hj : j < c.Cells.length) : 0 ≤ (bkS c s ts).getD j 0 ∧ (bkS c s ts).getD j 0 ≤ 8388608 :=
  bk_bd hc hg _ (by
    have : j < (bkS c s ts).length := by rw [bk_len]; exact hj
    exact getD_mem (xs := bkS c s ts) this)
theorem bk_set [Fuel] {i : Nat} {t : ApiTenantState} (hi : i < ts.length) {j : Nat} (hj : j < c.Cells.length) :
    (bkS c s (ts.set i t)).getD j 0 = (bkS c s ts).getD j 0 + (dl t (c.Tenants.getD i default) j - dl (ts.getD i default) (c.Tenants.getD i default) j) := by
  rw [bk_get hj, bk_get hj, sum_set hi, List.length_set, if_pos hi]
theorem ext0 [Fuel] {a b : List Int} (hl : a.length = b.length) (h : ∀ j, j < b.length → a.getD j 0 = b.getD j 0) : a = b := by
  apply List.ext_getElem hl
  intro j h1 h2
  have := h j h2
  simpa [List.getD_eq_getElem?_getD, h1, h2] using this
theorem map_getD [Fuel] {i : Nat} (hi : i < ts.length) : (ts.map seatOf).getD i default = seatOf (ts.getD i default) := by
  simp [List.getD_eq_getElem?_getD, hi]
theorem frz_eq [Fuel] (hc : VC c) (hv : VS c s) {k : Int} (hk : 0 ≤ k ∧ k < ((c.Cells.length : Nat) : Int)) : 0 ≤ regionOf c k ∧ regionOf c k < 3 := by
  unfold regionOf
  rw [if_pos hk]
  have h1 := hc.cel _ (getD_mem (xs := c.Cells) (i := k.toNat) (by omega))
  have h2 := hc.z _ (getD_mem (xs := c.Zones) (i := (c.Cells.getD k.toNat default).Zone.toNat) (by omega))
  have := hc.reg
  omega
theorem usable_p [Fuel] (hc : VC c) (hv : VS c s) (k : Int) : evacplan_usable c s k = some (usB c s k) := by
  unfold evacplan_usable usB
  have hcl := hv.cl
  by_cases hk : 0 ≤ k ∧ k < ((c.Cells.length : Nat) : Int)
  · have e : ((decide (k < 0) || decide (((c.Cells.length : Nat) : Int) ≤ k)) || decide (((s.Cells.length : Nat) : Int) ≤ k)) = false := by
      rw [decide_eq_false (by omega), decide_eq_false (by omega), decide_eq_false (by omega)]; rfl
    have hr := frz_eq hc hv hk
    have hev := hv.evac
    rw [e, cond_false, ixL_ok hk.1 (by omega), topo_region hc, Option.bind_some, decide_eq_true hk.1, decide_eq_true hk.2]
    rw [u64_eq (by omega) (by omega), chkG_ok (by omega)]
    have hs := st_has (a := s.Evacuating) (i := regionOf c k) (by omega)
    have hb : (andK .i64 (shrK .i64 s.Evacuating (regionOf c k)) 1 == 0) = !frzB c s k := by
      unfold frzB hasB
      rw [shr_and (by omega) hr.1, Nat.min_eq_left (by omega), decide_eq_true (show 0 ≤ regionOf c k ∧ regionOf c k < 62 by omega), Bool.true_and]
      generalize s.Evacuating / 2 ^ (regionOf c k).toNat = z
      by_cases h1 : z % 2 = 1
      · rw [h1]; rfl
      · have : z % 2 = 0 := by omega
        rw [this]; rfl
    rw [hb, decide_eq_true hr.1]
    simp only [Bool.and_true, Bool.true_and]
    rfl
  · have e : ((decide (k < 0) || decide (((c.Cells.length : Nat) : Int) ≤ k)) || decide (((s.Cells.length : Nat) : Int) ≤ k)) = true := by
      by_cases h1 : k < 0
      · rw [decide_eq_true h1]; rfl
      · rw [decide_eq_true (show ((c.Cells.length : Nat) : Int) ≤ k by omega)]; simp
    rw [e, cond_true]
    have e2 : (decide (0 ≤ k) && decide (k < ((c.Cells.length : Nat) : Int))) = false := by
      by_cases h1 : 0 ≤ k
      · rw [decide_eq_false (show ¬ k < ((c.Cells.length : Nat) : Int) by omega)]; simp
      · rw [decide_eq_false h1]; rfl
    rw [e2]; rfl
def BdZ (l : List Int) (b : Int) : Prop := ∀ x ∈ l, -b ≤ x ∧ x ≤ b
theorem addAt_z [Fuel] {l : List Int} {b i n : Int} (h : BdZ l b) (hb : 0 ≤ b) (hn : -65536 ≤ n ∧ n ≤ 65536) : BdZ (addAt l i n) (b + 65536) := by
  unfold addAt
  split
  · rename_i hi
    intro x hx
    rcases List.mem_or_eq_of_mem_set hx with q | q
    · have := h x q; omega
    · have := h _ (getD_mem (xs := l) (i := i.toNat) (by omega))
      have e : l.getD i.toNat 0 = l.getD i.toNat default := rfl
      rw [q, e]; omega
  · intro x hx; have := h x hx; omega
theorem add_p [Fuel] {p : EvacplanSituation} {b i n : Int} (h : BdZ p.booked b) (hb : b ≤ 1000000000) (hn : -65536 ≤ n ∧ n ≤ 65536) : evacplan_situation_add p i n = some { p with booked := addAt p.booked i n } := by
  unfold evacplan_situation_add addAt
  by_cases hi : 0 ≤ i ∧ i < ((p.booked.length : Nat) : Int)
  · rw [decide_eq_true hi.1, decide_eq_true hi.2, if_pos hi]
    have := h _ (getD_mem (xs := p.booked) (i := i.toNat) (by omega))
    simp only [Bool.and_self, cond_true, ixL_ok hi.1 hi.2, letD]
    rw [w64_eq (by omega) (by omega)]; rfl
  · rw [if_neg hi]
    have : (decide (0 ≤ i) && decide (i < ((p.booked.length : Nat) : Int))) = false := by
      by_cases h1 : 0 ≤ i
      · rw [decide_eq_false (show ¬ i < ((p.booked.length : Nat) : Int) by omega)]; simp
      · rw [decide_eq_false h1]; rfl
    rw [this]; rfl
theorem bk_shed [Fuel] (hg : GS c ts) {i : Nat} (hi : i < ts.length) (ha : actB (ts.getD i default) = true) :
    addAt (addAt (bkS c s ts) (ts.getD i default).Home (0 - (c.Tenants.getD i default).Load)) (ts.getD i default).Target (0 - (c.Tenants.getD i default).Load) = bkS c s (ts.set i { ts.getD i default with Shed := true, Target := -1 }) := by
  apply ext0
  · rw [addAt_len, addAt_len, bk_len, bk_len]
  · intro j hj
    rw [bk_len] at hj
    unfold actB at ha
    rw [Bool.and_eq_true, Bool.not_eq_true'] at ha
    rw [addAt_get _ _ _ (by rw [addAt_len, bk_len]; exact hj), addAt_get _ _ _ (by rw [bk_len]; exact hj), bk_set hi hj]
    unfold dl
    simp only [ha.1, ha.2, if_true, Bool.false_eq_true, if_false]
    have e : ∀ (k n : Int), hit k (0 - n) j = - hit k n j := by intro k n; unfold hit; split <;> omega
    have n1 : ∀ n : Int, hit (-1) n j = 0 := fun n => hit_neg (by omega) j
    rw [e, e]; (try simp only [n1]); omega
theorem bk_move [Fuel] (hg : GS c ts) {i : Nat} (hi : i < ts.length) (ha : actB (ts.getD i default) = true) :
    addAt (addAt (addAt (addAt (bkS c s ts) (ts.getD i default).Home (0 - (c.Tenants.getD i default).Load)) (ts.getD i default).Target (0 - (c.Tenants.getD i default).Load)) (ts.getD i default).Next (0 - (c.Tenants.getD i default).Shadow)) (ts.getD i default).Standby ((c.Tenants.getD i default).Load - (c.Tenants.getD i default).Shadow) = bkS c s (ts.set i { ts.getD i default with Home := (ts.getD i default).Standby, Standby := -1, Next := -1, Target := -1 }) := by
  apply ext0
  · rw [addAt_len, addAt_len, addAt_len, addAt_len, bk_len, bk_len]
  · intro j hj
    rw [bk_len] at hj
    unfold actB at ha
    rw [Bool.and_eq_true, Bool.not_eq_true'] at ha
    rw [addAt_get _ _ _ (by rw [addAt_len, addAt_len, addAt_len, bk_len]; exact hj), addAt_get _ _ _ (by rw [addAt_len, addAt_len, bk_len]; exact hj), addAt_get _ _ _ (by rw [addAt_len, bk_len]; exact hj), addAt_get _ _ _ (by rw [bk_len]; exact hj), bk_set hi hj]
    unfold dl
    simp only [ha.1, ha.2, if_true, Bool.false_eq_true, if_false]
    have e : ∀ (k n : Int), hit k (0 - n) j = - hit k n j := by intro k n; unfold hit; split <;> omega
    have e2 : ∀ (k a b : Int), hit k (a - b) j = hit k a j - hit k b j := by intro k a b; unfold hit; split <;> omega
    have n1 : ∀ n : Int, hit (-1) n j = 0 := fun n => hit_neg (by omega) j
    rw [e, e, e, e2]; simp only [n1]; omega
theorem bk_z [Fuel] (hc : VC c) (hg : GS c ts) : BdZ (bkS c s ts) 8388608 := fun x hx => by have := bk_bd hc hg x hx; omega
theorem map_set [Fuel] {i : Nat} {t : ApiTenantState} : (ts.set i t).map seatOf = (ts.map seatOf).set i (seatOf t) := List.map_set
theorem neg_w [Fuel] {n : Int} (h : 0 ≤ n ∧ n ≤ 65536) : IntKind.i64.wrap (0 - n) = 0 - n := w64_eq (x := 0 - n) (by omega) (by omega)
theorem take_p [Fuel] (hc : VC c) (hv : VS c s) (hg : GS c ts) (x : ApiStep) : evacplan_situation_take (sit c s ts) x = some (possB c s ts x, sit c s (bif possB c s ts x then tkS ts x else ts)) := by
  have hgl := hg.len
  unfold evacplan_situation_take
  have hsl : (sit c s ts).seats.length = ts.length := by simp [sit]
  have hbl : (sit c s ts).booked.length = c.Cells.length := bk_len _ _ _
  rw [hsl, hbl]
  by_cases hr : (0 ≤ x.Tenant ∧ x.Tenant < ((ts.length : Nat) : Int)) ∧ (0 ≤ x.Cell ∧ x.Cell < ((c.Cells.length : Nat) : Int))
  · obtain ⟨h1, h2⟩ := hr
    have e : ((((decide (x.Tenant < 0)) || (decide (((ts.length : Nat) : Int) ≤ x.Tenant))) || (decide (x.Cell < 0))) || (decide (((c.Cells.length : Nat) : Int) ≤ x.Cell))) = false := by
      rw [decide_eq_false (by omega), decide_eq_false (by omega), decide_eq_false (by omega), decide_eq_false (by omega)]; rfl
    have hi : x.Tenant.toNat < ts.length := by omega
    have hd := tenant_bd hc (k := x.Tenant.toNat) (by omega)
    have hts := hg.at hi
    rw [e, cond_false, ixL_ok h1.1 (by show x.Tenant < ((c.Tenants.length : Nat) : Int); omega), ixL_ok h1.1 (by rw [hsl]; exact h1.2)]
    have hseat : (sit c s ts).seats.getD x.Tenant.toNat default = seatOf (ts.getD x.Tenant.toNat default) := map_getD hi
    rw [hseat]
    have ep : possB c s ts x = (actB (ts.getD x.Tenant.toNat default) && ((x.Kind == 1 && (ts.getD x.Tenant.toNat default).Home == x.Cell) || (x.Kind == 2 && (ts.getD x.Tenant.toNat default).Standby == x.Cell && usB c s x.Cell))) := by
      unfold possB
      rw [decide_eq_true h1.1, decide_eq_true h1.2, decide_eq_true h2.1, decide_eq_true h2.2]; rfl
    have b0 := bk_z (s := s) hc hg
    have b1 := addAt_z (i := (ts.getD x.Tenant.toNat default).Home) (n := 0 - (c.Tenants.getD x.Tenant.toNat default).Load) b0 (by omega) (by omega)
    have b2 := addAt_z (i := (ts.getD x.Tenant.toNat default).Target) (n := 0 - (c.Tenants.getD x.Tenant.toNat default).Load) b1 (by omega) (by omega)
    have b3 := addAt_z (i := (ts.getD x.Tenant.toNat default).Next) (n := 0 - (c.Tenants.getD x.Tenant.toNat default).Shadow) b2 (by omega) (by omega)
    have hcfg : (sit c s ts).config = c := rfl
    have hsta : (sit c s ts).state = s := rfl
    rw [hcfg]
    cases ha : actB (ts.getD x.Tenant.toNat default) with
    | false =>
      rw [ha] at ep
      have ha' : (seatOf (ts.getD x.Tenant.toNat default)).active = false := ha
      rw [ep]
      simp only [ha', Bool.not_false, Bool.true_or, cond_true, Bool.false_and, cond_false, Bool.not_true, Option.bind_some]
      cases (x.Kind == 1) <;> cases (x.Kind == 2) <;> rfl
    | true =>
      rw [ha, Bool.true_and] at ep
      have ha' : (seatOf (ts.getD x.Tenant.toNat default)).active = true := ha
      have hho : (seatOf (ts.getD x.Tenant.toNat default)).home = (ts.getD x.Tenant.toNat default).Home := rfl
      have hst : (seatOf (ts.getD x.Tenant.toNat default)).standby = (ts.getD x.Tenant.toNat default).Standby := rfl
      rw [neg_w ⟨hd.1, hd.2.1⟩, neg_w ⟨hd.2.2.1, hd.2.2.2⟩]
      simp only [ha', hho, hst, Bool.not_true, Bool.false_or]
      by_cases k1 : x.Kind = 1
      · have kb : (x.Kind == 1) = true := by simpa using k1
        have kb2 : (x.Kind == 2) = false := by rw [k1]; rfl
        rw [kb, kb2, Bool.true_and, Bool.false_and, Bool.false_and, Bool.or_false] at ep
        rw [kb, cond_true]
        by_cases hh : (ts.getD x.Tenant.toNat default).Home = x.Cell
        · have eb : ((ts.getD x.Tenant.toNat default).Home != x.Cell) = false := by rw [hh]; simp
          have eb2 : ((ts.getD x.Tenant.toNat default).Home == x.Cell) = true := by rw [hh]; simp
          rw [eb2] at ep
          rw [eb, cond_false, ep]
          rw [add_p (p := sit c s ts) (b := 8388608) b0 (by omega) (by omega)]
          simp only [Option.bind_some, letD, hseat]
          rw [add_p (b := 8388608 + 65536) b1 (by omega) (by omega)]
          simp only [Option.bind_some, hseat, cond_true]
          unfold evacplan_situation_take_k1
          have es : ∀ y : EvacplanSeat, (((sit c s ts).seats.set x.Tenant.toNat y).getD x.Tenant.toNat default) = y := fun y => getD_set (by rw [hsl]; exact hi)
          rw [es, List.set_set]
          congr 2
          unfold sit tkS tkT
          rw [kb, cond_true, map_set]
          have hs2 : seatOf { ts.getD x.Tenant.toNat default with Shed := true, Target := -1 } = { seatOf (ts.getD x.Tenant.toNat default) with active := false, target := -1 } := by unfold seatOf; simp
          rw [hs2]
          have := bk_shed (s := s) hg hi ha
          simp only
          congr 1
        · have eb : ((ts.getD x.Tenant.toNat default).Home != x.Cell) = true := by simpa using hh
          have eb2 : ((ts.getD x.Tenant.toNat default).Home == x.Cell) = false := by simpa using hh
          rw [eb2] at ep
          rw [eb, cond_true, ep]; rfl
      · have kb : (x.Kind == 1) = false := by simpa using k1
        rw [kb, Bool.false_and, Bool.false_or] at ep
        rw [kb, cond_false]
        by_cases k2 : x.Kind = 2
        · have kb2 : (x.Kind == 2) = true := by simpa using k2
          rw [kb2, Bool.true_and] at ep
          rw [kb2, cond_true]
          by_cases hh : (ts.getD x.Tenant.toNat default).Standby = x.Cell
          · have eb : ((ts.getD x.Tenant.toNat default).Standby != x.Cell) = false := by rw [hh]; simp
            have eb2 : ((ts.getD x.Tenant.toNat default).Standby == x.Cell) = true := by rw [hh]; simp
            rw [eb2, Bool.true_and] at ep
            rw [eb, Bool.not_false, cond_true, hsta, usable_p hc hv, Option.bind_some, Bool.false_or, hh]
            cases hu : usB c s x.Cell with
            | false => rw [hu] at ep; rw [ep]; rfl
            | true =>
              rw [hu] at ep
              rw [Bool.not_true, cond_false, ep]
              rw [add_p (p := sit c s ts) (b := 8388608) b0 (by omega) (by omega)]
              simp only [Option.bind_some, letD, hseat]
              rw [add_p (b := 8388608 + 65536) b1 (by omega) (by omega)]
              simp only [Option.bind_some, hseat]
              rw [add_p (b := 8388608 + 65536 + 65536) b2 (by omega) (by omega)]
              simp only [Option.bind_some, hseat]
              rw [w64_eq (by omega) (by omega), add_p (b := 8388608 + 65536 + 65536 + 65536) b3 (by omega) (by omega)]
              simp only [Option.bind_some, hseat, cond_true]
              unfold evacplan_situation_take_k1
              congr 2
              have hbm := bk_move (s := s) hg hi ha
              unfold sit tkS tkT
              rw [kb, cond_false, map_set]
              simp only
              have he : ({ ts.getD x.Tenant.toNat default with Home := (ts.getD x.Tenant.toNat default).Standby, Standby := -1, Next := -1, Target := -1 } : ApiTenantState) = { ts.getD x.Tenant.toNat default with Home := x.Cell, Standby := -1, Next := -1, Target := -1 } := by rw [hh]
              rw [he] at hbm
              have hseat2 : seatOf { ts.getD x.Tenant.toNat default with Home := x.Cell, Standby := -1, Next := -1, Target := -1 } = { active := true, home := x.Cell, standby := -1, next := -1, target := -1 : EvacplanSeat } := by
                unfold seatOf; unfold actB at ha; simp only [ha]
              rw [hseat2]
              congr 1
          · have eb : ((ts.getD x.Tenant.toNat default).Standby != x.Cell) = true := by simpa using hh
            have eb2 : ((ts.getD x.Tenant.toNat default).Standby == x.Cell) = false := by simpa using hh
            rw [eb2, Bool.false_and] at ep
            rw [eb, ep]; rfl
        · have kb2 : (x.Kind == 2) = false := by simpa using k2
          rw [kb2, Bool.false_and, Bool.false_and] at ep
          rw [kb2, cond_false, ep]; rfl
  · have e : ((((decide (x.Tenant < 0)) || (decide (((ts.length : Nat) : Int) ≤ x.Tenant))) || (decide (x.Cell < 0))) || (decide (((c.Cells.length : Nat) : Int) ≤ x.Cell))) = true := by
      simp only [Bool.or_eq_true, decide_eq_true_eq]; omega
    have ep : possB c s ts x = false := by
      unfold possB
      have : ((decide (0 ≤ x.Tenant) && decide (x.Tenant < ((ts.length : Nat) : Int))) && (decide (0 ≤ x.Cell) && decide (x.Cell < ((c.Cells.length : Nat) : Int)))) = false := by
        rw [Bool.eq_false_iff]; simp only [Bool.and_eq_true, decide_eq_true_eq, ne_eq]; exact hr
      rw [this]; rfl
    rw [e, cond_true, ep]; rfl
end
end Go.CP
namespace Go.CP
open Go
set_option linter.unusedSimpArgs false
set_option linter.unusedVariables false
section
variable {c : ApiConfig} {s : ApiState} {ts : List ApiTenantState}
theorem take_snoc [Fuel] {α : Type} [Inhabited α] {l : List α} {k : Nat} (hk : k < l.length) : l.take (k + 1) = l.take k ++ [l.getD k default] := by
  rw [List.take_add_one]; simp [List.getD_eq_getElem?_getD, hk]
theorem begin_p [Fuel] (hc : VC c) (hv : VS c s) : evacplan_begin c s = some (sit c s s.Tenants) := by
  have hct := hc.tl
  have hcl := hc.cl
  have htl := hv.tl
  unfold evacplan_begin
  have hm : (minE ((c.Tenants.length : Nat) : Int) ((s.Tenants.length : Nat) : Int)) = ((s.Tenants.length : Nat) : Int) := by unfold minE; rw [htl]; simp
  rw [hm, chkD_ok (by omega), Int.toNat_natCast, List.take_length]
  apply eqOk
  refine loop0 (L := fun m x i => evacplan_begin_l1 c s s.Tenants ((s.Tenants.length : Nat) : Int) m x i) s.Tenants.length (by omega) (fun k x => x = { config := c, state := s, seats := (s.Tenants.take k).map seatOf, booked := [] }) (by simp) ?_ ?_
  · rintro m k x hk rfl ih
    show Ok (evacplan_begin_l1 c s _ _ (m + 1) _ k) _
    rw [evacplan_begin_l1, condT (by omega), ixL_ok (by omega) (by omega), Int.toNat_natCast, chkD_ok (by simp only [List.length_singleton, List.length_map, List.length_take]; unfold room; omega), w64_eq (by omega) (by omega)]
    refine ih _ ?_
    simp only [take_snoc hk, List.map_append, List.map_cons, List.map_nil]
    rfl
  · rintro m x rfl
    show Ok (evacplan_begin_l1 c s _ _ (m + 1) _ _) _
    rw [evacplan_begin_l1, condF (by omega), chkD_ok (by omega), load_booked hc hv.tl, Option.bind_some, chkD_ok (by omega)]
    refine Ok.some ?_
    have hb := booked_len c s
    have e : cpyL 0 ((List.replicate (Int.toNat ((c.Cells.length : Nat) : Int)) (default : Int)).length) (List.replicate (Int.toNat ((c.Cells.length : Nat) : Int)) (default : Int)) (bookedS c s) = bookedS c s := by
      unfold cpyL
      simp [hb]
      rw [List.take_of_length_le (by omega)]
    rw [e, List.take_length]
    rfl
def tordS [Fuel] (c : ApiConfig) : List Int := (tenant_Order c).getD []
theorem tord [Fuel] (hc : VC c) : tenant_Order c = some (tordS c) ∧ ref05_Order c = some (tordS c) ∧ TOrd c (tordS c) := by
  obtain ⟨o, e1, e2, h⟩ := tenant_order_eq hc
  have : tordS c = o := by unfold tordS; rw [e1]; rfl
  rw [this]; exact ⟨e1, e2, h⟩
def candB (c : ApiConfig) (s : ApiState) (r i : Int) : Bool := actB (tAt s i) && (regionOf c (tAt s i).Home == r)
def candS [Fuel] (c : ApiConfig) (s : ApiState) (r : Int) : List Int := (tordS c).filter (candB c s r)
theorem cand_mem [Fuel] (hc : VC c) {r i : Int} : i ∈ candS c s r ↔ (0 ≤ i ∧ i < ((c.Tenants.length : Nat) : Int)) ∧ candB c s r i = true := by
  unfold candS; rw [List.mem_filter, (tord hc).2.2.mem]
theorem cand_len [Fuel] (hc : VC c) {r : Int} : (candS c s r).length ≤ 32 := by
  have h1 := List.length_filter_le (candB c s r) (tordS c)
  have h2 := (tord hc).2.2.len
  have h3 := hc.tl
  unfold candS; omega
theorem cands_p [Fuel] (hc : VC c) (hv : VS c s) (r : Int) : evacplan_candidates c s r = some (candS c s r) := by
  obtain ⟨e1, _, ho⟩ := tord hc
  have hct := hc.tl
  have hol := ho.len
  have htl := hv.tl
  unfold evacplan_candidates
  rw [e1, Option.bind_some]
  apply eqOk
  refine loop0 (L := fun m x i => evacplan_candidates_l2 c s r (tordS c) (((tordS c).length : Nat) : Int) m x i) (tordS c).length (by omega) (fun k x => x = ((tordS c).take k).filter (candB c s r)) rfl ?_ ?_
  · rintro m k x hk rfl ih
    show Ok (evacplan_candidates_l2 c s r _ _ (m + 1) _ k) _
    have hy := (ho.mem _).1 (getD_mem hk)
    rw [evacplan_candidates_l2, condT (by omega), ixL_ok (by omega) (by omega), Int.toNat_natCast]
    rw [decide_eq_false (by omega), decide_eq_false (show ¬ ((s.Tenants.length : Nat) : Int) ≤ (tordS c).getD k default by omega), Bool.or_false, cond_false, ixL_ok hy.1 (by omega)]
    unfold evacplan_candidates_k1
    have hfl := List.length_filter_le (candB c s r) ((tordS c).take k)
    rw [List.length_take] at hfl
    have nx := ih (((tordS c).take (k + 1)).filter (candB c s r)) rfl
    rw [take_snoc hk, List.filter_append, List.filter_cons, List.filter_nil] at nx
    have eq : candB c s r ((tordS c).getD k default) = (((s.Tenants.getD ((tordS c).getD k default).toNat default).Placed && !(s.Tenants.getD ((tordS c).getD k default).toNat default).Shed) && (regionOf c (s.Tenants.getD ((tordS c).getD k default).toNat default).Home == r)) := rfl
    rw [eq] at nx
    cases hq : ((s.Tenants.getD ((tordS c).getD k default).toNat default).Placed && !(s.Tenants.getD ((tordS c).getD k default).toNat default).Shed) with
    | false =>
      rw [hq] at nx
      simp only [Bool.false_and, Bool.false_eq_true, if_false, List.append_nil] at nx
      simp only [cond_false, Option.bind_some, Bool.false_and]
      rw [w64_eq (by omega) (by omega)]
      exact nx
    | true =>
      rw [hq] at nx
      simp only [cond_true, topo_region hc, Option.bind_some, Bool.true_and] at nx ⊢
      rw [w64_eq (by omega) (by omega)]
      cases hq2 : (regionOf c (s.Tenants.getD ((tordS c).getD k default).toNat default).Home == r) with
      | true =>
        rw [hq2] at nx
        rw [cond_true, chkD_ok (by simp only [List.length_singleton]; unfold room; omega)]
        exact nx
      | false =>
        rw [hq2] at nx
        simp only [Bool.false_eq_true, if_false, List.append_nil] at nx
        exact nx
  · rintro m x rfl
    show Ok (evacplan_candidates_l2 c s r _ _ (m + 1) _ _) _
    rw [evacplan_candidates_l2, condF (by omega), List.take_length]
    exact Ok.some rfl
def ordS [Fuel] (c : ApiConfig) (l : List Int) : List Int := (shed_Order c l).getD []
theorem ordS_p [Fuel] (hc : VC c) {l : List Int} (hl : l.length ≤ 1000) : shed_Order c l = some (ordS c l) ∧ OrdS c l (ordS c l) := by
  obtain ⟨o, e1, h⟩ := order_p (c := c) hl
  have : ordS c l = o := by unfold ordS; rw [e1]; rfl
  rw [this]; exact ⟨e1, h⟩
def lowB (c : ApiConfig) (ts : List ApiTenantState) (k pr : Int) (n : Nat) : Bool := (actB (ts.getD n default) && ((ts.getD n default).Home == k)) && decide ((c.Tenants.getD n default).Priority < pr)
def lowF (c : ApiConfig) (ts : List ApiTenantState) (k pr : Int) : Nat → List Int
  | 0 => []
  | n + 1 => bif lowB c ts k pr n then lowF c ts k pr n ++ [(n : Int)] else lowF c ts k pr n
def lowS [Fuel] (c : ApiConfig) (ts : List ApiTenantState) (k pr : Int) : List Int := ordS c (lowF c ts k pr ts.length)
theorem lowF_len [Fuel] (k pr : Int) : ∀ n, (lowF c ts k pr n).length ≤ n
  | 0 => Nat.le_refl _
  | n + 1 => by
    have := lowF_len k pr n
    rw [lowF]; cases lowB c ts k pr n <;> simp <;> omega
theorem lowF_mem [Fuel] (k pr : Int) : ∀ n y, y ∈ lowF c ts k pr n ↔ ∃ j : Nat, j < n ∧ y = (j : Int) ∧ lowB c ts k pr j = true
  | 0, y => by simp [lowF]
  | n + 1, y => by
    have ih := lowF_mem k pr n y
    rw [lowF]
    cases hb : lowB c ts k pr n with
    | true =>
      rw [cond_true, List.mem_append, List.mem_singleton, ih]
      constructor
      · rintro (⟨j, h1, h2, h3⟩ | h)
        · exact ⟨j, by omega, h2, h3⟩
        · exact ⟨n, by omega, h, hb⟩
      · rintro ⟨j, h1, h2, h3⟩
        by_cases e : j = n
        · subst e; exact .inr h2
        · exact .inl ⟨j, by omega, h2, h3⟩
    | false =>
      rw [cond_false, ih]
      constructor
      · rintro ⟨j, h1, h2, h3⟩; exact ⟨j, by omega, h2, h3⟩
      · rintro ⟨j, h1, h2, h3⟩
        by_cases e : j = n
        · subst e; rw [hb] at h3; cases h3
        · exact ⟨j, by omega, h2, h3⟩
theorem low_ok [Fuel] (hc : VC c) (hg : GS c ts) (k pr : Int) : OrdS c (lowF c ts k pr ts.length) (lowS c ts k pr) := by
  have := lowF_len (c := c) (ts := ts) k pr ts.length
  have h1 := hg.len
  have h2 := hc.tl
  exact (ordS_p hc (by omega)).2
theorem low_mem [Fuel] (hc : VC c) (hg : GS c ts) {k pr y : Int} : y ∈ lowS c ts k pr ↔ (0 ≤ y ∧ y < ((ts.length : Nat) : Int)) ∧ lowB c ts k pr y.toNat = true := by
  rw [(low_ok hc hg k pr).mem]
  unfold inT
  rw [lowF_mem]
  have := hg.len
  constructor
  · rintro ⟨h1, h2, j, h3, rfl, h5⟩; exact ⟨⟨h1, by omega⟩, by rw [Int.toNat_natCast]; exact h5⟩
  · rintro ⟨h1, h2⟩; exact ⟨h1.1, by omega, y.toNat, by omega, by omega, h2⟩
theorem low_nodup [Fuel] (hc : VC c) (hg : GS c ts) (k pr : Int) : (lowS c ts k pr).Nodup := (low_ok hc hg k pr).so.imp (fun q => (befS_sto c).ne q)
theorem below_p [Fuel] (hc : VC c) (hg : GS c ts) (k pr : Int) : evacplan_situation_below (sit c s ts) k pr = some (lowS c ts k pr) := by
  have hct := hc.tl
  have hgl := hg.len
  unfold evacplan_situation_below
  have hsl : (sit c s ts).seats.length = ts.length := by simp [sit]
  rw [hsl]
  apply eqOk
  refine loop0 (L := fun m x i => evacplan_situation_below_l2 (sit c s ts) k pr (sit c s ts).seats ((ts.length : Nat) : Int) m x i) ts.length (by omega) (fun n x => x = lowF c ts k pr n) rfl ?_ ?_
  · rintro m n x hn rfl ih
    show Ok (evacplan_situation_below_l2 _ k pr _ _ (m + 1) _ n) _
    have hl := lowF_len (c := c) (ts := ts) k pr n
    have nx := ih (lowF c ts k pr (n + 1)) rfl
    rw [lowF] at nx
    rw [evacplan_situation_below_l2, condT (by omega), ixL_ok (by omega) (by rw [hsl]; omega), Int.toNat_natCast]
    have hseat : (sit c s ts).seats.getD n default = seatOf (ts.getD n default) := map_getD hn
    rw [hseat]
    rw [ixG_ok ⟨by omega, by show (n : Int) < ((c.Tenants.length : Nat) : Int); omega⟩, Int.toNat_natCast]
    unfold evacplan_situation_below_k1
    rw [w64_eq (by omega) (by omega)]
    show Ok (bif lowB c ts k pr n then _ else _) _
    cases hb : lowB c ts k pr n with
    | true =>
      rw [hb] at nx
      rw [cond_true, chkD_ok (by simp only [List.length_singleton]; unfold room; omega)]
      exact nx
    | false => rw [hb] at nx; exact nx
  · rintro m x rfl
    show Ok (evacplan_situation_below_l2 _ k pr _ _ (m + 1) _ _) _
    have hl := lowF_len (c := c) (ts := ts) k pr ts.length
    rw [evacplan_situation_below_l2, condF (by omega)]
    show Ok ((shed_Order c _).bind _) _
    rw [(ordS_p hc (by omega)).1]
    exact Ok.some rfl
def missS (c : ApiConfig) (s : ApiState) (ts : List ApiTenantState) (i : Int) : Int :=
  (tn c i).Load - (tn c i).Shadow - ((c.Cells.getD (ts.getD i.toNat default).Standby.toNat default).Capacity - (bkS c s ts).getD (ts.getD i.toNat default).Standby.toNat 0)
def preF (c : ApiConfig) : List Int → Int → List Int × Int
  | [], m => ([], m)
  | y :: r, m => bif decide (m ≤ 0) then ([], m) else (y :: (preF c r (m - (tn c y).Load)).1, (preF c r (m - (tn c y).Load)).2)
def shSt (k i : Int) : ApiStep := { Kind := 1, Tenant := i, Cell := k }
def mvSt (k i : Int) : ApiStep := { Kind := 2, Tenant := i, Cell := k }
def stpS [Fuel] (c : ApiConfig) (s : ApiState) (ts : List ApiTenantState) (i : Int) : List ApiStep :=
  bif !(actB (ts.getD i.toNat default)) || !(usB c s (ts.getD i.toNat default).Standby) then [] else
    bif decide (0 < (preF c (lowS c ts (ts.getD i.toNat default).Standby (tn c i).Priority) (missS c s ts i)).2) then [] else
      (preF c (lowS c ts (ts.getD i.toNat default).Standby (tn c i).Priority) (missS c s ts i)).1.map (shSt (ts.getD i.toNat default).Standby) ++ [mvSt (ts.getD i.toNat default).Standby i]
theorem us_rng [Fuel] {k : Int} (h : usB c s k = true) : 0 ≤ k ∧ k < ((c.Cells.length : Nat) : Int) := by
  unfold usB at h
  simp only [Bool.and_eq_true, decide_eq_true_eq] at h
  exact h.1.1
theorem pre_len [Fuel] : ∀ (l : List Int) (m : Int), (preF c l m).1.length ≤ l.length
  | [], m => Nat.le_refl _
  | y :: r, m => by
    rw [preF]
    by_cases h : m ≤ 0
    · rw [decide_eq_true h]; simp
    · rw [decide_eq_false h]
      have := pre_len r (m - (tn c y).Load)
      simp only [cond_false, List.length_cons]; omega
theorem miss_bd [Fuel] (hc : VC c) (hg : GS c ts) {i : Int} (hi : 0 ≤ i ∧ i < ((ts.length : Nat) : Int)) (hu : usB c s (ts.getD i.toNat default).Standby = true) : -10000000 ≤ missS c s ts i ∧ missS c s ts i ≤ 10000000 := by
  have hk := us_rng hu
  have hd := tenant_bd hc (k := i.toNat) (by have := hg.len; omega)
  have hcap := cap_bd hc (k := (ts.getD i.toNat default).Standby.toNat) (by omega)
  have hb := bk_at (s := s) hc hg (j := (ts.getD i.toNat default).Standby.toNat) (by omega)
  unfold missS tn
  omega
theorem steps_l [Fuel] (hc : VC c) (hg : GS c ts) {i k : Int} {x1 : EvacplanSeat} (hk : x1.standby = k) {l : List Int} (hl : l.length ≤ 1000) (hm : ∀ y ∈ l, 0 ≤ y ∧ y < ((c.Tenants.length : Nat) : Int)) {m0 : Int} (h0 : -10000000 ≤ m0 ∧ m0 ≤ 10000000) :
    evacplan_situation_steps_l2 (sit c s ts) i x1 l ((l.length : Nat) : Int) fuel m0 [] 0 = some (bif decide (0 < (preF c l m0).2) then [] else (preF c l m0).1.map (shSt k) ++ [mvSt k i]) := by
  apply eqOk
  have kk : ∀ (st : List ApiStep) (m : Int), st.length ≤ 1000 → evacplan_situation_steps_k1 i x1 m st = some (bif decide (0 < m) then [] else st ++ [mvSt k i]) := by
    intro st m hst
    unfold evacplan_situation_steps_k1
    by_cases h : 0 < m
    · rw [decide_eq_true h]; rfl
    · rw [decide_eq_false h, cond_false, cond_false, chkD_ok (by simp only [List.length_singleton]; unfold room; omega), hk]; rfl
  refine loop0 (L := fun q (x : Int × List ApiStep) j => evacplan_situation_steps_l2 (sit c s ts) i x1 l ((l.length : Nat) : Int) q x.1 x.2 j) (x := (m0, [])) l.length (by omega)
    (fun j x => (bif decide (0 < (preF c (l.drop j) x.1).2) then [] else x.2 ++ (preF c (l.drop j) x.1).1.map (shSt k) ++ [mvSt k i]) = (bif decide (0 < (preF c l m0).2) then [] else (preF c l m0).1.map (shSt k) ++ [mvSt k i]) ∧ x.2.length ≤ j ∧ -10000000 ≤ x.1 ∧ x.1 ≤ 10000000)
    ⟨by simp, Nat.le_refl _, h0.1, h0.2⟩ ?_ ?_
  · rintro m j ⟨a, st⟩ hj ⟨h1, h2, h3, h4⟩ ih
    show Ok (evacplan_situation_steps_l2 _ i x1 l _ (m + 1) a st j) _
    simp only at h1 h2 h3 h4
    have hy := hm _ (getD_mem hj)
    have hb := tn_bd hc hy
    rw [evacplan_situation_steps_l2, condT (by omega), ixL_ok (by omega) (by omega), Int.toNat_natCast]
    rw [drop_get hj, preF] at h1
    by_cases hz : a ≤ 0
    · rw [decide_eq_true hz, cond_true] at h1
      rw [condT hz, kk st a (by omega)]
      refine Ok.some ?_
      rw [← h1]
      simp
    · rw [decide_eq_false hz, cond_false] at h1
      rw [condF hz, ixL_ok hy.1 (by show _ < ((c.Tenants.length : Nat) : Int); exact hy.2), chkD_ok (by simp only [List.length_singleton]; unfold room; omega)]
      show Ok (evacplan_situation_steps_l2 _ i x1 l _ m (w64 (a - (tn c (l.getD j default)).Load)) (st ++ [{ Kind := 1, Tenant := l.getD j default, Cell := x1.standby }]) _) _
      rw [hk, w64_eq (by omega) (by omega), w64_eq (by omega) (by omega)]
      refine ih (a - (tn c (l.getD j default)).Load, st ++ [shSt k (l.getD j default)]) ⟨?_, by simp; omega, by simp only; omega, by simp only; omega⟩
      rw [← h1]
      simp
  · rintro m ⟨a, st⟩ ⟨h1, h2, h3, h4⟩
    show Ok (evacplan_situation_steps_l2 _ i x1 l _ (m + 1) a st _) _
    simp only at h1 h2
    rw [evacplan_situation_steps_l2, condF (by omega), kk st a (by omega)]
    refine Ok.some ?_
    rw [← h1, List.drop_length, preF]
    simp
theorem steps_p [Fuel] (hc : VC c) (hv : VS c s) (hg : GS c ts) {i : Int} (hi : 0 ≤ i ∧ i < ((ts.length : Nat) : Int)) : evacplan_situation_steps (sit c s ts) i = some (stpS c s ts i) := by
  have hct := hc.tl
  have hgl := hg.len
  unfold evacplan_situation_steps stpS
  have hsl : (sit c s ts).seats.length = ts.length := by simp [sit]
  have hbl : (sit c s ts).booked.length = c.Cells.length := bk_len _ _ _
  rw [ixL_ok hi.1 (by rw [hsl]; exact hi.2)]
  have hseat : (sit c s ts).seats.getD i.toNat default = seatOf (ts.getD i.toNat default) := map_getD (by omega)
  rw [hseat]
  have ha' : (seatOf (ts.getD i.toNat default)).active = actB (ts.getD i.toNat default) := rfl
  have hst : (seatOf (ts.getD i.toNat default)).standby = (ts.getD i.toNat default).Standby := rfl
  rw [ha', hst]
  cases ha : actB (ts.getD i.toNat default) with
  | false => rfl
  | true =>
    simp only [Bool.not_true, Bool.not_false, cond_true, Bool.false_or]
    show ((evacplan_usable c s _).bind _) = _
    rw [usable_p hc hv, Option.bind_some]
    cases hu : usB c s (ts.getD i.toNat default).Standby with
    | false => rfl
    | true =>
      have hk := us_rng hu
      simp only [Bool.not_true, cond_false]
      rw [ixL_ok hi.1 (by show i < ((c.Tenants.length : Nat) : Int); omega), ixL_ok hk.1 (by exact hk.2), ixL_ok hk.1 (by rw [hbl]; exact hk.2)]
      have hd := tenant_bd hc (k := i.toNat) (by omega)
      have hcap := cap_bd hc (k := (ts.getD i.toNat default).Standby.toNat) (by omega)
      have hb := bk_at (s := s) hc hg (j := (ts.getD i.toNat default).Standby.toNat) (by omega)
      have hmb := miss_bd (s := s) hc hg hi hu
      show ((evacplan_situation_below (sit c s ts) _ (tn c i).Priority).bind _) = _
      rw [below_p hc hg, Option.bind_some]
      have ho := low_ok hc hg (ts.getD i.toNat default).Standby (tn c i).Priority
      have hw : w64 (w64 ((c.Tenants.getD i.toNat default).Load - (c.Tenants.getD i.toNat default).Shadow) - w64 ((c.Cells.getD (ts.getD i.toNat default).Standby.toNat default).Capacity - (sit c s ts).booked.getD (ts.getD i.toNat default).Standby.toNat default)) = missS c s ts i := by
        have e0 : (sit c s ts).booked.getD (ts.getD i.toNat default).Standby.toNat default = (bkS c s ts).getD (ts.getD i.toNat default).Standby.toNat 0 := rfl
        rw [e0, w64_eq (x := (c.Tenants.getD i.toNat default).Load - (c.Tenants.getD i.toNat default).Shadow) (by omega) (by omega), w64_eq (x := (c.Cells.getD (ts.getD i.toNat default).Standby.toNat default).Capacity - (bkS c s ts).getD (ts.getD i.toNat default).Standby.toNat 0) (by omega) (by omega), w64_eq (by omega) (by omega)]
        rfl
      have hw' : w64 (w64 (((sit c s ts).config.Tenants.getD i.toNat default).Load - ((sit c s ts).config.Tenants.getD i.toNat default).Shadow) - w64 (((sit c s ts).config.Cells.getD (ts.getD i.toNat default).Standby.toNat default).Capacity - (sit c s ts).booked.getD (ts.getD i.toNat default).Standby.toNat default)) = missS c s ts i := hw
      rw [hw']
      exact steps_l hc hg rfl ho.len (fun y hy => by have := (low_mem hc hg).1 hy; omega) hmb
theorem stp_len [Fuel] (hc : VC c) (hg : GS c ts) (i : Int) : (stpS c s ts i).length ≤ 1001 := by
  unfold stpS
  cases (!(actB (ts.getD i.toNat default)) || !(usB c s (ts.getD i.toNat default).Standby)) with
  | true => simp
  | false =>
    simp only [cond_false]
    cases decide (0 < (preF c (lowS c ts (ts.getD i.toNat default).Standby (tn c i).Priority) (missS c s ts i)).2) with
    | true => simp
    | false =>
      have h1 := pre_len (c := c) (lowS c ts (ts.getD i.toNat default).Standby (tn c i).Priority) (missS c s ts i)
      have h2 := (low_ok hc hg (ts.getD i.toNat default).Standby (tn c i).Priority).len
      simp only [cond_false, List.length_append, List.length_map, List.length_singleton]
      omega
end
end Go.CP
namespace Go.CP
open Go
set_option linter.unusedSimpArgs false
set_option linter.unusedVariables false
def rnT (c : ApiConfig) (s : ApiState) : List ApiTenantState → List ApiStep → List ApiTenantState
  | ts, [] => ts
  | ts, x :: r => rnT c s (bif possB c s ts x then tkS ts x else ts) r
abbrev PQ3 := List ApiTenantState × List ApiStep × List Int
def pasS [Fuel] (c : ApiConfig) (s : ApiState) : List Int → PQ3 → PQ3
  | [], q => q
  | x :: r, q => pasS c s r (rnT c s q.1 (stpS c s q.1 x), q.2.1 ++ stpS c s q.1 x, bif (stpS c s q.1 x).isEmpty then q.2.2 ++ [x] else q.2.2)
def itS [Fuel] (c : ApiConfig) (s : ApiState) : Nat → PQ3 → PQ3
  | 0, q => q
  | n + 1, q => bif (pasS c s q.2.2 (q.1, q.2.1, [])).2.2.length == q.2.2.length then ((pasS c s q.2.2 (q.1, q.2.1, [])).1, (pasS c s q.2.2 (q.1, q.2.1, [])).2.1, q.2.2) else itS c s n (pasS c s q.2.2 (q.1, q.2.1, []))
def mkS [Fuel] (c : ApiConfig) (s : ApiState) (r : Int) : PQ3 := itS c s 33 (s.Tenants, [], candS c s r)
section
variable {c : ApiConfig} {s : ApiState} {ts : List ApiTenantState}
theorem poss_elim [Fuel] {x : ApiStep} (h : possB c s ts x = true) : (0 ≤ x.Tenant ∧ x.Tenant < ((ts.length : Nat) : Int)) ∧ (0 ≤ x.Cell ∧ x.Cell < ((c.Cells.length : Nat) : Int)) ∧ actB (ts.getD x.Tenant.toNat default) = true ∧
    ((x.Kind = 1 ∧ (ts.getD x.Tenant.toNat default).Home = x.Cell) ∨ (x.Kind = 2 ∧ (ts.getD x.Tenant.toNat default).Standby = x.Cell ∧ usB c s x.Cell = true)) := by
  unfold possB at h
  simp only [Bool.and_eq_true, Bool.or_eq_true, decide_eq_true_eq, beq_iff_eq] at h
  obtain ⟨⟨⟨h1, h2⟩, h3⟩, h4⟩ := h
  refine ⟨h1, h2, h3, ?_⟩
  rcases h4 with h | h
  · exact .inl h
  · exact .inr ⟨h.1.1, h.1.2, h.2⟩
theorem poss_shed [Fuel] {k i : Int} (hi : 0 ≤ i ∧ i < ((ts.length : Nat) : Int)) (hk : 0 ≤ k ∧ k < ((c.Cells.length : Nat) : Int)) (ha : actB (ts.getD i.toNat default) = true) (hh : (ts.getD i.toNat default).Home = k) : possB c s ts (shSt k i) = true := by
  unfold possB shSt
  simp only [Bool.and_eq_true, Bool.or_eq_true, decide_eq_true_eq, beq_iff_eq]
  exact ⟨⟨⟨hi, hk⟩, ha⟩, .inl ⟨trivial, hh⟩⟩
theorem poss_move [Fuel] {k i : Int} (hi : 0 ≤ i ∧ i < ((ts.length : Nat) : Int)) (hu : usB c s k = true) (ha : actB (ts.getD i.toNat default) = true) (hh : (ts.getD i.toNat default).Standby = k) : possB c s ts (mvSt k i) = true := by
  unfold possB mvSt
  simp only [Bool.and_eq_true, Bool.or_eq_true, decide_eq_true_eq, beq_iff_eq]
  exact ⟨⟨⟨hi, us_rng hu⟩, ha⟩, .inr ⟨⟨trivial, hh⟩, hu⟩⟩
theorem act_iff [Fuel] {t : ApiTenantState} : actB t = true ↔ t.Placed = true ∧ t.Shed = false := by unfold actB; rw [Bool.and_eq_true, Bool.not_eq_true']
theorem tk_gs [Fuel] (hg : GS c ts) {x : ApiStep} (h : possB c s ts x = true) : GS c (tkS ts x) := by
  obtain ⟨h1, h2, h3, h4⟩ := poss_elim h
  rw [act_iff] at h3
  have ht := hg.at (i := x.Tenant.toNat) (by omega)
  refine hg.set ?_
  unfold tkT
  cases (x.Kind == 1) with
  | true => exact ⟨ht.home, ht.sb, ht.nx, by show -1 ≤ (-1 : Int) ∧ (-1 : Int) < _; omega, ht.wc, ht.pl, fun _ => h3.1, ht.ep, ht.we, ht.wv, ht.wf⟩
  | false => exact ⟨by show -1 ≤ x.Cell ∧ x.Cell < _; omega, by show -1 ≤ (-1 : Int) ∧ (-1 : Int) < _; omega, by show -1 ≤ (-1 : Int) ∧ (-1 : Int) < _; omega, by show -1 ≤ (-1 : Int) ∧ (-1 : Int) < _; omega, ht.wc, fun _ => h2.1, ht.sh, ht.ep, ht.we, ht.wv, ht.wf⟩
theorem rn_gs [Fuel] : ∀ (l : List ApiStep) {ts : List ApiTenantState}, GS c ts → GS c (rnT c s ts l)
  | [], ts, h => h
  | x :: r, ts, h => by
    rw [rnT]
    cases hp : possB c s ts x with
    | true => exact rn_gs r (tk_gs h hp)
    | false => exact rn_gs r h
theorem rn_app [Fuel] : ∀ (a b : List ApiStep) (ts : List ApiTenantState), rnT c s ts (a ++ b) = rnT c s (rnT c s ts a) b
  | [], b, ts => rfl
  | x :: r, b, ts => by rw [List.cons_append, rnT, rnT]; exact rn_app r b _
theorem rn_len [Fuel] : ∀ (l : List ApiStep) (ts : List ApiTenantState), (rnT c s ts l).length = ts.length
  | [], ts => rfl
  | x :: r, ts => by
    rw [rnT, rn_len r]
    cases possB c s ts x <;> simp [tkS]
theorem make_l2 [Fuel] (hc : VC c) (hv : VS c s) {rc : EvacplanSituation → ApiEvac → List Int → Int → Option (ApiEvac × Int)} {e : ApiEvac} {lf : List Int} {j x : Int} {st : List ApiStep} (hst : st.length ≤ 1001) (hlf : lf.length ≤ 1000) (hes : e.Steps.length ≤ 100000) (hj : 0 ≤ j ∧ j ≤ 1000) {res : ApiEvac × Int} (hg : GS c ts)
    (hn : rc (sit c s (rnT c s ts st)) { e with Steps := e.Steps ++ st } (bif st.isEmpty then lf ++ [x] else lf) (j + 1) = some res) :
    evacplan_Make_l2 rc e lf j x st ((st.length : Nat) : Int) fuel (sit c s ts) 0 = some res := by
  apply eqOk
  refine loop0 (L := fun m p i => evacplan_Make_l2 rc e lf j x st ((st.length : Nat) : Int) m p i) st.length (by omega) (fun k p => ∃ ts', p = sit c s ts' ∧ GS c ts' ∧ rnT c s ts' (st.drop k) = rnT c s ts st) ⟨ts, rfl, hg, rfl⟩ ?_ ?_
  · rintro m k p hk ⟨ts', rfl, hg', e1⟩ ih
    show Ok (evacplan_Make_l2 rc e lf j x st _ (m + 1) _ k) _
    rw [evacplan_Make_l2, condT (by omega), ixL_ok (by omega) (by omega), Int.toNat_natCast, take_p hc hv hg', Option.bind_some, w64_eq (by omega) (by omega)]
    have ed : st.drop k = st.getD k default :: st.drop (k + 1) := by rw [List.drop_eq_getElem_cons hk]; simp [List.getD_eq_getElem?_getD, hk]
    rw [ed, rnT] at e1
    refine ih _ ⟨_, rfl, ?_, e1⟩
    cases hp : possB c s ts' (st.getD k default) with
    | true => exact tk_gs hg' hp
    | false => exact hg'
  · rintro m p ⟨ts', rfl, hg', e1⟩
    show Ok (evacplan_Make_l2 rc e lf j x st _ (m + 1) _ _) _
    rw [List.drop_length, rnT] at e1
    subst e1
    rw [evacplan_Make_l2, condF (by omega)]
    unfold evacplan_Make_k1
    rw [w64_eq (by omega) (by omega)]
    cases st with
    | nil =>
      rw [show (((([] : List ApiStep).length : Nat) : Int) == 0) = true from rfl, cond_true, chkD_ok (by simp only [List.length_singleton]; unfold room; omega), chkD_ok (by simp only [List.length_nil]; unfold room; omega)]
      exact okEq hn
    | cons a b =>
      have : ((((a :: b).length : Nat) : Int) == 0) = false := by rw [List.length_cons]; simp; omega
      rw [this, cond_false, chkD_ok (by unfold room; omega)]
      exact okEq hn
theorem pas_gs [Fuel] : ∀ (l : List Int) {q : PQ3}, GS c q.1 → GS c (pasS c s l q).1
  | [], q, h => h
  | x :: r, q, h => pas_gs r (q := (rnT c s q.1 (stpS c s q.1 x), q.2.1 ++ stpS c s q.1 x, bif (stpS c s q.1 x).isEmpty then q.2.2 ++ [x] else q.2.2)) (rn_gs _ h)
theorem pas_len [Fuel] (hc : VC c) : ∀ (l : List Int) {q : PQ3}, GS c q.1 → (pasS c s l q).2.1.length + 1001 * (pasS c s l q).2.2.length ≤ q.2.1.length + 1001 * (q.2.2.length + l.length) ∧ (pasS c s l q).2.2.length ≤ q.2.2.length + l.length
  | [], q, h => ⟨by simp [pasS], by simp [pasS]⟩
  | x :: r, q, h => by
    have ih := pas_len hc r (q := (rnT c s q.1 (stpS c s q.1 x), q.2.1 ++ stpS c s q.1 x, bif (stpS c s q.1 x).isEmpty then q.2.2 ++ [x] else q.2.2)) (rn_gs _ h)
    have h1 := stp_len (s := s) hc h x
    rw [pasS]
    simp only at ih
    cases hst : stpS c s q.1 x with
    | nil => rw [hst] at ih h1; simp only [List.isEmpty_nil, cond_true, List.length_append, List.length_singleton, List.length_nil, List.length_cons] at ih h1 ⊢; omega
    | cons a b => rw [hst] at ih h1; simp only [List.isEmpty_cons, cond_false, List.length_append, List.length_cons] at ih h1 ⊢; omega
theorem pas_sub [Fuel] : ∀ (l : List Int) {q : PQ3} {y : Int}, y ∈ (pasS c s l q).2.2 → y ∈ q.2.2 ∨ y ∈ l
  | [], q, y, h => .inl h
  | x :: r, q, y, h => by
    rcases pas_sub r h with h1 | h1
    · simp only at h1
      cases hst : (stpS c s q.1 x).isEmpty with
      | true => rw [hst, cond_true, List.mem_append, List.mem_singleton] at h1; rcases h1 with h1 | h1; exact .inl h1; exact .inr (h1 ▸ List.mem_cons_self)
      | false => rw [hst] at h1; exact .inl h1
    · exact .inr (List.mem_cons_of_mem _ h1)
theorem make_l3 [Fuel] (hc : VC c) (hv : VS c s) {rc : EvacplanSituation → ApiEvac → Option (ApiEvac × Int)} {R : Int} {L : List Int} {st0 : List ApiStep} (hl : L.length ≤ 32) (hL : ∀ y ∈ L, 0 ≤ y ∧ y < ((c.Tenants.length : Nat) : Int)) (hb : st0.length + 1001 * L.length ≤ 33000) (hg : GS c ts) {res : ApiEvac × Int}
    (hn : (bif (pasS c s L (ts, st0, [])).2.2.length == L.length then some ({ Region := R, Steps := (pasS c s L (ts, st0, [])).2.1, Left := L }, 0) else rc (sit c s (pasS c s L (ts, st0, [])).1) { Region := R, Steps := (pasS c s L (ts, st0, [])).2.1, Left := (pasS c s L (ts, st0, [])).2.2 }) = some res) :
    evacplan_Make_l3 rc L ((L.length : Nat) : Int) fuel (sit c s ts) { Region := R, Steps := st0, Left := L } [] 0 = some res := by
  apply eqOk
  refine loop0 (L := fun m (p : EvacplanSituation × ApiEvac × List Int) i => evacplan_Make_l3 rc L ((L.length : Nat) : Int) m p.1 p.2.1 p.2.2 i) (x := (sit c s ts, { Region := R, Steps := st0, Left := L }, [])) L.length (by omega)
    (fun k p => ∃ q : PQ3, p = (sit c s q.1, { Region := R, Steps := q.2.1, Left := L }, q.2.2) ∧ GS c q.1 ∧ pasS c s (L.drop k) q = pasS c s L (ts, st0, []) ∧ q.2.1.length + 1001 * (q.2.2.length + (L.length - k)) ≤ 33000 ∧ q.2.2.length ≤ k) ⟨(ts, st0, []), rfl, hg, rfl, by simpa using hb, Nat.le_refl _⟩ ?_ ?_
  · rintro m k p hk ⟨q, rfl, hg', e1, hb', hk'⟩ ih
    show Ok (evacplan_Make_l3 rc L _ (m + 1) _ _ _ k) _
    have hy := hL _ (getD_mem hk)
    have hgl := hg'.len
    rw [evacplan_Make_l3, condT (by omega), ixL_ok (by omega) (by omega), Int.toNat_natCast, steps_p hc hv hg' (by omega), Option.bind_some]
    have h1 := stp_len (s := s) hc hg' (L.getD k default)
    rw [drop_get hk, pasS] at e1
    obtain ⟨res', er, hr⟩ := ih (sit c s (rnT c s q.1 (stpS c s q.1 (L.getD k default))), { Region := R, Steps := q.2.1 ++ stpS c s q.1 (L.getD k default), Left := L }, bif (stpS c s q.1 (L.getD k default)).isEmpty then q.2.2 ++ [L.getD k default] else q.2.2) ⟨_, rfl, rn_gs _ hg', e1, by
        cases hst : stpS c s q.1 (L.getD k default) with
        | nil => rw [hst] at h1; simp only [List.isEmpty_nil, cond_true, List.length_append, List.length_singleton, List.length_nil] at h1 ⊢; omega
        | cons a b => rw [hst] at h1; simp only [List.isEmpty_cons, cond_false, List.length_append, List.length_cons] at h1 ⊢; omega, by
        cases hst : (stpS c s q.1 (L.getD k default)).isEmpty with
        | true => simp only [cond_true, List.length_append, List.length_singleton]; omega
        | false => simp only [cond_false]; omega⟩
    refine ⟨res', ?_, hr⟩
    rw [← w64_eq (x := (k : Int) + 1) (by omega) (by omega)] at er
    exact make_l2 (lf := q.2.2) (j := (k : Int)) hc hv h1 (by omega) (by show q.2.1.length ≤ _; omega) (by omega) hg' (by rw [w64_eq (by omega) (by omega)] at er; exact er)
  · rintro m p ⟨q, rfl, hg', e1, hb', hk'⟩
    show Ok (evacplan_Make_l3 rc L _ (m + 1) _ _ _ _) _
    rw [List.drop_length, pasS] at e1
    rw [evacplan_Make_l3, condF (by omega)]
    rw [← e1] at hn
    have e2 : (((q.2.2.length : Nat) : Int) == ((L.length : Nat) : Int)) = (q.2.2.length == L.length) := by
      by_cases h : q.2.2.length = L.length
      · rw [h]; simp
      · have : ((q.2.2.length : Nat) : Int) ≠ ((L.length : Nat) : Int) := by omega
        rw [beq_false_of_ne this, beq_false_of_ne h]
    show Ok (bif (((q.2.2.length : Nat) : Int) == ((L.length : Nat) : Int)) then _ else _) _
    rw [e2]
    exact okEq hn
theorem make_l4 [Fuel] (hc : VC c) (hv : VS c s) {R : Int} : ∀ (n m : Nat) (q : PQ3), q.2.2.length < n → n ≤ m → GS c q.1 → q.2.2.length ≤ 32 → (∀ y ∈ q.2.2, 0 ≤ y ∧ y < ((c.Tenants.length : Nat) : Int)) → q.2.1.length + 1001 * q.2.2.length ≤ 33000 →
    evacplan_Make_l4 m (sit c s q.1) { Region := R, Steps := q.2.1, Left := q.2.2 } = some ({ Region := R, Steps := (itS c s n q).2.1, Left := (itS c s n q).2.2 }, 0)
  | 0, _, _, h, _, _, _, _, _ => absurd h (Nat.not_lt_zero _)
  | n + 1, 0, _, _, h, _, _, _, _ => absurd h (by omega)
  | n + 1, m + 1, q, h1, h2, hg, h3, h4, h5 => by
    rw [evacplan_Make_l4]
    have hp := pas_len (s := s) hc q.2.2 (q := (q.1, q.2.1, [])) hg
    simp only [List.length_nil, Nat.zero_add] at hp
    refine make_l3 hc hv h3 h4 h5 hg ?_
    rw [itS]
    cases hb : ((pasS c s q.2.2 (q.1, q.2.1, [])).2.2.length == q.2.2.length) with
    | true => rfl
    | false =>
      have hne : (pasS c s q.2.2 (q.1, q.2.1, [])).2.2.length ≠ q.2.2.length := by simpa using hb
      simp only [cond_false]
      exact make_l4 hc hv n m (pasS c s q.2.2 (q.1, q.2.1, [])) (by omega) (by omega) (pas_gs _ hg) (by omega) (fun y hy => by
        rcases pas_sub _ hy with h | h
        · exact absurd h List.not_mem_nil
        · exact h4 y h) (by omega)
theorem make_p [Fuel] (hc : VC c) (hv : VS c s) {r : Int} (hr : 0 ≤ r ∧ r < c.Regions) : evacplan_Make c s r = some ({ Region := r, Steps := (mkS c s r).2.1, Left := (mkS c s r).2.2 }, 0) := by
  unfold evacplan_Make mkS
  have e : (decide (r < 0) || decide (c.Regions ≤ r)) = false := by rw [decide_eq_false (by omega), decide_eq_false (by omega)]; rfl
  have hl := cand_len (s := s) hc (r := r)
  rw [e, cond_false, begin_p hc hv, Option.bind_some, cands_p hc hv, Option.bind_some]
  exact make_l4 hc hv 33 fuel (s.Tenants, [], candS c s r) (by show (candS c s r).length < 33; omega) (by rw [fuel_eq]; omega) hv.gs hl (fun y hy => ((cand_mem hc).1 hy).1) (by show 0 + 1001 * (candS c s r).length ≤ _; omega)
theorem make_bad [Fuel] {r : Int} (hr : ¬ (0 ≤ r ∧ r < c.Regions)) : evacplan_Make c s r = some ({ Region := 0, Steps := [], Left := [] }, 1) := by
  unfold evacplan_Make
  have e : (decide (r < 0) || decide (c.Regions ≤ r)) = true := by
    rw [Bool.or_eq_true, decide_eq_true_eq, decide_eq_true_eq]; omega
  rw [e]; rfl
inductive Run [Fuel] (c : ApiConfig) (s : ApiState) (ts0 : List ApiTenantState) : List ApiStep → List Int → List ApiTenantState → Prop
  | nil : Run c s ts0 [] [] ts0
  | snoc {st : List ApiStep} {mv : List Int} {ts : List ApiTenantState} {i : Int} (h : Run c s ts0 st mv ts) (hi : 0 ≤ i ∧ i < ((ts.length : Nat) : Int)) (hn : stpS c s ts i ≠ []) : Run c s ts0 (st ++ stpS c s ts i) (mv ++ [i]) (rnT c s ts (stpS c s ts i))
theorem pas_run [Fuel] {ts0 : List ApiTenantState} : ∀ (l : List Int) {q : PQ3} {mv : List Int}, (∀ y ∈ l, 0 ≤ y ∧ y < ((c.Tenants.length : Nat) : Int)) → GS c q.1 → Run c s ts0 q.2.1 mv q.1 → ∃ mv', Run c s ts0 (pasS c s l q).2.1 mv' (pasS c s l q).1 ∧ (mv' ++ (pasS c s l q).2.2).Perm (mv ++ q.2.2 ++ l)
  | [], q, mv, _, hg, h => ⟨mv, h, by rw [List.append_nil]; exact List.Perm.refl _⟩
  | x :: r, q, mv, hL, hg, h => by
    rw [pasS]
    have hx := hL x List.mem_cons_self
    have hgl := hg.len
    cases hst : stpS c s q.1 x with
    | nil =>
      simp only [List.isEmpty_nil, cond_true, List.append_nil, rnT]
      obtain ⟨mv', h1, h2⟩ := pas_run r (q := (q.1, q.2.1, q.2.2 ++ [x])) (mv := mv) (fun y hy => hL y (List.mem_cons_of_mem _ hy)) hg h
      refine ⟨mv', h1, h2.trans ?_⟩
      simp only [List.append_assoc, List.singleton_append]
      exact List.Perm.refl _
    | cons a b =>
      simp only [List.isEmpty_cons, cond_false]
      have hr := Run.snoc h (i := x) (by omega) (by rw [hst]; simp)
      rw [hst] at hr
      obtain ⟨mv', h1, h2⟩ := pas_run r (q := (rnT c s q.1 (a :: b), q.2.1 ++ (a :: b), q.2.2)) (mv := mv ++ [x]) (fun y hy => hL y (List.mem_cons_of_mem _ hy)) (rn_gs _ hg) hr
      refine ⟨mv', h1, h2.trans ?_⟩
      simp only [List.append_assoc, List.singleton_append]
      refine List.Perm.append_left _ ?_
      exact (List.perm_middle).symm
theorem pas_none [Fuel] (hc : VC c) : ∀ (l : List Int) {q : PQ3}, GS c q.1 → (pasS c s l q).2.2.length = q.2.2.length + l.length → (∀ x ∈ l, stpS c s q.1 x = []) ∧ (pasS c s l q).1 = q.1 ∧ (pasS c s l q).2.1 = q.2.1
  | [], q, _, _ => ⟨fun x hx => absurd hx List.not_mem_nil, rfl, rfl⟩
  | x :: r, q, hg, h => by
    have h1 := (pas_len (s := s) hc r (q := (rnT c s q.1 (stpS c s q.1 x), q.2.1 ++ stpS c s q.1 x, bif (stpS c s q.1 x).isEmpty then q.2.2 ++ [x] else q.2.2)) (rn_gs _ hg)).2
    rw [pasS] at h ⊢
    cases hst : stpS c s q.1 x with
    | cons a b =>
      rw [hst] at h h1
      simp only [List.isEmpty_cons, cond_false, List.length_cons] at h h1
      omega
    | nil =>
      rw [hst] at h
      simp only [List.isEmpty_nil, cond_true, List.append_nil, rnT] at h ⊢
      obtain ⟨i1, i2, i3⟩ := pas_none hc r (q := (q.1, q.2.1, q.2.2 ++ [x])) hg (by rw [h]; show q.2.2.length + (r.length + 1) = (q.2.2 ++ [x]).length + r.length; rw [List.length_append, List.length_singleton]; omega)
      refine ⟨fun y hy => ?_, i2, i3⟩
      rcases List.mem_cons.1 hy with rfl | hy
      · exact hst
      · exact i1 y hy
theorem it_run [Fuel] (hc : VC c) {ts0 : List ApiTenantState} : ∀ (n : Nat) (q : PQ3) (mv : List Int), q.2.2.length < n → GS c q.1 → (∀ y ∈ q.2.2, 0 ≤ y ∧ y < ((c.Tenants.length : Nat) : Int)) → Run c s ts0 q.2.1 mv q.1 →
    ∃ mv', Run c s ts0 (itS c s n q).2.1 mv' (itS c s n q).1 ∧ (mv' ++ (itS c s n q).2.2).Perm (mv ++ q.2.2) ∧ (∀ x ∈ (itS c s n q).2.2, stpS c s (itS c s n q).1 x = []) ∧ GS c (itS c s n q).1
  | 0, _, _, h, _, _, _ => absurd h (Nat.not_lt_zero _)
  | n + 1, q, mv, h1, hg, hL, hr => by
    rw [itS]
    have hp := (pas_len (s := s) hc q.2.2 (q := (q.1, q.2.1, [])) hg).2
    simp only [List.length_nil, Nat.zero_add] at hp
    cases hb : ((pasS c s q.2.2 (q.1, q.2.1, [])).2.2.length == q.2.2.length) with
    | true =>
      have he : (pasS c s q.2.2 (q.1, q.2.1, [])).2.2.length = q.2.2.length := by simpa using hb
      obtain ⟨i1, i2, i3⟩ := pas_none (s := s) hc q.2.2 (q := (q.1, q.2.1, [])) hg (by rw [he]; simp)
      simp only [cond_true]
      rw [i2, i3]
      exact ⟨mv, hr, List.Perm.refl _, i1, hg⟩
    | false =>
      have hne : (pasS c s q.2.2 (q.1, q.2.1, [])).2.2.length ≠ q.2.2.length := by simpa using hb
      simp only [cond_false]
      obtain ⟨mv1, r1, r2⟩ := pas_run (ts0 := ts0) q.2.2 (q := (q.1, q.2.1, [])) (mv := mv) hL hg hr
      obtain ⟨mv2, a1, a2, a3, a4⟩ := it_run hc n (pasS c s q.2.2 (q.1, q.2.1, [])) mv1 (by omega) (pas_gs _ hg) (fun y hy => by
        rcases pas_sub _ hy with h | h
        · exact absurd h List.not_mem_nil
        · exact hL y h) r1
      exact ⟨mv2, a1, a2.trans (by simpa using r2), a3, a4⟩
structure Made [Fuel] (c : ApiConfig) (s : ApiState) (r : Int) (mv : List Int) : Prop where
  run : Run c s s.Tenants (mkS c s r).2.1 mv (mkS c s r).1
  perm : (mv ++ (mkS c s r).2.2).Perm (candS c s r)
  left : ∀ x ∈ (mkS c s r).2.2, stpS c s (mkS c s r).1 x = []
  gs : GS c (mkS c s r).1
theorem made [Fuel] (hc : VC c) (hv : VS c s) (r : Int) : ∃ mv, Made c s r mv := by
  have hl := cand_len (s := s) hc (r := r)
  obtain ⟨mv, a1, a2, a3, a4⟩ := it_run (s := s) hc (ts0 := s.Tenants) 33 (s.Tenants, [], candS c s r) [] (by show (candS c s r).length < 33; omega) hv.gs (fun y hy => ((cand_mem hc).1 hy).1) .nil
  exact ⟨mv, a1, by rw [List.nil_append] at a2; exact a2, a3, a4⟩
end
end Go.CP
namespace Go.CP
open Go
set_option linter.unusedSimpArgs false
set_option linter.unusedVariables false
def NI (s : ApiState) : Prop := ∀ t ∈ s.Tenants, 0 ≤ t.Next → t.Next ≠ t.Standby
section
variable {c : ApiConfig} {s : ApiState} {e : ApiEntry} {ts : List ApiTenantState}
theorem ni_set [Fuel] (h : NI s) {t : ApiTenantState} (ht : 0 ≤ t.Next → t.Next ≠ t.Standby) : NI (setT (bump s e) e.Tenant t) := by
  intro x hx
  rcases List.mem_or_eq_of_mem_set hx with q | q
  · exact h x q
  · rw [q]; exact ht
theorem ni_at [Fuel] (h : NI s) (hv : VS c s) (ht : tOk c e) : 0 ≤ (tAt s e.Tenant).Next → (tAt s e.Tenant).Next ≠ (tAt s e.Tenant).Standby := by
  have := hv.tl
  unfold tOk at ht
  exact h _ (getD_mem (xs := s.Tenants) (i := e.Tenant.toNat) (by omega))
theorem ni_step [Fuel] (h : VC c) (hI : Inv c s) (hN : NI s) {s' : ApiState} (hs : Step c s e s') : NI s' := by
  cases hs with
  | place k t ce o np m1 m2 f1 f2 y1 y2 fit =>
    have htl := hI.vs.tl
    have ht := t
    unfold tOk at ht
    have q := (hI.t e.Tenant.toNat (by omega)).np np
    refine ni_set hN (fun w => ?_)
    have : (tAt s e.Tenant).Next = -1 := by
      have q' : tAt s e.Tenant = t0S := q
      rw [q']; rfl
    have w' : 0 ≤ (tAt s e.Tenant).Next := w
    omega
  | grant k t ce ep w n pl sh cl m1 m2 eq v1 v2 w1 w2 w3 w4 w5 w6 fit =>
    refine ni_set hN ?_
    have h0 := ni_at hN hI.vs t
    unfold afterGrant
    simp only
    cases (e.Cell == (tAt s e.Tenant).Home) with
    | true => exact h0
    | false =>
      cases (e.Cell == (tAt s e.Tenant).Standby) with
      | true => intro w; exact absurd w (by show ¬ (0 : Int) ≤ -1; omega)
      | false => exact h0
  | cut k t pl ep ep1 => exact ni_set hN (ni_at hN hI.vs t)
  | standby0 k t ce pl fit => exact ni_set hN (fun w => absurd w (by rw [ce]; show ¬ (0 : Int) ≤ -1; omega))
  | standby k t ce pl n1 n2 n3 m1 f1 y1 t1 t2 fit => exact ni_set hN (fun _ => n2)
  | ready k t ce pl n1 m1 => exact ni_set hN (fun w => absurd w (by show ¬ (0 : Int) ≤ -1; omega))
  | migrate k t ce pl sh tg n1 n2 n3 m1 f1 y1 t1 t2 fit => exact ni_set hN (ni_at hN hI.vs t)
  | abandon k t pl tg => exact ni_set hN (ni_at hN hI.vs t)
  | shed k t n pl sh w => exact ni_set hN (ni_at hN hI.vs t)
  | back k t n sh m1 fit => exact ni_set hN (ni_at hN hI.vs t)
  | mode k ce n m1 => exact hN
  | want k ce n n1 v1 v2 f => exact hN
  | runs k ce n n1 n2 f w => exact hN
  | prove k n n1 b => exact hN
  | evac k o n n1 => exact hN
  | expand k h1 h2 h3 => exact hN
  | contract k h1 => exact hN
  | note k => exact hN
theorem ni_new [Fuel] : NI (newS c) := by
  intro t ht
  have : t = t0S := List.eq_of_mem_replicate ht
  rw [this]; intro w; exact absurd w (by decide)
theorem run_ni [Fuel] (h : VC c) (l : List ApiEntry) : ∀ s, Inv c s → NI s → okS c s l → NI (runS c s l) := by
  induction l with
  | nil => intro s _ hN _; exact hN
  | cons e l ih => intro s hI hN ho; exact ih _ (inv_step h hI ho.1) (ni_step h hI hN (apply_step h ho.1).2.2.2) ho.2
structure PT (t : ApiTenantState) : Prop where
  ht : 0 ≤ t.Target → t.Home ≠ t.Target
  hs : 0 ≤ t.Standby → t.Home ≠ t.Standby
  st : 0 ≤ t.Standby → t.Target ≠ t.Standby
  sn : 0 ≤ t.Standby → t.Next ≠ t.Standby
def PI (ts : List ApiTenantState) : Prop := ∀ t ∈ ts, PT t
theorem pi_inv [Fuel] (h : VC c) (hI : Inv c s) (hN : NI s) : PI s.Tenants := by
  intro t ht
  obtain ⟨i, hi, rfl⟩ := List.getElem_of_mem ht
  have e : s.Tenants.getD i default = s.Tenants[i] := by simp [List.getD_eq_getElem?_getD, hi]
  have q := hI.t i hi
  rw [e] at q
  refine ⟨q.ht, fun w e2 => ?_, fun w e2 => ?_, fun w e2 => ?_⟩
  · have := q.hs; rw [e2, tog_self w] at this; cases this
  · have := q.ts; rw [e2, tog_self w] at this; cases this
  · exact hN _ ht (by omega) e2
theorem pi_tk [Fuel] (h : PI ts) {x : ApiStep} (hx : x.Tenant.toNat < ts.length) : PI (tkS ts x) := by
  intro t ht
  have h0 := h _ (getD_mem hx)
  rcases List.mem_or_eq_of_mem_set ht with q | q
  · exact h t q
  · rw [q]
    unfold tkT
    cases (x.Kind == 1) with
    | true => exact ⟨fun w => absurd w (by show ¬ (0 : Int) ≤ -1; omega), h0.hs, fun w e2 => by have w' : 0 ≤ (ts.getD x.Tenant.toNat default).Standby := w; have e2' : (-1 : Int) = (ts.getD x.Tenant.toNat default).Standby := e2; omega, h0.sn⟩
    | false => exact ⟨fun w => absurd w (by show ¬ (0 : Int) ≤ -1; omega), fun w => absurd w (by show ¬ (0 : Int) ≤ -1; omega), fun w => absurd w (by show ¬ (0 : Int) ≤ -1; omega), fun w => absurd w (by show ¬ (0 : Int) ≤ -1; omega)⟩
theorem hit_self [Fuel] {k : Int} {n : Int} {j : Nat} (h : k = (j : Int)) : hit k n j = n := by unfold hit; rw [if_pos h]
theorem hit_ne [Fuel] {k : Int} {n : Int} {j : Nat} (h : k ≠ (j : Int)) : hit k n j = 0 := by unfold hit; rw [if_neg h]
theorem tk_get_ne [Fuel] {x : ApiStep} {j : Nat} (h : x.Tenant.toNat ≠ j) : (tkS ts x).getD j default = ts.getD j default := by
  unfold tkS; simp [List.getD_eq_getElem?_getD, List.getElem?_set, h]
theorem tk_get_eq [Fuel] {x : ApiStep} (h : x.Tenant.toNat < ts.length) : (tkS ts x).getD x.Tenant.toNat default = tkT (ts.getD x.Tenant.toNat default) x := getD_set h
theorem tk_len [Fuel] {x : ApiStep} : (tkS ts x).length = ts.length := by simp [tkS]
theorem bk_shed_le [Fuel] (hc : VC c) (hg : GS c ts) {k i : Int} (hp : possB c s ts (shSt k i) = true) {j : Nat} (hj : j < c.Cells.length) : (bkS c s (tkS ts (shSt k i))).getD j 0 ≤ (bkS c s ts).getD j 0 := by
  obtain ⟨h1, h2, h3, h4⟩ := poss_elim hp
  have hi : i.toNat < ts.length := by have h1 : 0 ≤ i ∧ i < ((ts.length : Nat) : Int) := h1; omega
  have hd := tenant_bd hc (k := i.toNat) (by have := hg.len; omega)
  show (bkS c s (ts.set i.toNat _)).getD j 0 ≤ _
  rw [bk_set hi hj]
  rw [act_iff] at h3
  have h3 : (ts.getD i.toNat default).Placed = true ∧ (ts.getD i.toNat default).Shed = false := h3
  unfold dl tkT shSt
  simp only [h3.1, h3.2, if_true, Bool.false_eq_true, if_false, beq_self_eq_true, cond_true]
  have a1 := hit_nn (i := (ts.getD i.toNat default).Home) (n := (c.Tenants.getD i.toNat default).Load) hd.1 j
  have a2 := hit_nn (i := (ts.getD i.toNat default).Target) (n := (c.Tenants.getD i.toNat default).Load) hd.1 j
  omega
theorem bk_shed_at [Fuel] (hc : VC c) (hg : GS c ts) (hP : PI ts) {k i : Int} (hp : possB c s ts (shSt k i) = true) : (bkS c s (tkS ts (shSt k i))).getD k.toNat 0 = (bkS c s ts).getD k.toNat 0 - (tn c i).Load := by
  obtain ⟨h1, h2, h3, h4⟩ := poss_elim hp
  have h1 : 0 ≤ i ∧ i < ((ts.length : Nat) : Int) := h1
  have h2 : 0 ≤ k ∧ k < ((c.Cells.length : Nat) : Int) := h2
  have hi : i.toNat < ts.length := by omega
  have hh : (ts.getD i.toNat default).Home = k := by
    rcases h4 with ⟨_, q⟩ | ⟨q, _⟩
    · exact q
    · exact absurd q (by show ¬ (1 : Int) = 2; omega)
  have hpt := hP _ (getD_mem hi)
  show (bkS c s (ts.set i.toNat _)).getD k.toNat 0 = _
  rw [bk_set hi (by omega)]
  rw [act_iff] at h3
  have h3 : (ts.getD i.toNat default).Placed = true ∧ (ts.getD i.toNat default).Shed = false := h3
  unfold dl tkT shSt
  simp only [h3.1, h3.2, if_true, Bool.false_eq_true, if_false, beq_self_eq_true, cond_true]
  rw [hit_self (k := (ts.getD i.toNat default).Home) (by omega), hit_ne (k := (ts.getD i.toNat default).Target)]
  · unfold tn; omega
  · intro e; exact hpt.ht (by omega) (by omega)
theorem bk_move_at [Fuel] (hc : VC c) (hg : GS c ts) (hP : PI ts) {k i : Int} (hp : possB c s ts (mvSt k i) = true) {j : Nat} (hj : j < c.Cells.length) :
    ((j : Int) ≠ k → (bkS c s (tkS ts (mvSt k i))).getD j 0 ≤ (bkS c s ts).getD j 0) ∧ ((j : Int) = k → (bkS c s (tkS ts (mvSt k i))).getD j 0 = (bkS c s ts).getD j 0 + ((tn c i).Load - (tn c i).Shadow)) := by
  obtain ⟨h1, h2, h3, h4⟩ := poss_elim hp
  have h1 : 0 ≤ i ∧ i < ((ts.length : Nat) : Int) := h1
  have h2 : 0 ≤ k ∧ k < ((c.Cells.length : Nat) : Int) := h2
  have hi : i.toNat < ts.length := by omega
  have hh : (ts.getD i.toNat default).Standby = k := by
    rcases h4 with ⟨q, _⟩ | ⟨_, q, _⟩
    · exact absurd q (by show ¬ (2 : Int) = 1; omega)
    · exact q
  have hd := tenant_bd hc (k := i.toNat) (by have := hg.len; omega)
  have hpt := hP _ (getD_mem hi)
  rw [act_iff] at h3
  have h3 : (ts.getD i.toNat default).Placed = true ∧ (ts.getD i.toNat default).Shed = false := h3
  have key : (bkS c s (tkS ts (mvSt k i))).getD j 0 = (bkS c s ts).getD j 0 + (hit k (tn c i).Load j - ((hit (ts.getD i.toNat default).Home (tn c i).Load j + hit (ts.getD i.toNat default).Target (tn c i).Load j) + (hit (ts.getD i.toNat default).Standby (tn c i).Shadow j + hit (ts.getD i.toNat default).Next (tn c i).Shadow j))) := by
    show (bkS c s (ts.set i.toNat _)).getD j 0 = _
    rw [bk_set hi hj]
    unfold dl tkT mvSt
    have k1 : ((2 : Int) == 1) = false := by decide
    have n1 : ∀ n : Int, hit (-1) n j = 0 := fun n => hit_neg (by omega) j
    simp only [h3.1, h3.2, if_true, Bool.false_eq_true, if_false, k1, cond_false, n1]
    unfold tn; omega
  have b1 : 0 ≤ (tn c i).Load := hd.1
  have b2 : 0 ≤ (tn c i).Shadow := hd.2.2.1
  have a1 := hit_nn (i := (ts.getD i.toNat default).Home) (n := (tn c i).Load) b1 j
  have a2 := hit_nn (i := (ts.getD i.toNat default).Target) (n := (tn c i).Load) b1 j
  have a3 := hit_nn (i := (ts.getD i.toNat default).Standby) (n := (tn c i).Shadow) b2 j
  have a4 := hit_nn (i := (ts.getD i.toNat default).Next) (n := (tn c i).Shadow) b2 j
  refine ⟨fun hjk => ?_, fun hjk => ?_⟩
  · rw [key, hit_ne (k := k) (fun e => hjk e.symm)]; omega
  · have s0 : 0 ≤ (ts.getD i.toNat default).Standby := by omega
    rw [key, hit_self (k := k) hjk.symm, hit_self (k := (ts.getD i.toNat default).Standby) (by omega), hit_ne (k := (ts.getD i.toNat default).Home) (fun e => hpt.hs s0 (by omega)), hit_ne (k := (ts.getD i.toNat default).Target) (fun e => hpt.st s0 (by omega)), hit_ne (k := (ts.getD i.toNat default).Next) (fun e => hpt.sn s0 (by omega))]
    omega
def capOk (c : ApiConfig) (s : ApiState) (ts : List ApiTenantState) : Prop := ∀ j, j < c.Cells.length → (bkS c s ts).getD j 0 ≤ (c.Cells.getD j default).Capacity
def thrP (c : ApiConfig) (s : ApiState) : List ApiTenantState → List ApiStep → Prop
  | _, [] => True
  | ts, x :: r => possB c s ts x = true ∧ thrP c s (tkS ts x) r
theorem thr_rn [Fuel] {x : ApiStep} {r : List ApiStep} (h : possB c s ts x = true) : rnT c s ts (x :: r) = rnT c s (tkS ts x) r := by rw [rnT, h]; rfl
theorem thr_app [Fuel] : ∀ (a b : List ApiStep) (ts : List ApiTenantState), thrP c s ts (a ++ b) ↔ thrP c s ts a ∧ thrP c s (rnT c s ts a) b
  | [], b, ts => by simp [thrP, rnT]
  | x :: r, b, ts => by
    rw [List.cons_append, thrP, thrP]
    constructor
    · rintro ⟨h1, h2⟩
      have := (thr_app r b _).1 h2
      rw [thr_rn h1]
      exact ⟨⟨h1, this.1⟩, this.2⟩
    · rintro ⟨⟨h1, h2⟩, h3⟩
      rw [thr_rn h1] at h3
      exact ⟨h1, (thr_app r b _).2 ⟨h2, h3⟩⟩
theorem rn_pi [Fuel] : ∀ (l : List ApiStep) {ts : List ApiTenantState}, thrP c s ts l → PI ts → PI (rnT c s ts l)
  | [], ts, _, h => h
  | x :: r, ts, ht, h => by
    rw [thr_rn ht.1]
    have := (poss_elim ht.1).1
    exact rn_pi r ht.2 (pi_tk h (by omega))
def sumY (c : ApiConfig) : List Int → Int
  | [] => 0
  | y :: r => (tn c y).Load + sumY c r
theorem shed_all [Fuel] (hc : VC c) {k : Int} (hk : 0 ≤ k ∧ k < ((c.Cells.length : Nat) : Int)) : ∀ (ys : List Int) {ts : List ApiTenantState}, GS c ts → PI ts → ys.Nodup → (∀ y ∈ ys, (0 ≤ y ∧ y < ((ts.length : Nat) : Int)) ∧ actB (ts.getD y.toNat default) = true ∧ (ts.getD y.toNat default).Home = k) →
    thrP c s ts (ys.map (shSt k)) ∧ (bkS c s (rnT c s ts (ys.map (shSt k)))).getD k.toNat 0 = (bkS c s ts).getD k.toNat 0 - sumY c ys ∧ (∀ j, j < c.Cells.length → (bkS c s (rnT c s ts (ys.map (shSt k)))).getD j 0 ≤ (bkS c s ts).getD j 0) ∧ ∀ i : Nat, (i : Int) ∉ ys → (rnT c s ts (ys.map (shSt k))).getD i default = ts.getD i default
  | [], ts, hg, hP, _, _ => ⟨trivial, by simp [sumY, rnT], fun j _ => Int.le_refl _, fun i _ => rfl⟩
  | y :: r, ts, hg, hP, hn, hy => by
    obtain ⟨q1, q2, q3⟩ := hy y List.mem_cons_self
    have hp : possB c s ts (shSt k y) = true := poss_shed q1 hk q2 q3
    rw [List.nodup_cons] at hn
    obtain ⟨i1, i2, i3, i4⟩ := shed_all hc hk r (ts := tkS ts (shSt k y)) (tk_gs hg hp) (pi_tk hP (by show y.toNat < _; omega)) hn.2 (fun z hz => by
      obtain ⟨z1, z2, z3⟩ := hy z (List.mem_cons_of_mem _ hz)
      have hne : (shSt k y).Tenant.toNat ≠ z.toNat := by
        show y.toNat ≠ z.toNat
        intro e
        have : y = z := by omega
        subst this; exact hn.1 hz
      rw [tk_get_ne hne, tk_len]; exact ⟨z1, z2, z3⟩)
    rw [List.map_cons, thr_rn hp]
    refine ⟨⟨hp, i1⟩, ?_, fun j hj => Int.le_trans (i3 j hj) (bk_shed_le hc hg hp hj), fun i hi => ?_⟩
    · rw [i2, bk_shed_at hc hg hP hp, sumY]; omega
    · rw [List.mem_cons] at hi
      have h1 : (i : Int) ≠ y := fun e => hi (.inl e)
      rw [i4 i (fun e => hi (.inr e)), tk_get_ne]
      show y.toNat ≠ i
      omega
theorem pre_spec [Fuel] : ∀ (l : List Int) (m : Int), ∃ b, l = (preF c l m).1 ++ b ∧ (preF c l m).2 = m - sumY c (preF c l m).1 ∧ ((preF c l m).2 ≤ 0 ∨ b = []) ∧ (∀ a d, (preF c l m).1 = a ++ d → d ≠ [] → 0 < m - sumY c a)
  | [], m => ⟨[], rfl, by simp [preF, sumY], .inr rfl, fun a d h hd => by
      simp only [preF] at h
      have := (List.nil_eq_append_iff.1 h).2
      exact absurd this hd⟩
  | y :: r, m => by
    rw [preF]
    by_cases hm : m ≤ 0
    · rw [decide_eq_true hm]
      refine ⟨y :: r, rfl, by simp [sumY], .inl hm, fun a d h hd => ?_⟩
      simp only [cond_true] at h
      exact absurd (List.nil_eq_append_iff.1 h).2 hd
    · rw [decide_eq_false hm]
      obtain ⟨b, i1, i2, i3, i4⟩ := pre_spec r (m - (tn c y).Load)
      simp only [cond_false]
      refine ⟨b, by rw [List.cons_append, ← i1], by rw [i2, sumY]; omega, i3, fun a d h hd => ?_⟩
      cases a with
      | nil => simp [sumY]; omega
      | cons a0 a =>
        rw [List.cons_append, List.cons.injEq] at h
        have := i4 a d h.2 hd
        rw [← h.1, sumY]; omega
structure Grp [Fuel] (c : ApiConfig) (s : ApiState) (ts : List ApiTenantState) (i k : Int) (ys : List Int) : Prop where
  sb : (ts.getD i.toNat default).Standby = k
  act : actB (ts.getD i.toNat default) = true
  us : usB c s k = true
  nd : ys.Nodup
  y : ∀ y ∈ ys, (0 ≤ y ∧ y < ((ts.length : Nat) : Int)) ∧ actB (ts.getD y.toNat default) = true ∧ (ts.getD y.toNat default).Home = k ∧ (tn c y).Priority < (tn c i).Priority
  st : stpS c s ts i = ys.map (shSt k) ++ [mvSt k i]
  enough : missS c s ts i ≤ sumY c ys
  last : ∀ a d, ys = a ++ d → d ≠ [] → sumY c a < missS c s ts i
theorem low_all [Fuel] (hc : VC c) (hg : GS c ts) {k pr y : Int} (hy : y ∈ lowS c ts k pr) : (0 ≤ y ∧ y < ((ts.length : Nat) : Int)) ∧ actB (ts.getD y.toNat default) = true ∧ (ts.getD y.toNat default).Home = k ∧ (tn c y).Priority < pr := by
  obtain ⟨h1, h2⟩ := (low_mem hc hg).1 hy
  unfold lowB at h2
  simp only [Bool.and_eq_true, beq_iff_eq, decide_eq_true_eq] at h2
  exact ⟨h1, h2.1.1, h2.1.2, h2.2⟩
theorem grp [Fuel] (hc : VC c) (hg : GS c ts) {i : Int} (hn : stpS c s ts i ≠ []) : ∃ ys, Grp c s ts i (ts.getD i.toNat default).Standby ys := by
  have hn' := hn
  unfold stpS at hn
  cases ha : actB (ts.getD i.toNat default) with
  | false => rw [ha] at hn; exact absurd rfl hn
  | true =>
    cases hu : usB c s (ts.getD i.toNat default).Standby with
    | false => rw [ha, hu] at hn; exact absurd rfl hn
    | true =>
      rw [ha, hu] at hn
      simp only [Bool.not_true, Bool.or_self, cond_false] at hn
      by_cases h0 : 0 < (preF c (lowS c ts (ts.getD i.toNat default).Standby (tn c i).Priority) (missS c s ts i)).2
      · rw [decide_eq_true h0] at hn; exact absurd rfl hn
      · have est : stpS c s ts i = (preF c (lowS c ts (ts.getD i.toNat default).Standby (tn c i).Priority) (missS c s ts i)).1.map (shSt (ts.getD i.toNat default).Standby) ++ [mvSt (ts.getD i.toNat default).Standby i] := by
          unfold stpS
          rw [ha, hu, decide_eq_false h0]; rfl
        obtain ⟨b, p1, p2, p3, p4⟩ := pre_spec (c := c) (lowS c ts (ts.getD i.toNat default).Standby (tn c i).Priority) (missS c s ts i)
        have hnd := low_nodup hc hg (ts.getD i.toNat default).Standby (tn c i).Priority
        rw [p1] at hnd
        refine ⟨_, rfl, ha, hu, (List.nodup_append.1 hnd).1, fun y hy => ?_, est, by omega, fun a d h hd => by have := p4 a d h hd; omega⟩
        exact low_all hc hg (by rw [p1]; exact List.mem_append_left _ hy)
theorem shed_move [Fuel] (hc : VC c) (hg : GS c ts) (hP : PI ts) {i k : Int} (hi : 0 ≤ i ∧ i < ((ts.length : Nat) : Int)) (hsb : (ts.getD i.toNat default).Standby = k) (ha : actB (ts.getD i.toNat default) = true) (hu : usB c s k = true) {ys : List Int} (hn : ys.Nodup)
    (hy : ∀ y ∈ ys, (0 ≤ y ∧ y < ((ts.length : Nat) : Int)) ∧ actB (ts.getD y.toNat default) = true ∧ (ts.getD y.toNat default).Home = k ∧ (tn c y).Priority < (tn c i).Priority) :
    thrP c s ts (ys.map (shSt k) ++ [mvSt k i]) ∧ (bkS c s (rnT c s ts (ys.map (shSt k) ++ [mvSt k i]))).getD k.toNat 0 = (c.Cells.getD k.toNat default).Capacity + (missS c s ts i - sumY c ys) ∧ ∀ j, j < c.Cells.length → (j : Int) ≠ k → (bkS c s (rnT c s ts (ys.map (shSt k) ++ [mvSt k i]))).getD j 0 ≤ (bkS c s ts).getD j 0 := by
  have hk := us_rng hu
  obtain ⟨s1, s2, s3, s4⟩ := shed_all (s := s) hc hk ys hg hP hn (fun y q => by obtain ⟨a, b, d, _⟩ := hy y q; exact ⟨a, b, d⟩)
  have hiy : ((i.toNat : Nat) : Int) ∉ ys := fun q => by have := (hy _ q).2.2.2; rw [show ((i.toNat : Nat) : Int) = i by omega] at this; omega
  have hti := s4 i.toNat hiy
  have hlen := rn_len (c := c) (s := s) (ys.map (shSt k)) ts
  have hp : possB c s (rnT c s ts (ys.map (shSt k))) (mvSt k i) = true := poss_move (by rw [hlen]; exact hi) hu (by rw [hti]; exact ha) (by rw [hti]; exact hsb)
  have hg' := rn_gs (s := s) (ys.map (shSt k)) hg
  have hP' := rn_pi (ys.map (shSt k)) s1 hP
  have er : rnT c s ts (ys.map (shSt k) ++ [mvSt k i]) = tkS (rnT c s ts (ys.map (shSt k))) (mvSt k i) := by
    rw [rn_app, thr_rn hp]; rfl
  refine ⟨(thr_app _ _ _).2 ⟨s1, hp, trivial⟩, ?_, fun j hj hjk => ?_⟩
  · rw [er, (bk_move_at hc hg' hP' hp (j := k.toNat) (by omega)).2 (by omega), s2]
    unfold missS
    rw [hsb]; omega
  · rw [er]
    exact Int.le_trans ((bk_move_at hc hg' hP' hp hj).1 hjk) (s3 j hj)
end
end Go.CP
namespace Go.CP
open Go
set_option linter.unusedSimpArgs false
set_option linter.unusedVariables false
section
variable {c : ApiConfig} {s : ApiState} {e : ApiEntry}
theorem step_tick [Fuel] {s' : ApiState} (h : Step c s e s') : s'.Tick = e.Tick ∧ s'.Count = s.Count + 1 := by
  cases h <;> exact ⟨rfl, rfl⟩
theorem apply_tick [Fuel] (h : VC c) (hz : (applyS c s e).2 = 0) : (applyS c s e).1.Tick = e.Tick ∧ (applyS c s e).1.Count = s.Count + 1 := step_tick (apply_step h hz).2.2.2
structure RL [Fuel] (c : ApiConfig) (s : ApiState) (out : List ApiEntry) (n : Nat) : Prop where
  ok : okS c (newS c) out
  run : runS c (newS c) out = s
  len : out.length ≤ n
  tk : s.Tick ≤ 20000 * (out.length : Int)
  ct : s.Count = (out.length : Int)
theorem RL.up [Fuel] {out : List ApiEntry} {n n' : Nat} (h : RL c s out n) (hn : n ≤ n') : RL c s out n' := ⟨h.ok, h.run, Nat.le_trans h.len hn, h.tk, h.ct⟩
theorem RL.vs [Fuel] (hc : VC c) {out : List ApiEntry} {n : Nat} (h : RL c s out n) : VS c s := by
  rw [← h.run]; exact run_vs hc _ _ (new_vs hc) h.ok
theorem RL.inv [Fuel] (hc : VC c) {out : List ApiEntry} {n : Nat} (h : RL c s out n) : Inv c s := by
  rw [← h.run]; exact run_inv hc _ _ (inv_new hc) h.ok
theorem RL.snoc [Fuel] (hc : VC c) {out : List ApiEntry} {n : Nat} (h : RL c s out n) (hz : (applyS c s e).2 = 0) (ht : e.Tick ≤ s.Tick + 20000) : RL c (applyS c s e).1 (out ++ [e]) (n + 1) := by
  obtain ⟨t1, t2⟩ := apply_tick hc hz
  have h1 := h.tk
  have h2 := h.ct
  refine ⟨ok_snoc out e _ h.ok (by rw [h.run]; exact hz), by rw [run_snoc, h.run], by have := h.len; simp; omega, ?_, ?_⟩
  · rw [t1]; simp only [List.length_append, List.length_singleton]; push_cast; omega
  · rw [t2, h2]; simp
theorem RL.new [Fuel] (h : VC c) : RL c (newS c) [] 0 := ⟨trivial, rfl, Nat.le_refl _, by show (0 : Int) ≤ 20000 * 0; omega, rfl⟩
theorem log2_l [Fuel] (h : VC c) {n : Nat} (hn : n ≤ 1000) : ∀ (m : Nat) (T : MakeTape) (s : ApiState) (out : List ApiEntry), TB T 300 → RL c s out n → (400 - T.At).toNat < m →
    Ok (make_Log_l2 c (n : Int) m T s out) (fun r => ∃ s', RL c s' r n)
  | 0, _, _, _, _, _, hm => absurd hm (Nat.not_lt_zero _)
  | m + 1, T, s, out, hT, hr, hm => by
    have hlo := hT.lo
    have hhi := hT.hi
    have hln := hT.ln
    have hl := hr.len
    have hv := hr.vs h
    have hI := hr.inv h
    rw [make_Log_l2]
    unfold make_Tape_More
    simp only [bif_some, Option.bind_some]
    refine Ok.cond (fun hc => ?_) (fun _ => Ok.some ⟨s, hr⟩)
    have hlt : ((out.length : Nat) : Int) < (n : Int) ∧ T.At < ((T.L.length : Nat) : Int) := by
      cases hd : decide (((out.length : Nat) : Int) < (n : Int)) with
      | false => rw [hd] at hc; cases hc
      | true =>
        rw [hd] at hc
        simp only [Bool.true_and, cond_true] at hc
        exact ⟨of_decide_eq_true hd, of_decide_eq_true hc⟩
    rw [decide_eq_true hlt.1]
    simp only [cond_true]
    have hT' : TB T 200 := ⟨hT.el, hT.ln, hT.lo, by omega⟩
    unfold make_Log_k1
    have hle := h.lease
    refine Ok.bind (entry_ok h hv hT' (by omega) (B := s.Tick + 10004) (by omega) (fun x hx => ?_)) (fun r1 q1 => ?_)
    · obtain ⟨i, hi, rfl⟩ := List.getElem_of_mem hx
      have := (hI.t i hi).wl
      have e : s.Tenants[i] = s.Tenants.getD i default := by simp [List.getD_eq_getElem?_getD, hi]
      rw [e]; omega
    refine Ok.bindE (apply_eq h hv) ?_
    have hA : T.At + 1 ≤ r1.2.At := q1.2.2.1 (by omega)
    have hT2 : TB r1.2 300 := q1.1.up (by omega)
    have hB : r1.2.At ≤ 300 := hT2.hi
    refine Ok.cond (fun h0 => Ok.chk (dT (by show _ ≤ 140737488355328; simp; omega)) ?_) (fun _ => ?_)
    · have h0 : (applyS c s r1.1).2 = 0 := by simpa using h0
      have hs := hr.snoc h h0 (by have := q1.2.2.2; omega)
      refine log2_l h hn m _ _ _ hT2 ⟨hs.ok, hs.run, by simp; omega, hs.tk, hs.ct⟩ (by omega)
    · exact log2_l h hn m _ _ _ hT2 hr (by omega)
theorem log2_ok [Fuel] (h : VC c) {l : List Int} (hl : Lst l) {n : Nat} (hn : n ≤ 1000) : Ok (make_Log l c (n : Int)) (fun r => ∃ s', RL c s' r n) := by
  unfold make_Log make_New
  have hT : TB { L := l, At := 0 } 300 := ⟨hl.1, hl.2, Int.le_refl 0, by show (0 : Int) ≤ 300; omega⟩
  refine Ok.bindE rfl (Ok.bindE (new_eq h) ?_)
  exact log2_l h hn fuel _ (newS c) [] hT ((RL.new h).up (by omega)) (by rw [fuel_eq]; simp)
end
end Go.CP
namespace Go.CP
open Go
set_option linter.unusedSimpArgs false
set_option linter.unusedVariables false
def RS [Fuel] (c : ApiConfig) (s : ApiState) : Prop := ∃ out, RL c s out 100
section
variable {c : ApiConfig} {s : ApiState}
theorem RS.inv [Fuel] (h : VC c) (hr : RS c s) : Inv c s := by obtain ⟨o, q⟩ := hr; exact q.inv h
theorem RS.tick [Fuel] (hr : RS c s) : s.Tick ≤ 2000000 := by obtain ⟨o, q⟩ := hr; have := q.tk; have := q.len; omega
theorem RS.cnt [Fuel] (hr : RS c s) : s.Count ≤ 100 := by obtain ⟨o, q⟩ := hr; have := q.ct; have := q.len; omega
end
end Go.CP
namespace Go.CP
open Go
set_option linter.unusedSimpArgs false
set_option linter.unusedVariables false
structure MB (t : MillTape) : Prop where
  el : ∀ x ∈ t.L, I64 x
  ln : t.L.length ≤ 1000
  lo : 0 ≤ t.At
  hi : t.At ≤ 1000
theorem mmod_ok [Fuel] {v n : Int} (hv : I64 v) (h1 : 1 ≤ n) (h2 : n ≤ 4611686018427387904) : Ok (mill_Mod v n) (fun r => 0 ≤ r ∧ r < n) := by
  unfold mill_Mod mill_Mod_k1
  refine Ok.chk (dT (by omega)) ?_
  have a1 := Int.tmod_lt_of_pos v (show 0 < n by omega)
  have a2 : -n < v.tmod n := by
    have := Int.tmod_lt_of_pos (-v) (show 0 < n by omega)
    rw [Int.neg_tmod] at this
    omega
  refine Ok.cond (fun q => ?_) (fun q => ?_)
  · have q := of_decide_eq_true q
    rw [w64_eq (by omega) (by omega)]
    exact Ok.some (by omega)
  · have q := of_decide_eq_false q
    exact Ok.some (by omega)
theorem mnext_ok [Fuel] {t : MillTape} {n : Int} (h : MB t) (h1 : 1 ≤ n) (h2 : n ≤ 4611686018427387904) : Ok (mill_Tape_Next t n) (fun r => 0 ≤ r.1 ∧ r.1 < n ∧ MB r.2 ∧ r.2.L = t.L ∧ t.At ≤ r.2.At ∧ (t.At < ((t.L.length : Nat) : Int) → t.At + 1 ≤ r.2.At)) := by
  have hlo := h.lo
  have hhi := h.hi
  have hln := h.ln
  unfold mill_Tape_Next
  refine Ok.cond (fun q => ?_) (fun q => ?_)
  · have q := of_decide_eq_true q
    exact Ok.some ⟨by show (0 : Int) ≤ 0; omega, by show (0 : Int) < n; omega, h, rfl, Int.le_refl _, fun w => by omega⟩
  · have q := of_decide_eq_false q
    rw [w64_eq (x := t.At + 1) (by omega) (by omega), w64_eq (by omega) (by omega)]
    have e : t.At + 1 - 1 = t.At := by omega
    rw [e, ixL_ok hlo (by omega)]
    refine Ok.bind (mmod_ok (h.el _ (getD_mem (by omega))) h1 h2) (fun r hr => Ok.some ⟨hr.1, hr.2, ⟨h.el, h.ln, by show 0 ≤ t.At + 1; omega, by show t.At + 1 ≤ 1000; omega⟩, rfl, by show t.At ≤ t.At + 1; omega, fun _ => by show t.At + 1 ≤ t.At + 1; omega⟩)
theorem mrange_ok [Fuel] {t : MillTape} {lo hi : Int} (h : MB t) (h1 : lo ≤ hi) (h2 : -1000000000 ≤ lo) (h3 : hi ≤ 1000000000) : Ok (mill_Tape_Range t lo hi) (fun r => lo ≤ r.1 ∧ r.1 ≤ hi ∧ MB r.2 ∧ r.2.L = t.L ∧ t.At ≤ r.2.At) := by
  unfold mill_Tape_Range
  rw [w64_eq (x := hi - lo) (by omega) (by omega), w64_eq (x := hi - lo + 1) (by omega) (by omega)]
  refine Ok.bind (mnext_ok h (by omega) (by omega)) (fun r hr => Ok.some ?_)
  rw [w64_eq (by omega) (by omega)]
  exact ⟨by show lo ≤ lo + r.1; omega, by show lo + r.1 ≤ hi; omega, hr.2.2.1, hr.2.2.2.1, hr.2.2.2.2.1⟩
structure PC (c : ApiConfig) (i : Nat) : Prop where
  reg : 2 ≤ c.Regions ∧ c.Regions ≤ 3
  ir : (i : Int) ≤ c.Regions
  zl : c.Zones.length = i
  z : ∀ k, k < i → (c.Zones.getD k default).Region = k
  cl : i ≤ c.Cells.length ∧ c.Cells.length ≤ 2 * i
  cel : ∀ x ∈ c.Cells, 0 ≤ x.Zone ∧ x.Zone < (i : Int) ∧ 1 ≤ x.Capacity ∧ x.Capacity ≤ 4194304
  c0 : 0 < i → (c.Cells.getD 0 default).Zone = 0
  vl : c.Versions.length = 3
  v : ∀ x ∈ c.Versions, 0 ≤ x.Low ∧ x.Low ≤ x.High ∧ x.High ≤ 30
  v0 : (c.Versions.getD 0 default).Low = 0
  ob : c.Observers = [0]
  blast : 1 ≤ c.Blast ∧ c.Blast ≤ 16
  lease : 2 ≤ c.Lease ∧ c.Lease ≤ 8
  bake : 0 ≤ c.Bake ∧ c.Bake ≤ 10000
structure MC (c : ApiConfig) : Prop where
  vc : VC c
  r0 : regionOf c 0 = 0
  tl : 2 ≤ c.Tenants.length ∧ c.Tenants.length ≤ 8
  cl : c.Cells.length ≤ 6
  reg : 2 ≤ c.Regions
  vl : c.Versions.length = 3
  lease : 2 ≤ c.Lease ∧ c.Lease ≤ 8
theorem pow_shl [Fuel] {r : Int} (h : 2 ≤ r ∧ r ≤ 3) : w64 (shlK .i64 1 (IntKind.u64.wrap r) - 1) = 2 ^ r.toNat - 1 := by
  have : r = 2 ∨ r = 3 := by omega
  rcases this with rfl | rfl <;> decide
theorem mill_l2 [Fuel] {c0 : ApiConfig} (hp : PC c0 c0.Regions.toNat) : ∀ (m : Nat) (T : MillTape) (ts : List ApiTenant) (rs : List Int) (i : Int), MB T → 0 ≤ i → (ts.length : Int) + i ≤ 8 → 2 ≤ (ts.length : Int) + i → (∀ x ∈ ts, VT c0.Regions x) → i.toNat < m →
    Ok (mill_config_l2 m T { c0 with Tenants := ts, Replicas := rs } i) (fun r => MC r.1 ∧ MB r.2)
  | 0, _, _, _, _, _, _, _, _, _, hm => absurd hm (Nat.not_lt_zero _)
  | m + 1, T, ts, rs, i, hT, hi, h8, h2, ht, hm => by
    have hreg := hp.reg
    rw [mill_config_l2]
    refine Ok.cond (fun q => ?_) (fun q => ?_)
    · have q := of_decide_eq_true q
      refine Ok.bind (mrange_ok hT (by omega) (by omega) (by omega)) (fun r9 q9 => ?_)
      rw [w64_eq (by omega) (by omega)]
      refine Ok.bind (mnext_ok q9.2.2.1 (by omega) (by omega)) (fun r10 q10 => ?_)
      refine Ok.bind (mnext_ok q10.2.2.1 (by omega) (by omega)) (fun r11 q11 => ?_)
      refine Ok.bind (mrange_ok q11.2.2.1 (by omega) (by omega) (by omega)) (fun r12 q12 => ?_)
      have hu : (0 : Int) ≤ IntKind.u64.wrap c0.Regions := by rw [u64_eq (by omega) (by omega)]; omega
      refine Ok.chk (dT hu) (Ok.chk (dT (by simp only [List.length_singleton]; show _ ≤ 140737488355328; omega)) ?_)
      rw [w64_eq (x := i - 1) (by omega) (by omega)]
      refine mill_l2 hp m _ _ _ _ q12.2.2.1 (by omega) (by simp; omega) (by simp; omega) (mem_snoc ht ?_) (by omega)
      have hps := pow_shl hreg
      show VT c0.Regions _
      refine ⟨by show 1 ≤ r9.1 ∧ r9.1 ≤ 65536; omega, by show 0 ≤ r10.1 ∧ r10.1 ≤ r9.1; omega, by show 0 ≤ r11.1 ∧ r11.1 ≤ 9; omega, by show -1 ≤ r12.1 ∧ r12.1 ≤ 1000; omega, ?_, by show (0 : Int) ≤ 0 ∧ (0 : Int) ≤ 32; omega⟩
      show 1 ≤ w64 (shlK .i64 1 (IntKind.u64.wrap c0.Regions) - 1) ∧ w64 (shlK .i64 1 (IntKind.u64.wrap c0.Regions) - 1) < 2 ^ c0.Regions.toNat
      rw [hps]
      have : c0.Regions = 2 ∨ c0.Regions = 3 := by omega
      rcases this with e | e <;> rw [e] <;> decide
    · have q := of_decide_eq_false q
      refine Ok.bind (mnext_ok (n := c0.Regions) hT (by omega) (by omega)) (fun r13 q13 => Ok.some ⟨?_, q13.2.2.1⟩)
      have hzl := hp.zl
      have hcl := hp.cl
      have hrn : ((c0.Regions.toNat : Nat) : Int) = c0.Regions := by omega
      have hle := hp.lease
      rw [show w64 (({ c0 with Tenants := ts, Replicas := rs } : ApiConfig).Regions - 1) = c0.Regions - 1 from w64_eq (x := c0.Regions - 1) (by omega) (by omega)]
      have hvc : VC { c0 with Tenants := ts, Replicas := [r13.1, c0.Regions - 1, c0.Regions - 1] } := by
        refine ⟨by show 1 ≤ c0.Regions ∧ c0.Regions ≤ 3; omega, by show 1 ≤ c0.Zones.length ∧ c0.Zones.length ≤ 8; omega, fun x hx => ?_, by show 1 ≤ c0.Cells.length ∧ c0.Cells.length ≤ 16; omega, fun x hx => ?_, by show ts.length ≤ 32; omega, ht, by show 1 ≤ c0.Versions.length ∧ c0.Versions.length ≤ 30; have := hp.vl; omega, hp.v, hp.v0, by show 1 ≤ 3 ∧ 3 ≤ 5; omega, fun x hx => ?_, by show 1 ≤ c0.Observers.length ∧ c0.Observers.length ≤ 9; rw [hp.ob]; simp, fun x hx => ?_, hp.blast, by show 1 ≤ c0.Lease ∧ c0.Lease ≤ 1000; omega, hp.bake⟩
        · obtain ⟨k, hk, rfl⟩ := List.getElem_of_mem hx
          have hk : k < c0.Zones.length := hk
          have := hp.z k (by omega)
          have e : c0.Zones[k] = c0.Zones.getD k default := by simp [List.getD_eq_getElem?_getD, hk]
          show 0 ≤ c0.Zones[k].Region ∧ c0.Zones[k].Region < c0.Regions
          rw [e, this]; omega
        · have := hp.cel x hx
          show 0 ≤ x.Zone ∧ x.Zone < ((c0.Zones.length : Nat) : Int) ∧ 1 ≤ x.Capacity ∧ x.Capacity ≤ 4194304
          omega
        · show 0 ≤ x ∧ x < ((c0.Zones.length : Nat) : Int)
          have hx : x ∈ [r13.1, c0.Regions - 1, c0.Regions - 1] := hx
          simp only [List.mem_cons, List.not_mem_nil, or_false] at hx
          omega
        · show 0 ≤ x ∧ x < ((c0.Zones.length : Nat) : Int)
          have hx : x ∈ c0.Observers := hx
          rw [hp.ob] at hx
          simp only [List.mem_cons, List.not_mem_nil, or_false] at hx
          omega
      refine ⟨hvc, ?_, by show 2 ≤ ts.length ∧ ts.length ≤ 8; omega, by show c0.Cells.length ≤ 6; omega, by show 2 ≤ c0.Regions; omega, hp.vl, hle⟩
      unfold regionOf
      rw [if_pos (by show (0 : Int) ≤ 0 ∧ (0 : Int) < ((c0.Cells.length : Nat) : Int); omega)]
      show (c0.Zones.getD (c0.Cells.getD 0 default).Zone.toNat default).Region = 0
      rw [hp.c0 (by omega)]
      exact hp.z 0 (by omega)
theorem mill_l1 [Fuel] {rc : MillTape → ApiConfig → Int → Option (ApiConfig × MillTape)} {i : Nat} {Q : ApiConfig × MillTape → Prop} (hi : i ≤ 3) (c0 : ApiConfig) (hreg : 2 ≤ c0.Regions ∧ c0.Regions ≤ 3)
    (hrc : ∀ T cs, MB T → i + 1 ≤ cs.length → cs.length ≤ 2 * (i + 1) → (∀ x ∈ cs, 0 ≤ x.Zone ∧ x.Zone < ((i + 1 : Nat) : Int) ∧ 1 ≤ x.Capacity ∧ x.Capacity ≤ 4194304) → (cs.getD 0 default).Zone = 0 → Ok (rc T { c0 with Cells := cs, Tenants := [], Replicas := [] } ((i : Int) + 1)) Q) :
    ∀ (m : Nat) (T : MillTape) (cs : List ApiCell) (ts : List ApiTenant) (rs : List Int) (k : Int), MB T → 0 ≤ k → ((i + 1 : Nat) : Int) ≤ (cs.length : Int) + k → (cs.length : Int) + k ≤ 2 * (i + 1) → (∀ x ∈ cs, 0 ≤ x.Zone ∧ x.Zone < ((i + 1 : Nat) : Int) ∧ 1 ≤ x.Capacity ∧ x.Capacity ≤ 4194304) → (cs ≠ [] → (cs.getD 0 default).Zone = 0) → (cs = [] → i = 0) → k.toNat < m →
      Ok (mill_config_l1 rc (i : Int) m T { c0 with Cells := cs, Tenants := ts, Replicas := rs } k) Q
  | 0, _, _, _, _, _, _, _, _, _, _, _, _, hm => absurd hm (Nat.not_lt_zero _)
  | m + 1, T, cs, ts, rs, k, hT, hk, h1, h2, hc, h0, h00, hm => by
    rw [mill_config_l1]
    refine Ok.cond (fun q => ?_) (fun q => ?_)
    · have q := of_decide_eq_true q
      refine Ok.bind (mrange_ok hT (by omega) (by omega) (by omega)) (fun r5 q5 => ?_)
      refine Ok.chk (dT (by simp only [List.length_singleton]; show _ ≤ 140737488355328; omega)) ?_
      rw [w64_eq (by omega) (by omega)]
      refine mill_l1 hi c0 hreg hrc m _ _ _ _ _ q5.2.2.1 (by omega) (by simp; omega) (by simp; omega) (mem_snoc hc ⟨by show (0 : Int) ≤ (i : Int); omega, by show (i : Int) < _; omega, by show 1 ≤ r5.1; omega, by show r5.1 ≤ _; omega⟩) (fun _ => ?_) (fun w => by simp at w) (by omega)
      by_cases he : cs = []
      · subst he
        have := h00 rfl
        subst this
        rfl
      · have hpos := List.length_pos_iff.2 he
        have e : (cs ++ [{ Zone := (i : Int), Capacity := r5.1 : ApiCell }]).getD 0 default = cs.getD 0 default := by rw [List.getD_eq_getElem?_getD, List.getD_eq_getElem?_getD, List.getElem?_append_left hpos]
        rw [e]; exact h0 he
    · have q := of_decide_eq_false q
      rw [w64_eq (by omega) (by omega)]
      have hne : cs ≠ [] := by
        intro w; subst w; simp at h1; omega
      exact hrc T cs hT (by omega) (by omega) hc (h0 hne)
theorem mill_l3 [Fuel] : ∀ (m i : Nat) (T : MillTape) (c : ApiConfig), MB T → PC c i → 4 - i < m → Ok (mill_config_l3 m T c (i : Int)) (fun r => MC r.1 ∧ MB r.2)
  | 0, _, _, _, _, _, hm => absurd hm (Nat.not_lt_zero _)
  | m + 1, i, T, c, hT, hp, hm => by
    have hreg := hp.reg
    have hir := hp.ir
    have hzl := hp.zl
    have hcl := hp.cl
    rw [mill_config_l3]
    refine Ok.cond (fun q => ?_) (fun q => ?_)
    · have q := of_decide_eq_true q
      refine Ok.chk (dT (by simp only [List.length_singleton]; show _ ≤ 140737488355328; omega)) ?_
      refine Ok.bind (mrange_ok hT (by omega) (by omega) (by omega)) (fun r16 q16 => ?_)
      have key := mill_l1 (rc := mill_config_l3 m) (i := i) (Q := fun r => MC r.1 ∧ MB r.2) (by omega) { c with Zones := c.Zones ++ [{ Region := (i : Int) : ApiZone }] } hreg (fun T' cs hT' g1 g2 g3 g4 => by
        have nx := mill_l3 m (i + 1) T' { c with Zones := c.Zones ++ [{ Region := (i : Int) : ApiZone }], Cells := cs, Tenants := [], Replicas := [] } hT' ⟨hreg, by show ((i + 1 : Nat) : Int) ≤ c.Regions; omega, by show (c.Zones ++ [_]).length = i + 1; simp; omega, fun k hk => ?_, ⟨g1, g2⟩, g3, fun _ => g4, hp.vl, hp.v, hp.v0, hp.ob, hp.blast, hp.lease, hp.bake⟩ (by omega)
        · simpa using nx
        · show ((c.Zones ++ [{ Region := (i : Int) : ApiZone }]).getD k default).Region = k
          by_cases e : k < i
          · have : (c.Zones ++ [{ Region := (i : Int) : ApiZone }]).getD k default = c.Zones.getD k default := by rw [List.getD_eq_getElem?_getD, List.getD_eq_getElem?_getD, List.getElem?_append_left (show k < c.Zones.length by omega)]
            rw [this]; exact hp.z k e
          · have hk' : k = i := by omega
            subst hk'
            have : (c.Zones ++ [{ Region := (k : Int) : ApiZone }]).getD k default = { Region := (k : Int) } := by
              rw [List.getD_eq_getElem?_getD, List.getElem?_append_right (by omega)]; simp [hzl]
            rw [this])
      refine key fuel r16.2 c.Cells [] [] r16.1 q16.2.2.1 (by omega) (by omega) (by omega) (fun x hx => ?_) (fun hne => ?_) (fun he => ?_) (by rw [fuel_eq]; omega)
      · have := hp.cel x hx; omega
      · exact hp.c0 (by
          rcases Nat.eq_zero_or_pos i with z | z
          · exfalso; apply hne; apply List.eq_nil_of_length_eq_zero; omega
          · exact z)
      · rw [he] at hcl; simp at hcl; omega
    · have q := of_decide_eq_false q
      refine Ok.bind (mrange_ok hT (by omega) (by omega) (by omega)) (fun r17 q17 => ?_)
      have hi : c.Regions.toNat = i := by omega
      exact mill_l2 (c0 := c) (by rw [hi]; exact hp) fuel _ [] [] _ q17.2.2.1 (by omega) (by simp; omega) (by simp; omega) (fun x hx => by cases hx) (by rw [fuel_eq]; omega)
theorem mconfig_ok [Fuel] {T : MillTape} (hT : MB T) : Ok (mill_config T) (fun r => MC r.1 ∧ MB r.2) := by
  unfold mill_config
  refine Ok.bind (mrange_ok hT (by omega) (by omega) (by omega)) (fun a1 b1 => ?_)
  refine Ok.bind (mrange_ok b1.2.2.1 (by omega) (by omega) (by omega)) (fun a2 b2 => ?_)
  refine Ok.bind (mrange_ok b2.2.2.1 (by omega) (by omega) (by omega)) (fun a3 b3 => ?_)
  refine Ok.bind (mnext_ok b3.2.2.1 (by omega) (by omega)) (fun a4 b4 => ?_)
  refine Ok.bind (mnext_ok b4.2.2.1 (by omega) (by omega)) (fun a5 b5 => ?_)
  refine Ok.bind (mnext_ok b5.2.2.1 (by omega) (by omega)) (fun a6 b6 => ?_)
  rw [w64_eq (by omega) (by omega)]
  have := mill_l3 fuel 0 a6.2 { Regions := a1.1, Zones := [], Cells := [], Tenants := [], Versions := [{ Low := 0, High := 2 : ApiVersion }, { Low := 0, High := 1 + a5.1 : ApiVersion }, { Low := a6.1, High := 2 : ApiVersion }], Replicas := [], Observers := [0], Blast := a2.1, Lease := a3.1, Bake := a4.1 } b6.2.2.1
    ⟨⟨b1.1, b1.2.1⟩, by show ((0 : Nat) : Int) ≤ a1.1; omega, rfl, fun k hk => absurd hk (Nat.not_lt_zero _), ⟨Nat.zero_le _, Nat.zero_le _⟩, fun x hx => absurd hx List.not_mem_nil, fun w => absurd w (Nat.lt_irrefl 0), rfl, fun x hx => ?_, rfl, rfl, by show 1 ≤ a2.1 ∧ a2.1 ≤ 16; omega, ⟨b3.1, b3.2.1⟩, by show 0 ≤ a4.1 ∧ a4.1 ≤ 10000; omega⟩ (by rw [fuel_eq]; omega)
  · simpa using this
  · have hx : x ∈ [{ Low := 0, High := 2 : ApiVersion }, { Low := 0, High := 1 + a5.1 : ApiVersion }, { Low := a6.1, High := 2 : ApiVersion }] := hx
    simp only [List.mem_cons, List.not_mem_nil, or_false] at hx
    rcases hx with rfl | rfl | rfl
    · simp
    · simp only; omega
    · simp only; omega
end Go.CP
namespace Go.CP
open Go
set_option linter.unusedSimpArgs false
set_option linter.unusedVariables false
section
variable {c : ApiConfig}
def inRegF (c : ApiConfig) (r : Int) : Nat → List Int
  | 0 => []
  | k + 1 => bif regionOf c (k : Int) == r then inRegF c r k ++ [(k : Int)] else inRegF c r k
theorem inReg_len [Fuel] (r : Int) : ∀ k, (inRegF c r k).length ≤ k
  | 0 => Nat.le_refl 0
  | k + 1 => by
    have := inReg_len r k
    rw [inRegF]
    cases (regionOf c (k : Int) == r) <;> simp <;> omega
theorem inReg_pos [Fuel] (r : Int) (h0 : regionOf c 0 = r) : ∀ k, 1 ≤ k → 1 ≤ (inRegF c r k).length
  | 0, h => by omega
  | k + 1, h => by
    rw [inRegF]
    rcases Nat.eq_zero_or_pos k with z | z
    · subst z
      have : (regionOf c ((0 : Nat) : Int) == r) = true := by simpa using h0
      rw [this]; simp
    · have := inReg_pos r h0 k z
      cases (regionOf c (k : Int) == r) <;> simp <;> omega
theorem inRegion_eq [Fuel] (h : VC c) (r : Int) : ref04_InRegion c r = some (inRegF c r c.Cells.length) := by
  apply eqOk
  have hcl := h.cl
  unfold ref04_InRegion
  refine loop0 (L := fun m x i => ref04_InRegion_l2 c r m x i) c.Cells.length (by omega) (fun k x => x = inRegF c r k) rfl ?_ ?_
  · rintro m k x hk rfl ih
    show Ok (ref04_InRegion_l2 c r (m + 1) (inRegF c r k) k) _
    have hl := inReg_len (c := c) r k
    rw [ref04_InRegion_l2]
    unfold ref04_InRegion_k1
    simp (disch := omega) only [condT, ref04_region h, Option.bind_some, w64_eq]
    have nx := ih (inRegF c r (k + 1)) rfl
    rw [inRegF] at nx
    cases hq : (regionOf c (k : Int) == r) with
    | true =>
      rw [hq] at nx
      simp only [cond_true] at nx ⊢
      rw [chkD_ok (by simp only [List.length_singleton]; unfold room; omega)]
      exact nx
    | false => rw [hq] at nx; exact nx
  · rintro m x rfl
    show Ok (ref04_InRegion_l2 c r (m + 1) _ _) _
    rw [ref04_InRegion_l2]
    simp (disch := omega) only [condF]
    exact Ok.some rfl
theorem try_ok [Fuel] (hc : VC c) {s : ApiState} {out : List ApiEntry} {n : Nat} (h : RL c s out n) (hn : n ≤ 900) (e : ApiEntry) (ht : e.Tick ≤ s.Tick + 20000) : Ok (mill_Packed_1 e c s out) (fun r => r.1 = c ∧ RL c r.2.1 r.2.2 (n + 1)) := by
  unfold mill_Packed_1
  rw [apply_eq hc (h.vs hc), Option.bind_some]
  have hl := h.len
  refine Ok.cond (fun q => ?_) (fun _ => Ok.some ⟨rfl, h.up (by omega)⟩)
  refine Ok.chk (dT (by simp only [List.length_singleton]; show _ ≤ 140737488355328; omega)) (Ok.some ⟨rfl, h.snoc hc (by simpa using q) ht⟩)
def PQ [Fuel] (r : ApiConfig × List ApiEntry × ApiState) : Prop := MC r.1 ∧ RL r.1 r.2.2 r.2.1 100
theorem packed_k4 [Fuel] (hc : VC c) {rc : MillTape → ApiConfig → ApiState → List ApiEntry → Int → Option (ApiConfig × List ApiEntry × ApiState)} {s : ApiState} {out : List ApiEntry} {n k : Nat} {T : MillTape} (hT : MB T) (h : RL c s out n) (hn : n ≤ 80) (hk : k ≤ 100) (e : ApiEntry) (ht : e.Tick ≤ s.Tick + 20000)
    (ih : ∀ s' out', RL c s' out' (n + 1) → Ok (rc T c s' out' ((k : Int) + 1)) PQ) : Ok (mill_Packed_k4 rc c s out (k : Int) T e) PQ := by
  unfold mill_Packed_k4
  refine Ok.bind (try_ok hc h (by omega) e ht) (fun r hr => ?_)
  obtain ⟨r1, r2, r3⟩ := r
  obtain ⟨q1, q2⟩ := hr
  simp only at q1 q2
  subst q1
  rw [w64_eq (by omega) (by omega)]
  exact ih _ _ q2
theorem packed_l5 [Fuel] (hM : MC c) {n0 : Nat} (hn0 : n0 ≤ 40) {T : MillTape} {s : ApiState} {out : List ApiEntry} (hT : MB T) (h : RL c s out n0) : Ok (mill_Packed_l5 fuel T c s out 0) PQ := by
  have hc := hM.vc
  have hcl := hc.cl
  have htl := hM.tl
  have hreg := hc.reg
  have hle := hM.lease
  refine loop0 (L := fun m x i => mill_Packed_l5 m x.1 x.2.1 x.2.2.1 x.2.2.2 i) (x := (T, c, s, out)) 12 (by omega) (fun k x => MB x.1 ∧ x.2.1 = c ∧ RL c x.2.2.1 x.2.2.2 (n0 + k)) ⟨hT, rfl, h⟩ ?_ ?_
  · rintro m k ⟨T, c', s, out⟩ hk ⟨hT, hc', h⟩ ih
    simp only at hT hc' h
    subst hc'
    show Ok (mill_Packed_l5 (m + 1) T c' s out k) PQ
    have hv := h.vs hc
    have htk := hv.tick
    rw [mill_Packed_l5]
    unfold mill_Tape_More
    simp (disch := omega) only [condT, Option.bind_some]
    refine Ok.cond (fun _ => ?_) (fun _ => Ok.some ⟨hM, h.up (by omega)⟩)
    have fin : ∀ {T' : MillTape} (hT' : MB T') (e : ApiEntry), e.Tick ≤ s.Tick + 20000 → Ok (mill_Packed_k4 (mill_Packed_l5 m) c' s out (k : Int) T' e) PQ := fun {T'} hT' e ht =>
      packed_k4 hc hT' h (by omega) (by omega) e ht (fun s' out' h' => ih (T', c', s', out') ⟨hT', rfl, h'⟩)
    refine Ok.bind (mnext_ok hT (by omega) (by omega)) (fun a1 b1 => ?_)
    refine Ok.bind (mnext_ok b1.2.2.1 (by omega) (by omega)) (fun a2 b2 => ?_)
    refine Ok.bind (mnext_ok b2.2.2.1 (by omega) (by omega)) (fun a3 b3 => ?_)
    unfold mill_entry
    simp only [Option.bind_some]
    refine Ok.bind (mnext_ok b3.2.2.1 (by omega) (by omega)) (fun a4 b4 => ?_)
    have hT4 := b4.2.2.1
    have wt : w64 (s.Tick + a3.1) = s.Tick + a3.1 := w64_eq (by omega) (by omega)
    rw [wt]
    have w2 : w64 (2 * c'.Lease) = 2 * c'.Lease := w64_eq (by omega) (by omega)
    rw [w2]
    have w3 : w64 (s.Tick + a3.1 + 2 * c'.Lease) = s.Tick + a3.1 + 2 * c'.Lease := w64_eq (by omega) (by omega)
    rw [w3]
    have tb : s.Tick + a3.1 ≤ s.Tick + 20000 := by omega
    refine Ok.cond (fun _ => fin hT4 _ tb) (fun _ => ?_)
    refine Ok.cond (fun _ => fin hT4 _ tb) (fun _ => ?_)
    refine Ok.cond (fun _ => fin hT4 _ (by show s.Tick + a3.1 + 2 * c'.Lease ≤ _; omega)) (fun _ => ?_)
    refine Ok.cond (fun _ => Ok.bind (mnext_ok hT4 (by omega) (by omega)) (fun a5 b5 => fin b5.2.2.1 _ tb)) (fun _ => ?_)
    refine Ok.cond (fun _ => Ok.bind (mrange_ok hT4 (by omega) (by omega) (by omega)) (fun a5 b5 => fin b5.2.2.1 _ tb)) (fun _ => ?_)
    refine Ok.cond (fun _ => Ok.bind (mnext_ok hT4 (by omega) (by omega)) (fun a5 b5 => fin b5.2.2.1 _ tb)) (fun _ => ?_)
    have htl2 := hv.tl
    have hcl2 := hv.cl
    have i1 : 0 ≤ a1.1 ∧ a1.1 < ((s.Tenants.length : Nat) : Int) := by omega
    have i2 : 0 ≤ a2.1 ∧ a2.1 < ((s.Cells.length : Nat) : Int) := by omega
    refine Ok.cond (fun _ => ?_) (fun _ => ?_)
    · rw [ixL_ok i1.1 i1.2]; exact fin hT4 _ tb
    · refine Ok.cond (fun _ => ?_) (fun _ => ?_)
      · rw [ixL_ok i2.1 i2.2]
        exact Ok.bind (mnext_ok hT4 (by omega) (by omega)) (fun a5 b5 => fin b5.2.2.1 _ (by show w64 (s.Tick + a3.1 + a5.1) ≤ _; rw [w64_eq (by omega) (by omega)]; omega))
      · rw [ixL_ok i1.1 i1.2]
        refine Ok.bind (mrange_ok hT4 (by omega) (by omega) (by omega)) (fun a5 b5 => ?_)
        refine Ok.cond (fun q => ?_) (fun _ => fin b5.2.2.1 _ tb)
        have q := of_decide_eq_true q
        have hh := (hv.t _ (getD_mem (by omega : a1.1.toNat < s.Tenants.length))).home
        rw [ixL_ok q (by omega)]
        exact fin b5.2.2.1 _ tb
  · rintro m ⟨T, c', s, out⟩ ⟨hT, hc', h⟩
    simp only at hT hc' h
    subst hc'
    show Ok (mill_Packed_l5 (m + 1) T c' s out ((12 : Nat) : Int)) PQ
    rw [mill_Packed_l5]
    have e : decide (((12 : Nat) : Int) < 12) = false := rfl
    rw [e]
    exact Ok.some ⟨hM, h.up (by omega)⟩
theorem packed_k2 [Fuel] (hM : MC c) {rc : MillTape → ApiConfig → ApiState → List ApiEntry → Int → Option (ApiConfig × List ApiEntry × ApiState)} {s : ApiState} {out : List ApiEntry} {n k : Nat} {T : MillTape} (hT : MB T) (h : RL c s out n) (hn : n ≤ 80) (hk : k < c.Tenants.length) (home sb : Int)
    (ih : ∀ T' s' out', MB T' → RL c s' out' (n + 4) → Ok (rc T' c s' out' ((k : Int) + 1)) PQ) : Ok (mill_Packed_k2 rc c s out (k : Int) home (k : Int) T sb) PQ := by
  have hc := hM.vc
  have hcl := hc.cl
  have htl := hM.tl
  have hle := hM.lease
  unfold mill_Packed_k2 mill_entry mill_Packed_k1
  simp only [Option.bind_some]
  refine Ok.bind (try_ok hc h (by omega) _ (by show s.Tick ≤ s.Tick + 20000; omega)) (fun r1 q1 => ?_)
  obtain ⟨c1, s1, o1⟩ := r1
  obtain ⟨e1, h1⟩ := q1
  simp only at e1 h1
  subst e1
  refine Ok.bind (try_ok hc h1 (by omega) _ (by show s1.Tick ≤ s1.Tick + 20000; omega)) (fun r2 q2 => ?_)
  obtain ⟨c2, s2, o2⟩ := r2
  obtain ⟨e2, h2⟩ := q2
  simp only at e2 h2
  subst e2
  refine Ok.bind (try_ok hc h2 (by omega) _ (by show s2.Tick ≤ s2.Tick + 20000; omega)) (fun r3 q3 => ?_)
  obtain ⟨c3, s3, o3⟩ := r3
  obtain ⟨e3, h3⟩ := q3
  simp only at e3 h3
  subst e3
  have hv := h3.vs hc
  have htl2 := hv.tl
  simp only
  rw [ixL_ok (by omega) (by omega), w64_eq (x := (k : Int) + 1) (by omega) (by omega)]
  have hb : Ok (bif (s3.Tenants.getD (k : Int).toNat default).Placed then mill_Tape_Next T 4 else some (default, T)) (fun r => MB r.2) :=
    Ok.cond (fun _ => (mnext_ok hT (by omega) (by omega)).mono (fun r hr => hr.2.2.1)) (fun _ => Ok.some hT)
  refine Ok.bind hb (fun r20 q20 => ?_)
  refine Ok.cond (fun _ => ?_) (fun _ => ih _ _ _ q20 (h3.up (by omega)))
  refine Ok.bind (mrange_ok q20 (by omega) (by omega) (by omega)) (fun r22 q22 => ?_)
  refine Ok.bind (try_ok hc h3 (by omega) _ (by show s3.Tick ≤ s3.Tick + 20000; omega)) (fun r4 q4 => ?_)
  obtain ⟨c4, s4, o4⟩ := r4
  obtain ⟨e4, h4⟩ := q4
  simp only at e4 h4
  subst e4
  exact ih _ _ _ q22.2.2.1 h4
theorem packed_l6 [Fuel] (hM : MC c) {T : MillTape} (hT : MB T) : Ok (mill_Packed_l6 ((c.Tenants.length : Nat) : Int) fuel T c (newS c) [] 0) PQ := by
  have hc := hM.vc
  have hcl := hc.cl
  have htl := hM.tl
  refine loop0 (L := fun m x i => mill_Packed_l6 ((c.Tenants.length : Nat) : Int) m x.1 x.2.1 x.2.2.1 x.2.2.2 i) (x := (T, c, newS c, [])) c.Tenants.length (by omega) (fun k x => MB x.1 ∧ x.2.1 = c ∧ RL c x.2.2.1 x.2.2.2 (4 * k)) ⟨hT, rfl, RL.new hc⟩ ?_ ?_
  · rintro m k ⟨T, c', s, out⟩ hk ⟨hT, hc', h⟩ ih
    simp only at hT hc' h
    subst hc'
    show Ok (mill_Packed_l6 _ (m + 1) T c' s out k) PQ
    rw [mill_Packed_l6]
    unfold mill_Packed_k3
    simp (disch := omega) only [condT]
    refine Ok.bind (mnext_ok hT (by omega) (by omega)) (fun a1 b1 => ?_)
    refine Ok.bind (mnext_ok b1.2.2.1 (by omega) (by omega)) (fun a2 b2 => ?_)
    have fin : ∀ {T' : MillTape} (hT' : MB T') (home : Int), Ok ((mill_Tape_Next T' ((c'.Cells.length : Nat) : Int)).bind fun x25 => mill_Packed_k2 (mill_Packed_l6 ((c'.Tenants.length : Nat) : Int) m) c' s out (k : Int) home (k : Int) x25.2 x25.1) PQ := fun {T'} hT' home =>
      Ok.bind (mnext_ok hT' (by omega) (by omega)) (fun a b => packed_k2 hM b.2.2.1 h (by omega) hk home _ (fun T2 s' out' h1 h' => ih (T2, c', s', out') ⟨h1, rfl, h'⟩))
    refine Ok.cond (fun _ => ?_) (fun _ => fin b2.2.2.1 _)
    have hl1 := inReg_pos (c := c') 0 hM.r0 c'.Cells.length (by omega)
    have hl2 := inReg_len (c := c') 0 c'.Cells.length
    rw [inRegion_eq hc, Option.bind_some, Option.bind_some]
    refine Ok.bind (mnext_ok b2.2.2.1 (by omega) (by omega)) (fun a3 b3 => ?_)
    rw [ixL_ok (by omega) (by omega)]
    exact fin b3.2.2.1 _
  · rintro m ⟨T, c', s, out⟩ ⟨hT, hc', h⟩
    simp only at hT hc' h
    subst hc'
    show Ok (mill_Packed_l6 _ (m + 1) T c' s out _) PQ
    rw [mill_Packed_l6]
    simp (disch := omega) only [condF]
    exact packed_l5 hM (n0 := 32) (by omega) hT (h.up (by omega))
theorem packed_ok [Fuel] {l : List Int} (h1 : ∀ x ∈ l, I64 x) (h2 : l.length ≤ 1000) : Ok (mill_Packed l) PQ := by
  unfold mill_Packed mill_New
  rw [Option.bind_some]
  refine Ok.bind (mconfig_ok ⟨h1, h2, Int.le_refl 0, by show (0 : Int) ≤ 1000; omega⟩) (fun r hr => ?_)
  rw [new_eq hr.1.vc, Option.bind_some]
  exact packed_l6 hr.1 hr.2
end
end Go.CP
namespace Go.CP
open Go
set_option linter.unusedSimpArgs false
set_option linter.unusedVariables false
section
variable {c : ApiConfig} {s : ApiState} {e : ApiEntry}
theorem mode_p [Fuel] (hv : VS c s) (ce : cOk c e) : Ok (state_mode s e) (fun x => modeS (bump s e) e = outS x (setC (bump s e) e.Cell { cAt s e.Cell with Mode := e.N, Since := e.Tick }, 0)) := by
  have h2 := clen hv ce
  unfold state_mode modeS
  have c0 : ∀ i, cAt (bump s e) i = cAt s i := fun _ => rfl
  have hg2 : (s.Cells.getD e.Cell.toNat default) = cAt s e.Cell := rfl
  rw [ixL_ok h2.1 h2.2, c0, hg2]
  cases ((cAt s e.Cell).Mode == e.N) <;> exact Ok.some rfl
def openF (s : ApiState) : Nat → List Int
  | 0 => []
  | k + 1 => bif openB s (k : Int) then openF s k ++ [(k : Int)] else openF s k
theorem openF_len [Fuel] (s : ApiState) : ∀ k, (openF s k).length ≤ k
  | 0 => Nat.le_refl 0
  | k + 1 => by
    have := openF_len s k
    rw [openF]
    cases openB s (k : Int) with
    | true => simp; omega
    | false => simp; omega
def cntF (cell : Int) (l : List Int) : Nat → Int
  | 0 => 0
  | k + 1 => (bif l.getD k default != cell then cntF cell l k + 1 else cntF cell l k)
theorem cntF_bd [Fuel] (cell : Int) (l : List Int) : ∀ k, 0 ≤ cntF cell l k ∧ cntF cell l k ≤ k
  | 0 => by simp [cntF]
  | k + 1 => by
    have := cntF_bd cell l k
    rw [cntF]
    cases (l.getD k default != cell) <;> simp <;> omega
theorem cntF_app [Fuel] (cell : Int) (l m : List Int) : ∀ k, k ≤ l.length → cntF cell (l ++ m) k = cntF cell l k
  | 0, _ => rfl
  | k + 1, hk => by
    rw [cntF, cntF, cntF_app cell l m k (by omega)]
    have : (l ++ m).getD k default = l.getD k default := by simp [List.getD_eq_getElem?_getD, List.getElem?_append_left (show k < l.length by omega)]
    rw [this]
theorem cnt_open [Fuel] (s : ApiState) (cell : Int) : ∀ k, cntF cell (openF s k) (openF s k).length = othersF s cell k
  | 0 => rfl
  | k + 1 => by
    have ih := cnt_open s cell k
    rw [openF]
    unfold othersF
    cases ho : openB s (k : Int) with
    | false =>
      simp only [cond_false]
      rw [ih]
      simp [ho]
    | true =>
      simp only [cond_true, List.length_append, List.length_singleton]
      rw [cntF, cntF_app _ _ _ _ (Nat.le_refl _), ih]
      have : (openF s k ++ [(k : Int)]).getD (openF s k).length default = (k : Int) := by simp [List.getD_eq_getElem?_getD]
      rw [this]
      by_cases hq : (k : Int) = cell
      · simp [hq]
      · simp [hq, ho]
theorem unproven_eq [Fuel] (h : VC c) (hv : VS c s) : state_Unproven s = some (openF s s.Cells.length) := by
  apply eqOk
  have hcl := hv.cl
  have hcl2 := h.cl
  have hp := hv.prov
  unfold state_Unproven
  refine loop0 (L := fun m x i => state_Unproven_l2 s s.Cells ((s.Cells.length : Nat) : Int) m x i) s.Cells.length (by omega) (fun k x => x = openF s k) rfl ?_ ?_
  · rintro m k x hk rfl ih
    show Ok (state_Unproven_l2 s s.Cells _ (m + 1) (openF s k) k) _
    have hol := openF_len s k
    rw [state_Unproven_l2]
    unfold state_Unproven_k1
    simp (disch := omega) only [condT, ixL_ok, Int.toNat_natCast, st_has hp, bifS, Option.bind_some, w64_eq]
    have e1 : ((!hasB s.Proven (s.Cells.getD k default).Running) || !(bif !(!hasB s.Proven (s.Cells.getD k default).Running) then hasB s.Proven (s.Cells.getD k default).Wanted else default)) = openB s (k : Int) := by
      unfold openB provenB cAt
      rw [Int.toNat_natCast]
      cases hasB s.Proven (s.Cells.getD k default).Running <;> rfl
    rw [e1]
    have nx := ih (openF s (k + 1)) rfl
    rw [openF] at nx
    cases ho : openB s (k : Int) with
    | true =>
      rw [ho] at nx
      simp only [cond_true] at nx ⊢
      rw [chkD_ok (by simp only [List.length_singleton]; unfold room; omega)]
      exact nx
    | false =>
      rw [ho] at nx
      exact nx
  · rintro m x rfl
    show Ok (state_Unproven_l2 s s.Cells _ (m + 1) _ _) _
    rw [state_Unproven_l2]
    simp (disch := omega) only [condF]
    exact Ok.some rfl
theorem want_l2 [Fuel] (h : VC c) {l : List Int} (hl : l.length ≤ 1000) : state_want_l2 c e l ((l.length : Nat) : Int) fuel 0 0 = some (bif decide (c.Blast ≤ cntF e.Cell l l.length) then 14 else 0) := by
  apply eqOk
  refine loop0 (L := fun m x i => state_want_l2 c e l ((l.length : Nat) : Int) m x i) l.length (by omega) (fun k x => x = cntF e.Cell l k) rfl ?_ ?_
  · rintro m k x hk rfl ih
    show Ok (state_want_l2 c e l _ (m + 1) (cntF e.Cell l k) k) _
    have hb := cntF_bd e.Cell l k
    rw [state_want_l2]
    unfold state_want_k1
    simp (disch := omega) only [condT, ixL_ok, Int.toNat_natCast, w64_eq]
    have nx := ih (cntF e.Cell l (k + 1)) rfl
    rw [cntF] at nx
    cases hq : (l.getD k default != e.Cell) with
    | true => rw [hq] at nx; exact nx
    | false => rw [hq] at nx; exact nx
  · rintro m x rfl
    show Ok (state_want_l2 c e l _ (m + 1) _ _) _
    rw [state_want_l2]
    simp (disch := omega) only [condF]
    cases decide (c.Blast ≤ cntF e.Cell l l.length) <;> exact Ok.some rfl
theorem want_p [Fuel] (h : VC c) (hv : VS c s) (ce : cOk c e) (n : vOk c e) : Ok (state_want c s e) (fun x => wantS c (bump s e) e = outS x (setC (bump s e) e.Cell { cAt s e.Cell with Wanted := e.N }, 0)) := by
  have h2 := clen hv ce
  have hp := hv.prov
  have hcl := hv.cl
  have hcl2 := h.cl
  unfold vOk at n
  unfold state_want state_want_k4 state_want_k3 wantS
  have c0 : ∀ i, cAt (bump s e) i = cAt s i := fun _ => rfl
  have hg2 : (s.Cells.getD e.Cell.toNat default) = cAt s e.Cell := rfl
  have hol := openF_len s s.Cells.length
  rw [ixL_ok h2.1 h2.2, hg2]
  dsimp only
  rw [c0, st_ver n, unproven_eq h hv]
  simp only [Option.bind_some, st_has hp, others_bump]
  rw [want_l2 h (by omega), cnt_open]
  have p0 : provenB (bump s e) e.N = hasB s.Proven e.N := rfl
  have q0 : (bump s e).Cells.length = s.Cells.length := rfl
  have q1 : (bump s e).Evacuating = s.Evacuating := rfl
  have q2 : (bump s e).Low = s.Low := rfl
  have q3 : (bump s e).High = s.High := rfl
  rw [p0, q0, q1, q2, q3]
  have r0 : (e.N != (cAt s e.Cell).Running) = !((cAt s e.Cell).Running == e.N) := by rw [Bool.eq_iff_iff]; simp; exact ⟨fun a b => a b.symm, fun a b => a b.symm⟩
  rw [r0]
  generalize othersF s e.Cell s.Cells.length = ot
  cases ((cAt s e.Cell).Wanted == e.N) with
  | true => exact Ok.some rfl
  | false =>
    cases decide (s.Low < (c.Versions.getD e.N.toNat default).Low) with
    | true => exact Ok.some rfl
    | false =>
      cases decide ((c.Versions.getD e.N.toNat default).High < s.High) with
      | true => exact Ok.some rfl
      | false =>
        cases ((cAt s e.Cell).Running == e.N) with
        | true => exact Ok.some rfl
        | false =>
          cases hasB s.Proven e.N with
          | true => exact Ok.some rfl
          | false =>
            cases (s.Evacuating != 0) with
            | true => exact Ok.some rfl
            | false => cases decide (c.Blast ≤ ot) <;> exact Ok.some rfl
theorem any_get [Fuel] {α : Type} [Inhabited α] (p : α → Bool) (l : List α) : l.any p = true ↔ ∃ k, k < l.length ∧ p (l.getD k default) = true := by
  rw [List.any_eq_true]
  constructor
  · rintro ⟨x, hx, hp⟩
    obtain ⟨k, hk, rfl⟩ := List.getElem_of_mem hx
    exact ⟨k, hk, by simpa [List.getD_eq_getElem?_getD, hk] using hp⟩
  · rintro ⟨k, hk, hp⟩
    exact ⟨_, getD_mem hk, hp⟩
theorem runs_l1 [Fuel] (hl : s.Tenants.length ≤ 1000) : state_runs_l1 e s.Tenants ((s.Tenants.length : Nat) : Int) fuel 0 = some (bif s.Tenants.any (busyB e) then 9 else 0) := by
  apply eqOk
  refine loop0 (L := fun m (_ : Unit) i => state_runs_l1 e s.Tenants ((s.Tenants.length : Nat) : Int) m i) (x := ()) s.Tenants.length (by omega) (fun k _ => ∀ j, j < k → busyB e (s.Tenants.getD j default) = false) (fun j hj => by omega) ?_ ?_
  · rintro m k x hk hI ih
    show Ok (state_runs_l1 e s.Tenants _ (m + 1) k) _
    rw [state_runs_l1]
    simp (disch := omega) only [condT, ixL_ok, Int.toNat_natCast, w64_eq]
    show Ok (bif busyB e (s.Tenants.getD k default) then _ else _) _
    cases hb : busyB e (s.Tenants.getD k default) with
    | true =>
      have : s.Tenants.any (busyB e) = true := (any_get _ _).2 ⟨k, hk, hb⟩
      rw [this]; exact Ok.some rfl
    | false =>
      exact ih () (fun j hj => by
        by_cases q : j = k
        · exact q ▸ hb
        · exact hI j (by omega))
  · rintro m x hI
    show Ok (state_runs_l1 e s.Tenants _ (m + 1) _) _
    rw [state_runs_l1]
    simp (disch := omega) only [condF]
    have : s.Tenants.any (busyB e) = false := by
      cases hq : s.Tenants.any (busyB e) with
      | false => rfl
      | true => obtain ⟨k, hk, hp⟩ := (any_get _ _).1 hq; rw [hI k hk] at hp; cases hp
    rw [this]; exact Ok.some rfl
theorem runs_p [Fuel] (h : VC c) (hv : VS c s) (ce : cOk c e) (n : vOk c e) : Ok (state_runs s e) (fun x => runsS (bump s e) e = outS x (setC (bump s e) e.Cell { cAt s e.Cell with Running := e.N, Since := e.Tick }, 0)) := by
  have h2 := clen hv ce
  have hp := hv.prov
  have htl := hv.tl
  have htl2 := h.tl
  unfold state_runs state_runs_k2 runsS
  have c0 : ∀ i, cAt (bump s e) i = cAt s i := fun _ => rfl
  have hg2 : (s.Cells.getD e.Cell.toNat default) = cAt s e.Cell := rfl
  rw [ixL_ok h2.1 h2.2, hg2]
  dsimp only
  rw [c0, runs_l1 (by omega)]
  simp only [Option.bind_some, st_has hp]
  have p0 : provenB (bump s e) e.N = hasB s.Proven e.N := rfl
  have q0 : (bump s e).Tenants = s.Tenants := rfl
  have q1 : (bump s e).Evacuating = s.Evacuating := rfl
  rw [p0, q0, q1]
  have r0 : (e.N != (cAt s e.Cell).Wanted) = ((cAt s e.Cell).Wanted != e.N) := by rw [Bool.eq_iff_iff]; simp only [bne_iff_ne, ne_eq]; exact ⟨fun a b => a b.symm, fun a b => a b.symm⟩
  rw [r0]
  cases ((cAt s e.Cell).Wanted != e.N) with
  | true => exact Ok.some rfl
  | false =>
    cases ((cAt s e.Cell).Running == (cAt s e.Cell).Wanted) with
    | true => exact Ok.some rfl
    | false =>
      cases hasB s.Proven e.N with
      | true => cases s.Tenants.any (busyB e) <;> exact Ok.some rfl
      | false =>
        cases (s.Evacuating != 0) with
        | true => exact Ok.some rfl
        | false => cases s.Tenants.any (busyB e) <;> exact Ok.some rfl
theorem prove_l1 [Fuel] (h : VC c) (hv : VS c s) (hk : 0 ≤ e.Tick ∧ e.Tick ≤ 1073741824) : state_prove_l1 c e s.Cells ((s.Cells.length : Nat) : Int) fuel 0 = some (bif s.Cells.any (bakedB c e) then 0 else 15) := by
  apply eqOk
  have hcl := hv.cl
  have hcl2 := h.cl
  refine loop0 (L := fun m (_ : Unit) i => state_prove_l1 c e s.Cells ((s.Cells.length : Nat) : Int) m i) (x := ()) s.Cells.length (by omega) (fun k _ => ∀ j, j < k → bakedB c e (s.Cells.getD j default) = false) (fun j hj => by omega) ?_ ?_
  · rintro m k x hk2 hI ih
    show Ok (state_prove_l1 c e s.Cells _ (m + 1) k) _
    have hC := (hv.cel _ (getD_mem hk2)).sin
    rw [state_prove_l1]
    simp (disch := omega) only [condT, ixL_ok, Int.toNat_natCast, w64_eq]
    show Ok (bif bakedB c e (s.Cells.getD k default) then _ else _) _
    cases hb : bakedB c e (s.Cells.getD k default) with
    | true =>
      have : s.Cells.any (bakedB c e) = true := (any_get _ _).2 ⟨k, hk2, hb⟩
      rw [this]; exact Ok.some rfl
    | false =>
      exact ih () (fun j hj => by
        by_cases q : j = k
        · exact q ▸ hb
        · exact hI j (by omega))
  · rintro m x hI
    show Ok (state_prove_l1 c e s.Cells _ (m + 1) _) _
    rw [state_prove_l1]
    simp (disch := omega) only [condF]
    have : s.Cells.any (bakedB c e) = false := by
      cases hq : s.Cells.any (bakedB c e) with
      | false => rfl
      | true => obtain ⟨k, hk, hp⟩ := (any_get _ _).1 hq; rw [hI k hk] at hp; cases hp
    rw [this]; exact Ok.some rfl
theorem prove_p [Fuel] (h : VC c) (hv : VS c s) (hk : 0 ≤ e.Tick ∧ e.Tick ≤ 1073741824) : Ok (state_prove c s e) (fun x => proveS c (bump s e) e = outS x ({ bump s e with Proven := orK .i64 s.Proven (shlK .i64 1 (IntKind.u64.wrap e.N)) }, 0)) := by
  have hp := hv.prov
  unfold state_prove proveS
  rw [prove_l1 h hv hk]
  simp only [Option.bind_some, st_has hp]
  have p0 : provenB (bump s e) e.N = hasB s.Proven e.N := rfl
  have q0 : (bump s e).Cells = s.Cells := rfl
  rw [p0, q0]
  cases hasB s.Proven e.N with
  | true => exact Ok.some rfl
  | false => cases s.Cells.any (bakedB c e) <;> exact Ok.some rfl
theorem expand_l1 [Fuel] (h : VC c) (hv : VS c s) : state_expand_l1 c s s.Cells ((s.Cells.length : Nat) : Int) fuel 0 = some (bif s.Cells.any (oldB c s) then 13 else 0) := by
  apply eqOk
  have hcl := hv.cl
  have hcl2 := h.cl
  refine loop0 (L := fun m (_ : Unit) i => state_expand_l1 c s s.Cells ((s.Cells.length : Nat) : Int) m i) (x := ()) s.Cells.length (by omega) (fun k _ => ∀ j, j < k → oldB c s (s.Cells.getD j default) = false) (fun j hj => by omega) ?_ ?_
  · rintro m k x hk2 hI ih
    show Ok (state_expand_l1 c s s.Cells _ (m + 1) k) _
    have hC := hv.cel _ (getD_mem hk2)
    rw [state_expand_l1]
    simp (disch := omega) only [condT, ixL_ok, Int.toNat_natCast, w64_eq, st_ver hC.run, st_ver hC.wan, Option.bind_some, bifS]
    have e1 : (decide ((c.Versions.getD (s.Cells.getD k default).Running.toNat default).High ≤ s.High) || decide ((bif !decide ((c.Versions.getD (s.Cells.getD k default).Running.toNat default).High ≤ s.High) then c.Versions.getD (s.Cells.getD k default).Wanted.toNat default else default).High ≤ s.High)) = oldB c s (s.Cells.getD k default) := by
      unfold oldB
      cases decide ((c.Versions.getD (s.Cells.getD k default).Running.toNat default).High ≤ s.High) <;> rfl
    rw [e1]
    cases hb : oldB c s (s.Cells.getD k default) with
    | true =>
      have : s.Cells.any (oldB c s) = true := (any_get _ _).2 ⟨k, hk2, hb⟩
      rw [this]; exact Ok.some rfl
    | false =>
      exact ih () (fun j hj => by
        by_cases q : j = k
        · exact q ▸ hb
        · exact hI j (by omega))
  · rintro m x hI
    show Ok (state_expand_l1 c s s.Cells _ (m + 1) _) _
    rw [state_expand_l1]
    simp (disch := omega) only [condF]
    have : s.Cells.any (oldB c s) = false := by
      cases hq : s.Cells.any (oldB c s) with
      | false => rfl
      | true => obtain ⟨k, hk, hp⟩ := (any_get _ _).1 hq; rw [hI k hk] at hp; cases hp
    rw [this]; exact Ok.some rfl
theorem expand_p [Fuel] (h : VC c) (hv : VS c s) : Ok (state_expand c s) (fun x => expandS c (bump s e) = outS x ({ bump s e with High := s.High + 1 }, 0)) := by
  unfold state_expand expandS
  rw [expand_l1 h hv]
  have q0 : (bump s e).Cells.any (oldB c (bump s e)) = s.Cells.any (oldB c s) := rfl
  have q2 : (bump s e).Low = s.Low := rfl
  have q3 : (bump s e).High = s.High := rfl
  rw [q0, q2, q3]
  cases decide (s.Low < s.High) with
  | true => exact Ok.some rfl
  | false =>
    cases decide (30 ≤ s.High) with
    | true => exact Ok.some rfl
    | false => cases s.Cells.any (oldB c s) <;> exact Ok.some rfl
theorem contract_p [Fuel] : Ok (state_contract s) (fun x => contractS (bump s e) = outS x ({ bump s e with Low := s.High }, 0)) := by
  unfold state_contract contractS
  have q2 : (bump s e).Low = s.Low := rfl
  have q3 : (bump s e).High = s.High := rfl
  rw [q2, q3]
  cases (s.High == s.Low) <;> exact Ok.some rfl
theorem evac_p [Fuel] (hv : VS c s) : Ok (state_evacuate s e) (fun x => evacS (bump s e) e = outS x ({ bump s e with Evacuating := xorK .i64 s.Evacuating (shlK .i64 1 (IntKind.u64.wrap e.Other)) }, 0)) := by
  have hp := hv.evac
  unfold state_evacuate evacS
  rw [st_has (by omega)]
  simp only [Option.bind_some]
  have q1 : (bump s e).Evacuating = s.Evacuating := rfl
  rw [q1]
  cases (hasB s.Evacuating e.Other == (e.N == 1)) <;> exact Ok.some rfl
theorem evac_bits [Fuel] {a n : Int} (ha : 0 ≤ a ∧ a < 8) (hn : 0 ≤ n ∧ n < 3) :
    (hasB a n = false → orK .i64 a (shlK .i64 1 n) = xorK .i64 a (shlK .i64 1 (IntKind.u64.wrap n))) ∧ (hasB a n = true → andNotK .i64 a (shlK .i64 1 n) = xorK .i64 a (shlK .i64 1 (IntKind.u64.wrap n))) := by
  have h1 : a = 0 ∨ a = 1 ∨ a = 2 ∨ a = 3 ∨ a = 4 ∨ a = 5 ∨ a = 6 ∨ a = 7 := by omega
  have h2 : n = 0 ∨ n = 1 ∨ n = 2 := by omega
  rcases h1 with rfl | rfl | rfl | rfl | rfl | rfl | rfl | rfl <;> rcases h2 with rfl | rfl | rfl <;> decide
end
end Go.CP
namespace Go.CP
open Go
set_option linter.unusedSimpArgs false
set_option linter.unusedVariables false
section
variable {c : ApiConfig} {s : ApiState}
theorem load_over_l [Fuel] (h : VC c) {b : List Int} (hl : b.length = c.Cells.length) : ∀ (m k : Nat), c.Cells.length - k < m → k ≤ c.Cells.length → load_Over_l2 c b ((b.length : Nat) : Int) m (overF c b k) (k : Int) = some (overF c b c.Cells.length)
  | 0, _, hm, _ => absurd hm (Nat.not_lt_zero _)
  | m + 1, k, hm, hk => by
    have hcl := h.cl
    have hol := overF_len c b k
    rw [load_Over_l2]; (try simp only [ixL_b, letD])
    by_cases hlt : k < c.Cells.length
    · have i1 : 0 ≤ (k : Int) ∧ (k : Int) < ((b.length : Nat) : Int) := by omega
      have i2 : 0 ≤ (k : Int) ∧ (k : Int) < ((c.Cells.length : Nat) : Int) := by omega
      rw [decide_eq_true i1.2]
      simp only [cond_true, idx_eq i1, idx_eq i2, Option.bind_some, Int.toNat_natCast]
      have next : load_Over_l2 c b ((b.length : Nat) : Int) m (overF c b (k + 1)) (w64 ((k : Int) + 1)) = some (overF c b c.Cells.length) := by
        rw [w64_eq (by omega) (by omega)]
        have := load_over_l h hl m (k + 1) (by omega) (by omega)
        simpa using this
      simp only [overF] at next
      unfold load_Over_k1; (try simp only [ixL_b, letD])
      have e0 : b.getD k 0 = b.getD k default := rfl
      rw [e0] at next
      by_cases hc : (c.Cells.getD k default).Capacity < b.getD k default
      · rw [if_pos hc] at next
        rw [decide_eq_true hc, decide_eq_true (show ((overF c b k).length + [(k : Int)].length) * 8 ≤ 140737488355328 by simp; omega)]
        exact next
      · rw [if_neg hc] at next
        rw [decide_eq_false hc]
        exact next
    · rw [decide_eq_false (show ¬ (k : Int) < ((b.length : Nat) : Int) by omega)]
      have : k = c.Cells.length := by omega
      subst this; rfl
theorem load_over [Fuel] (h : VC c) (hl : s.Tenants.length = c.Tenants.length) : load_Over c s = some (overS c s) := by
  have hcl := h.cl
  unfold load_Over overS; (try simp only [ixL_b, letD])
  rw [load_booked h hl]
  have := load_over_l h (booked_len c s) fuel 0 (by rw [fuel_eq]; omega) (by omega)
  simpa [overF] using this
end
end Go.CP
namespace Go.CP
open Go
set_option linter.unusedSimpArgs false
set_option linter.unusedVariables false
section
variable {c : ApiConfig} {s : ApiState} {e : ApiEntry}
theorem clone_t [Fuel] {l : List ApiTenantState} (hl : l.length ≤ 1000) : slices_Clone_api_TenantState_api_TenantState l = some l := by
  unfold slices_Clone_api_TenantState_api_TenantState
  rw [chkD_ok (by simp only [List.length_nil]; unfold room; omega)]; rfl
theorem clone_c [Fuel] {l : List ApiCellState} (hl : l.length ≤ 1000) : slices_Clone_api_CellState_api_CellState l = some l := by
  unfold slices_Clone_api_CellState_api_CellState
  rw [chkD_ok (by simp only [List.length_nil]; unfold room; omega)]; rfl
def tailP [Fuel] (c : ApiConfig) (s : ApiState) (e : ApiEntry) : Option (ApiState × Int) :=
  (state_effect s e).bind fun x2 => (state_books e).bind fun x3 => (bif x3 then load_Over c x2 else some default).bind fun x4 =>
    bif (x3 && (decide (0 < ((x4.length : Nat) : Int)))) then (some (zeroS, 10)) else (some (x2, 0))
theorem apply_tail [Fuel] : state_Apply c s e = (state_refused c s e).bind fun x1 => bif x1 != 0 then some (zeroS, x1) else tailP c s e := rfl
theorem tail_fit [Fuel] (h : VC c) {S : ApiState} (he : state_effect s e = some S) (hb : state_books e = some true) (hl : S.Tenants.length = c.Tenants.length) : tailP c s e = some (fitS c S) := by
  unfold tailP fitS
  rw [he, hb]
  simp only [Option.bind_some, cond_true, load_over h hl, Bool.true_and]
  cases decide (0 < (((overS c S).length : Nat) : Int)) <;> rfl
theorem tail_ok [Fuel] {S : ApiState} (he : state_effect s e = some S) (hb : state_books e = some false) : tailP c s e = some (S, 0) := by
  unfold tailP
  rw [he, hb]; rfl
theorem apply_fin [Fuel] {x : Int} {R : ApiState × Int} (hr : state_refused c s e = some x) (hA : applyS c s e = outS x R) (hE : tailP c s e = some R) : state_Apply c s e = some (applyS c s e) := by
  rw [apply_tail, hr, hA]
  unfold outS
  simp only [Option.bind_some]
  cases (x != 0) with
  | true => rfl
  | false => exact hE
theorem eff_cell [Fuel] (h : VC c) (hv : VS c s) (ce : cOk c e) (k : e.Kind = 9 ∨ e.Kind = 10 ∨ e.Kind = 11) : state_effect s e = (state_onCell s.Cells e.Cell.toNat e).bind fun x => some { bump s e with Cells := x } := by
  have h2 := clen hv ce
  have htl := hv.tl; have hcl := hv.cl; have a1 := h.tl; have a2 := h.cl; have hcnt := hv.cnt
  unfold state_effect state_effect_k2 state_effect_k1
  rw [clone_t (by omega), clone_c (by omega), w64_eq (by omega) (by omega)]
  simp only [Option.bind_some]
  rcases k with k | k | k <;> (simp only [k, Int.reduceBEq, cond_true, cond_false]; rw [ixL_ok h2.1 h2.2]; rfl)
theorem eff_ten [Fuel] (h : VC c) (hv : VS c s) (t : tOk c e) (k : 1 ≤ e.Kind ∧ e.Kind ≤ 8) : state_effect s e = (state_onTenant s.Tenants e.Tenant.toNat e).bind fun x => some { bump s e with Tenants := x } := by
  have h1 := tlen hv t
  have htl := hv.tl; have hcl := hv.cl; have a1 := h.tl; have a2 := h.cl; have hcnt := hv.cnt
  have n : ∀ q : Int, 9 ≤ q → (e.Kind == q) = false := fun q hq => by simp; omega
  unfold state_effect state_effect_k2 state_effect_k1
  rw [clone_t (by omega), clone_c (by omega), w64_eq (by omega) (by omega)]
  simp only [Option.bind_some, n 9 (by omega), n 10 (by omega), n 11 (by omega), n 12 (by omega), n 13 (by omega), n 14 (by omega), n 15 (by omega), n 16 (by omega), cond_false]
  rw [ixL_ok h1.1 h1.2]; rfl
theorem eff_misc [Fuel] (h : VC c) (hv : VS c s) : (e.Kind = 12 → 0 ≤ e.N → state_effect s e = some { bump s e with Proven := orK .i64 s.Proven (shlK .i64 1 e.N) }) ∧
    (e.Kind = 13 → 0 ≤ e.Other → state_effect s e = some { bump s e with Evacuating := bif e.N == 1 then orK .i64 s.Evacuating (shlK .i64 1 e.Other) else andNotK .i64 s.Evacuating (shlK .i64 1 e.Other) }) ∧
    (e.Kind = 14 → state_effect s e = some { bump s e with High := s.High + 1 }) ∧ (e.Kind = 15 → state_effect s e = some { bump s e with Low := s.High }) ∧ (e.Kind = 16 → state_effect s e = some (bump s e)) := by
  have htl := hv.tl; have hcl := hv.cl; have a1 := h.tl; have a2 := h.cl; have hcnt := hv.cnt; have hlh := hv.lh
  unfold state_effect state_effect_k2 state_effect_k1
  rw [clone_t (by omega), clone_c (by omega), w64_eq (x := s.Count + 1) (by omega) (by omega)]
  have wh : w64 (s.High + 1) = s.High + 1 := w64_eq (by omega) (by omega)
  simp only [Option.bind_some, wh]
  refine ⟨fun k hn => ?_, fun k hn => ?_, fun k => ?_, fun k => ?_, fun k => ?_⟩
  · simp only [k, Int.reduceBEq, cond_true, cond_false]; rw [chkD_ok hn]; rfl
  · simp only [k, Int.reduceBEq, cond_true, cond_false]; rw [chkD_ok hn, chkD_ok hn]; cases (e.N == 1) <;> rfl
  · simp only [k, Int.reduceBEq, cond_true, cond_false]; rfl
  · simp only [k, Int.reduceBEq, cond_true, cond_false]; rfl
  · simp only [k, Int.reduceBEq, cond_true, cond_false]; rfl
theorem refused_eq [Fuel] (h : VC c) (hv : VS c s) (hb : validB c e = true) (h4 : s.Count < 4096) (h5 : s.Tick ≤ e.Tick) : state_refused c s e = state_refused_k1 c s e false := by
  unfold state_refused
  rw [entry_valid h, hb]
  have e1 : (((s.Tenants.length : Nat) : Int) != ((c.Tenants.length : Nat) : Int)) = false := by rw [hv.tl]; simp
  have e2 : (((s.Cells.length : Nat) : Int) != ((c.Cells.length : Nat) : Int)) = false := by rw [hv.cl]; simp
  rw [e1, e2]; rfl
theorem setlen [Fuel] {x : ApiTenantState} (hv : VS c s) {i : Int} : (setT (bump s e) i x).Tenants.length = c.Tenants.length := by
  show (s.Tenants.set i.toNat x).length = _
  rw [List.length_set]; exact hv.tl
theorem state_apply [Fuel] (h : VC c) (hI : Inv c s) : state_Apply c s e = some (applyS c s e) := by
  have hv := hI.vs
  have hcnt := hv.cnt
  cases hb : validB c e with
  | false =>
    have hr : state_refused c s e = some 1 := by
      unfold state_refused state_refused_k1
      rw [entry_valid h, hb]; rfl
    rw [apply_tail, hr]
    unfold applyS
    rw [hb]; rfl
  | true =>
    have hV := ((valid_eq (e := e) h).2).1 hb
    by_cases h4 : 4096 ≤ s.Count
    · have hr : state_refused c s e = some 2 := by
        unfold state_refused
        rw [entry_valid h, hb]
        have e1 : (((s.Tenants.length : Nat) : Int) != ((c.Tenants.length : Nat) : Int)) = false := by rw [hv.tl]; simp
        have e2 : (((s.Cells.length : Nat) : Int) != ((c.Cells.length : Nat) : Int)) = false := by rw [hv.cl]; simp
        rw [e1, e2]
        unfold state_refused_k1
        simp only [Option.bind_some, Bool.not_true, cond_false]
        rw [condT h4]
      rw [apply_tail, hr]
      unfold applyS
      rw [hb, decide_eq_true h4]; rfl
    · by_cases h5 : e.Tick < s.Tick
      · have hr : state_refused c s e = some 3 := by
          unfold state_refused
          rw [entry_valid h, hb]
          have e1 : (((s.Tenants.length : Nat) : Int) != ((c.Tenants.length : Nat) : Int)) = false := by rw [hv.tl]; simp
          have e2 : (((s.Cells.length : Nat) : Int) != ((c.Cells.length : Nat) : Int)) = false := by rw [hv.cl]; simp
          rw [e1, e2]
          unfold state_refused_k1
          simp only [Option.bind_some, Bool.not_true, cond_false]
          rw [condF h4, condT h5]
        rw [apply_tail, hr]
        unfold applyS
        rw [hb, decide_eq_false h4, decide_eq_true h5]; rfl
      · have hA : applyS c s e = kindS c (bump s e) e := by
          unfold applyS
          rw [hb, decide_eq_false h4, decide_eq_false h5]; rfl
        have hR := refused_eq h hv hb (by omega) (by omega)
        have hkk : state_refused_k1 c s e false = (bif (e.Kind == 1) then ((state_place c s e).bind fun x2 => (some x2)) else (bif (e.Kind == 4) then ((state_standby c s e).bind fun x3 => (some x3))
            else (bif (e.Kind == 5) then ((state_ready s e).bind fun x4 => (some x4)) else (bif (e.Kind == 6) then ((state_migrate c s e).bind fun x5 => (some x5)) else (bif (e.Kind == 7) then ((state_abandon s e).bind fun x6 => (some x6))
            else (bif (e.Kind == 8) then ((state_shed s e).bind fun x7 => (some x7)) else (bif (e.Kind == 2) then ((state_grant c s e).bind fun x8 => (some x8)) else (bif (e.Kind == 3) then ((state_cut s e).bind fun x9 => (some x9))
            else (bif (e.Kind == 9) then ((state_mode s e).bind fun x10 => (some x10)) else (bif (e.Kind == 10) then ((state_want c s e).bind fun x11 => (some x11)) else (bif (e.Kind == 11) then ((state_runs s e).bind fun x12 => (some x12))
            else (bif (e.Kind == 12) then ((state_prove c s e).bind fun x13 => (some x13)) else (bif (e.Kind == 13) then ((state_evacuate s e).bind fun x14 => (some x14)) else (bif (e.Kind == 14) then ((state_expand c s).bind fun x15 => (some x15))
            else (bif (e.Kind == 15) then ((state_contract s).bind fun x16 => (some x16)) else (some 0)))))))))))))))) := by
          unfold state_refused_k1
          rw [cond_false, condF h4, condF h5]
        rw [hkk] at hR
        have bs : ∀ {m : Option Int} {P : Int → Prop}, Ok m P → ∃ x, (m.bind fun y => some y) = some x ∧ P x := by
          rintro m P ⟨x, rfl, hx⟩; exact ⟨x, rfl, hx⟩
        unfold kindS at hA
        have hn : ∀ (t : tOk c e), e.Tenant.toNat < s.Tenants.length := fun t => by have := tlen hv t; omega
        have hc : ∀ (t : cOk c e), e.Cell.toNat < s.Cells.length := fun t => by have := clen hv t; omega
        cases hV.2 with
        | place k t ce o w n =>
          simp only [k, Int.reduceBEq, cond_true, cond_false] at hR hA
          obtain ⟨x, x1, x2⟩ := bs (place_p h hv t ce ⟨o.1, o.2.1⟩)
          refine apply_fin (by rw [hR, x1]) (by rw [hA, x2]) (tail_fit h ?_ ?_ (setlen hv))
          · rw [eff_ten h hv t (by omega)]
            unfold state_onTenant
            simp only [k, Int.reduceBEq, cond_true, cond_false, letD, getD_set (hn t), List.set_set, Option.bind_some, List.length_set]
            rfl
          · unfold state_books state_books_k1; simp only [k, Int.reduceBEq, cond_true, cond_false]
        | grant k t ce o ep w n =>
          simp only [k, Int.reduceBEq, cond_true, cond_false] at hR hA
          obtain ⟨x, x1, x2⟩ := bs (grant_p h hv t ce hV.1 w)
          by_cases hx : x = 0
          · subst hx
            refine apply_fin (x := 0) (by rw [hR, x1]) (by rw [hA, x2]) (tail_fit h ?_ ?_ (setlen hv))
            · rw [eff_ten h hv t (by omega)]
              unfold state_onTenant state_granted
              have hcl : e.Cell = (tAt s e.Tenant).Home ∨ e.Cell = (tAt s e.Tenant).Standby ∨ e.Cell = (tAt s e.Tenant).Target := by
                have hb2 : ((((e.Cell != (tAt s e.Tenant).Home) && (e.Cell != (tAt s e.Tenant).Standby)) && (e.Cell != (tAt s e.Tenant).Target))) = false := by
                  cases hq : (((e.Cell != (tAt s e.Tenant).Home) && (e.Cell != (tAt s e.Tenant).Standby)) && (e.Cell != (tAt s e.Tenant).Target)) with
                  | false => rfl
                  | true =>
                    exfalso
                    have hgs : ∃ k : Int, k ≠ 0 ∧ state_grant c s e = some k := by
                      have h1 := tlen hv t
                      have h2 := clen hv ce
                      unfold state_grant state_grant_k5
                      have hg : (s.Tenants.getD e.Tenant.toNat default) = tAt s e.Tenant := rfl
                      rw [ixL_ok h1.1 h1.2, ixL_ok h2.1 h2.2, hg]
                      have hq2 : (((!(e.Cell == (tAt s e.Tenant).Home)) && (e.Cell != (tAt s e.Tenant).Standby)) && (e.Cell != (tAt s e.Tenant).Target)) = true := hq
                      rw [hq2]
                      cases (tAt s e.Tenant).Placed with
                      | false => exact ⟨4, by decide, rfl⟩
                      | true => cases ((tAt s e.Tenant).Shed && (e.Cell != (tAt s e.Tenant).Standby)) with
                        | true => exact ⟨4, by decide, rfl⟩
                        | false => exact ⟨5, by decide, rfl⟩
                    obtain ⟨k', k1, k2⟩ := hgs
                    rw [k2] at x1
                    exact k1 (Option.some.inj x1)
                rcases Decidable.em (e.Cell = (tAt s e.Tenant).Home) with q | q
                · exact .inl q
                · rcases Decidable.em (e.Cell = (tAt s e.Tenant).Standby) with q2 | q2
                  · exact .inr (.inl q2)
                  · refine .inr (.inr ?_)
                    have a1 : (e.Cell != (tAt s e.Tenant).Home) = true := by simpa using q
                    have a2 : (e.Cell != (tAt s e.Tenant).Standby) = true := by simpa using q2
                    rw [a1, a2] at hb2
                    simpa using hb2
              simp only [k, Int.reduceBEq, cond_true, cond_false, letD, getD_set (hn t), List.set_set, List.length_set]
              have hg : (s.Tenants.getD e.Tenant.toNat default) = tAt s e.Tenant := rfl
              rw [hg]
              unfold afterGrant
              dsimp only
              rcases Decidable.em (e.Cell = (tAt s e.Tenant).Home) with q | q
              · have a1 : (e.Cell == (tAt s e.Tenant).Home) = true := by simpa using q
                rw [a1]; rfl
              · have a1 : (e.Cell == (tAt s e.Tenant).Home) = false := by simpa using q
                rw [a1]
                rcases Decidable.em (e.Cell = (tAt s e.Tenant).Standby) with q2 | q2
                · have a2 : (e.Cell == (tAt s e.Tenant).Standby) = true := by simpa using q2
                  rw [a2]; rfl
                · have a2 : (e.Cell == (tAt s e.Tenant).Standby) = false := by simpa using q2
                  have a3 : (e.Cell == (tAt s e.Tenant).Target) = true := by
                    rcases hcl with z | z | z
                    · exact absurd z q
                    · exact absurd z q2
                    · simpa using z
                  rw [a2, a3]; rfl
            · unfold state_books state_books_k1; simp only [k, Int.reduceBEq, cond_true, cond_false]
          · have hx' : (x != 0) = true := by simpa using hx
            rw [apply_tail, hR, x1, hA, x2]
            unfold outS
            rw [Option.bind_some, hx']; rfl
        | cut k t ce o ep w n =>
          simp only [k, Int.reduceBEq, cond_true, cond_false] at hR hA
          obtain ⟨x, x1, x2⟩ := bs (cut_p hv t)
          refine apply_fin (by rw [hR, x1]) (by rw [hA, x2]) (tail_ok ?_ ?_)
          · have hk := hV.1
            rw [eff_ten h hv t (by omega)]
            unfold state_onTenant
            rw [w64_eq (x := e.Tick + 1) (by omega) (by omega)]
            simp only [k, Int.reduceBEq, cond_true, cond_false, letD, getD_set (hn t), List.set_set, Option.bind_some, List.length_set]
            rfl
          · unfold state_books state_books_k1; simp only [k, Int.reduceBEq, cond_true, cond_false]
        | standby k t ce o w n =>
          simp only [k, Int.reduceBEq, cond_true, cond_false] at hR hA
          obtain ⟨x, x1, x2⟩ := bs (standby_p h hI t ce (by omega))
          refine apply_fin (by rw [hR, x1]) (by rw [hA, x2]) ?_
          have hE : state_effect s e = some (setT (bump s e) e.Tenant { tAt s e.Tenant with Next := e.Cell }) := by
            rw [eff_ten h hv t (by omega)]
            unfold state_onTenant
            simp only [k, Int.reduceBEq, cond_true, cond_false, letD, getD_set (hn t), List.set_set, Option.bind_some, List.length_set]
            rfl
          by_cases hc : e.Cell < 0
          · rw [condT hc]
            refine tail_ok hE ?_
            have : e.Cell = -1 := by omega
            unfold state_books state_books_k1; simp only [k, this, Int.reduceBEq, Int.reduceBNe, cond_true, cond_false]
          · rw [condF hc]
            refine tail_fit h hE ?_ (setlen hv)
            have : (e.Cell != (-1)) = true := by rw [ne_neg ce.1]; exact decide_eq_true (by omega)
            unfold state_books state_books_k1; simp only [k, this, Int.reduceBEq, cond_true, cond_false]
        | ready k t ce o w n =>
          simp only [k, Int.reduceBEq, cond_true, cond_false] at hR hA
          obtain ⟨x, x1, x2⟩ := bs (ready_p h hv t ce)
          refine apply_fin (by rw [hR, x1]) (by rw [hA, x2]) (tail_ok ?_ ?_)
          · rw [eff_ten h hv t (by omega)]
            unfold state_onTenant
            simp only [k, Int.reduceBEq, cond_true, cond_false, letD, getD_set (hn t), List.set_set, Option.bind_some, List.length_set]
            rfl
          · unfold state_books state_books_k1; simp only [k, Int.reduceBEq, cond_true, cond_false]
        | migrate k t ce o w n =>
          simp only [k, Int.reduceBEq, cond_true, cond_false] at hR hA
          obtain ⟨x, x1, x2⟩ := bs (migrate_p h hv t ce)
          refine apply_fin (by rw [hR, x1]) (by rw [hA, x2]) (tail_fit h ?_ ?_ (setlen hv))
          · rw [eff_ten h hv t (by omega)]
            unfold state_onTenant
            simp only [k, Int.reduceBEq, cond_true, cond_false, letD, getD_set (hn t), List.set_set, Option.bind_some, List.length_set]
            rfl
          · unfold state_books state_books_k1; simp only [k, Int.reduceBEq, cond_true, cond_false]
        | abandon k t ce o w n =>
          simp only [k, Int.reduceBEq, cond_true, cond_false] at hR hA
          obtain ⟨x, x1, x2⟩ := bs (abandon_p hv t)
          refine apply_fin (by rw [hR, x1]) (by rw [hA, x2]) (tail_ok ?_ ?_)
          · rw [eff_ten h hv t (by omega)]
            unfold state_onTenant
            simp only [k, Int.reduceBEq, cond_true, cond_false, letD, getD_set (hn t), List.set_set, Option.bind_some, List.length_set]
            rfl
          · unfold state_books state_books_k1; simp only [k, Int.reduceBEq, cond_true, cond_false]
        | shed k t ce o w n =>
          simp only [k, Int.reduceBEq, cond_true, cond_false] at hR hA
          obtain ⟨x, x1, x2⟩ := bs (shed_p h hv t n)
          refine apply_fin (by rw [hR, x1]) (by rw [hA, x2]) ?_
          rcases n with n | n
          · rw [n]
            simp only [Int.reduceBEq, cond_false]
            refine tail_fit h ?_ ?_ (setlen hv)
            · rw [eff_ten h hv t (by omega)]
              unfold state_onTenant
              simp only [k, n, Int.reduceBEq, cond_true, cond_false, letD, getD_set (hn t), List.set_set, Option.bind_some, List.length_set]
              rfl
            · unfold state_books state_books_k1; simp only [k, n, Int.reduceBEq, cond_true, cond_false]
          · rw [n]
            simp only [Int.reduceBEq, cond_true]
            refine tail_ok ?_ ?_
            · rw [eff_ten h hv t (by omega)]
              unfold state_onTenant
              simp only [k, n, Int.reduceBEq, cond_true, cond_false, letD, getD_set (hn t), List.set_set, Option.bind_some, List.length_set]
              rfl
            · unfold state_books state_books_k1; simp only [k, n, Int.reduceBEq, cond_true, cond_false]
        | mode k t ce o w n =>
          simp only [k, Int.reduceBEq, cond_true, cond_false] at hR hA
          obtain ⟨x, x1, x2⟩ := bs (mode_p hv ce)
          refine apply_fin (by rw [hR, x1]) (by rw [hA, x2]) (tail_ok ?_ ?_)
          · rw [eff_cell h hv ce (by omega)]
            unfold state_onCell
            simp only [k, Int.reduceBEq, cond_true, cond_false, letD, getD_set (hc ce), List.set_set, Option.bind_some, List.length_set]
            rfl
          · unfold state_books state_books_k1; simp only [k, Int.reduceBEq, cond_true, cond_false]
        | want k t ce o w n =>
          simp only [k, Int.reduceBEq, cond_true, cond_false] at hR hA
          obtain ⟨x, x1, x2⟩ := bs (want_p h hv ce n)
          refine apply_fin (by rw [hR, x1]) (by rw [hA, x2]) (tail_ok ?_ ?_)
          · rw [eff_cell h hv ce (by omega)]
            unfold state_onCell
            simp only [k, Int.reduceBEq, cond_true, cond_false, letD, getD_set (hc ce), List.set_set, Option.bind_some, List.length_set]
            rfl
          · unfold state_books state_books_k1; simp only [k, Int.reduceBEq, cond_true, cond_false]
        | runs k t ce o w n =>
          simp only [k, Int.reduceBEq, cond_true, cond_false] at hR hA
          obtain ⟨x, x1, x2⟩ := bs (runs_p h hv ce n)
          refine apply_fin (by rw [hR, x1]) (by rw [hA, x2]) (tail_ok ?_ ?_)
          · rw [eff_cell h hv ce (by omega)]
            unfold state_onCell
            simp only [k, Int.reduceBEq, cond_true, cond_false, letD, getD_set (hc ce), List.set_set, Option.bind_some, List.length_set]
            rfl
          · unfold state_books state_books_k1; simp only [k, Int.reduceBEq, cond_true, cond_false]
        | prove k t ce o w n =>
          simp only [k, Int.reduceBEq, cond_true, cond_false] at hR hA
          obtain ⟨x, x1, x2⟩ := bs (prove_p h hv hV.1)
          unfold vOk at n
          have hvl := h.vl
          refine apply_fin (by rw [hR, x1]) (by rw [hA, x2]) (tail_ok ?_ ?_)
          · rw [(eff_misc h hv).1 k n.1, u64_eq n.1 (by omega)]
          · unfold state_books state_books_k1; simp only [k, Int.reduceBEq, cond_true, cond_false]
        | evac k t ce o w n =>
          simp only [k, Int.reduceBEq, cond_true, cond_false] at hR hA
          obtain ⟨x, x1, x2⟩ := bs (evac_p (e := e) hv)
          have hreg := h.reg
          have hev := hv.evac
          obtain ⟨q1, q2⟩ := evac_bits (a := s.Evacuating) (n := e.Other) (by omega) (by omega)
          have hbk : state_books e = some false := by unfold state_books state_books_k1; simp only [k, Int.reduceBEq, cond_true, cond_false]
          by_cases hx : x = 0
          · subst hx
            refine apply_fin (x := 0) (by rw [hR, x1]) (by rw [hA, x2]) (tail_ok ?_ hbk)
            rw [(eff_misc h hv).2.1 k o.1]
            have hs : hasB s.Evacuating e.Other ≠ (e.N == 1) := by
              intro hq
              have : state_evacuate s e = some 4 := by
                unfold state_evacuate
                rw [st_has (by omega), Option.bind_some, hq]; simp
              rw [this] at x1; cases x1
            cases hq : (e.N == 1) with
            | true =>
              rw [hq] at hs
              have : hasB s.Evacuating e.Other = false := by simpa using hs
              rw [cond_true, q1 this]
            | false =>
              rw [hq] at hs
              have : hasB s.Evacuating e.Other = true := by simpa using hs
              rw [cond_false, q2 this]
          · have hx' : (x != 0) = true := by simpa using hx
            rw [apply_tail, hR, x1, hA, x2]
            unfold outS
            rw [Option.bind_some, hx']; rfl
        | expand k t ce o w n =>
          simp only [k, Int.reduceBEq, cond_true, cond_false] at hR hA
          obtain ⟨x, x1, x2⟩ := bs (expand_p (e := e) h hv)
          refine apply_fin (by rw [hR, x1]) (by rw [hA, x2]) (tail_ok ((eff_misc h hv).2.2.1 k) ?_)
          unfold state_books state_books_k1; simp only [k, Int.reduceBEq, cond_true, cond_false]
        | contract k t ce o w n =>
          simp only [k, Int.reduceBEq, cond_true, cond_false] at hR hA
          obtain ⟨x, x1, x2⟩ := bs (contract_p (s := s) (e := e))
          refine apply_fin (by rw [hR, x1]) (by rw [hA, x2]) (tail_ok ((eff_misc h hv).2.2.2.1 k) ?_)
          unfold state_books state_books_k1; simp only [k, Int.reduceBEq, cond_true, cond_false]
        | note k t ce o w n =>
          simp only [k, Int.reduceBEq, cond_true, cond_false] at hR hA
          refine apply_fin (x := 0) (R := (bump s e, 0)) hR (by rw [hA]; rfl) (tail_ok ((eff_misc h hv).2.2.2.2 k) ?_)
          unfold state_books state_books_k1; simp only [k, Int.reduceBEq, cond_true, cond_false]
end
end Go.CP
namespace Go.CP
open Go
set_option linter.unusedSimpArgs false
set_option linter.unusedVariables false
section
variable {c : ApiConfig}
theorem repl_set [Fuel] {α : Type} (a b : α) {n k : Nat} (hk : k < n) : (List.replicate k a ++ List.replicate (n - k) b).set k a = List.replicate (k + 1) a ++ List.replicate (n - (k + 1)) b := by
  apply List.ext_getElem?
  intro j
  rw [List.getElem?_set]
  simp only [List.getElem?_append, List.length_replicate, List.getElem?_replicate, List.length_append]
  repeat' split
  all_goals first | rfl | (exfalso; omega)
theorem repl_at [Fuel] {α : Type} [Inhabited α] (a b : α) {n k : Nat} (hk : k < n) : (List.replicate k a ++ List.replicate (n - k) b).getD k default = b := by
  rw [List.getD_eq_getElem?_getD, List.getElem?_append_right (by simp), List.length_replicate, Nat.sub_self, List.getElem?_replicate, if_pos (by omega)]; rfl
theorem state_new [Fuel] (hc : VC c) : state_New c = some (newS c) := by
  have hct := hc.tl
  have hcl := hc.cl
  unfold state_New
  rw [chkD_ok (by omega), chkD_ok (by omega)]
  simp only [Int.toNat_natCast, List.length_replicate]
  apply eqOk
  refine loop0 (L := fun m x i => state_New_l2 ((c.Tenants.length : Nat) : Int) m x i) c.Tenants.length (by omega) (fun k x => x = { newS c with Tenants := List.replicate k t0S ++ List.replicate (c.Tenants.length - k) default, Cells := List.replicate c.Cells.length default }) (by simp [newS]) ?_ ?_
  · rintro m k x hk rfl ih
    show Ok (state_New_l2 _ (m + 1) _ k) _
    rw [state_New_l2, condT (by omega), ixL_ok (by omega) (by simp; omega), Int.toNat_natCast, w64_eq (by omega) (by omega)]
    unfold letD
    refine ih _ ?_
    have := repl_set t0S (default : ApiTenantState) hk
    simp only
    rw [← this]; rfl
  · rintro m x rfl
    show Ok (state_New_l2 _ (m + 1) _ _) _
    rw [state_New_l2, condF (by omega)]
    simp only [List.length_replicate, Nat.sub_self, List.replicate_zero, List.append_nil]
    refine loop0 (L := fun m x i => state_New_l1 ((c.Cells.length : Nat) : Int) m x i) c.Cells.length (by omega) (fun k x => x = { newS c with Cells := List.replicate k c0S ++ List.replicate (c.Cells.length - k) default }) (by simp [newS]) ?_ ?_
    · rintro m k x hk rfl ih
      show Ok (state_New_l1 _ (m + 1) _ k) _
      rw [state_New_l1, condT (by omega), ixL_ok (by omega) (by simp; omega), Int.toNat_natCast, w64_eq (by omega) (by omega)]
      unfold letD
      refine ih _ ?_
      have := repl_set c0S (default : ApiCellState) hk
      simp only
      rw [repl_at _ _ hk, ← this]; rfl
    · rintro m x rfl
      show Ok (state_New_l1 _ (m + 1) _ _) _
      rw [state_New_l1, condF (by omega)]
      refine Ok.some ?_
      simp [newS]
end
end Go.CP
namespace Go.CP
open Go
set_option linter.unusedSimpArgs false
set_option linter.unusedVariables false
section
variable {c : ApiConfig} {s : ApiState}
theorem state2_ok [Fuel] (h : VC c) {l : List Int} (hl : Lst l) {n : Nat} (hn : n ≤ 1000) : Ok (make_State l c (n : Int)) (fun s => ∃ out, RL c s out n) := by
  unfold make_State
  refine Ok.bind (log2_ok h hl hn) (fun r hr => ?_)
  obtain ⟨s', hr⟩ := hr
  have hlen := hr.len
  rw [fold_eq h (by omega) hr.ok, Option.bind_some]
  exact Ok.some ⟨r, by rw [hr.run]; exact hr⟩
end
end Go.CP
namespace Go.CP
open Go
set_option linter.unusedSimpArgs false
set_option linter.unusedVariables false
section
variable {c : ApiConfig} {s : ApiState} {ts : List ApiTenantState}
theorem RS.ni [Fuel] (h : VC c) (hr : RS c s) : NI s := by
  obtain ⟨o, q⟩ := hr
  rw [← q.run]; exact run_ni h o _ (inv_new h) ni_new q.ok
theorem worlds34 [Fuel] {p1 p2 : List Int} {p3 : Bool} (h1 : Lst p1) (h2 : Lst p2) : Ok (law34_worlds p1 p2 p3) (fun r => VC r.1 ∧ RS r.1 r.2) := by
  unfold law34_worlds
  have hl := h1.2
  refine Ok.cond (fun _ => ?_) (fun _ => ?_)
  · refine Ok.bind (packed_ok h1.1 (by omega)) (fun r hr => Ok.some ⟨hr.1.vc, r.2.1, hr.2⟩)
  · refine Ok.bind (config_ok h1) (fun c hc => ?_)
    refine Ok.bind (state2_ok (n := 40) hc h2 (by omega)) (fun s hs => ?_)
    obtain ⟨o, hs⟩ := hs
    exact Ok.some ⟨hc, o, hs.up (by omega)⟩
theorem after_ok [Fuel] (hc : VC c) (hv : VS c s) {st : List ApiStep} (hl : st.length ≤ 100000) (ht : thrP c s s.Tenants st) : evacplan_After c s st = some (bkS c s (rnT c s s.Tenants st), true) := by
  unfold evacplan_After
  rw [begin_p hc hv, Option.bind_some]
  apply eqOk
  refine loop0 (L := fun m p i => evacplan_After_l1 st ((st.length : Nat) : Int) m p i) st.length (by omega) (fun k p => ∃ ts', p = sit c s ts' ∧ GS c ts' ∧ thrP c s ts' (st.drop k) ∧ rnT c s ts' (st.drop k) = rnT c s s.Tenants st) ⟨s.Tenants, rfl, hv.gs, ht, rfl⟩ ?_ ?_
  · rintro m k p hk ⟨ts', rfl, hg', h1, h2⟩ ih
    show Ok (evacplan_After_l1 st _ (m + 1) _ k) _
    have ed : st.drop k = st.getD k default :: st.drop (k + 1) := by rw [List.drop_eq_getElem_cons hk]; simp [List.getD_eq_getElem?_getD, hk]
    rw [ed] at h1 h2
    rw [thr_rn h1.1] at h2
    rw [evacplan_After_l1, condT (by omega), ixL_ok (by omega) (by omega), Int.toNat_natCast, take_p hc hv hg', Option.bind_some, h1.1, w64_eq (by omega) (by omega)]
    exact ih _ ⟨_, rfl, tk_gs hg' h1.1, h1.2, h2⟩
  · rintro m p ⟨ts', rfl, hg', h1, h2⟩
    show Ok (evacplan_After_l1 st _ (m + 1) _ _) _
    rw [List.drop_length, rnT] at h2
    rw [evacplan_After_l1, condF (by omega), ← h2]
    exact Ok.some rfl
theorem awake34 [Fuel] : law34_awake = some true := by
  apply okT
  unfold law34_awake
  refine Ok.bind (config_ok (l := [3, 1, 4]) ⟨fun x hx => by simp at hx; rcases hx with rfl | rfl | rfl <;> exact ⟨by decide, by decide⟩, by decide⟩) (fun c hc => ?_)
  rw [state_new hc, Option.bind_some]
  unfold law34_awake_k1
  have hv := new_vs hc
  have hreg := hc.reg
  have hcand : candS c (newS c) 0 = [] := by
    rw [List.eq_nil_iff_forall_not_mem]
    intro i hi
    obtain ⟨h1, h2⟩ := (cand_mem hc).1 hi
    have e : tAt (newS c) i = t0S := by
      unfold tAt newS
      simp only
      rw [List.getD_eq_getElem?_getD, List.getElem?_replicate, if_pos (by omega)]; rfl
    unfold candB at h2
    rw [e] at h2
    cases h2
  rw [make_p hc hv ⟨by omega, by omega⟩, Option.bind_some, make_bad (by omega), Option.bind_some, after_ok (st := []) hc hv (by simp) trivial, Option.bind_some]
  refine Ok.some ?_
  have em : mkS c (newS c) 0 = ((newS c).Tenants, [], []) := by unfold mkS; rw [hcand]; rfl
  rw [em]
  simp only [rnT, bk_len]
  simp
theorem light34 [Fuel] {p1 p2 : List Int} (q : ((!decide (((p1.length : Nat) : Int) ≤ 150)) || !(bif !(!decide (((p1.length : Nat) : Int) ≤ 150)) then decide (((p2.length : Nat) : Int) ≤ 150) else default)) = false) : p1.length ≤ 150 ∧ p2.length ≤ 150 := by
  by_cases w1 : p1.length ≤ 150
  · by_cases w2 : p2.length ≤ 150
    · exact ⟨w1, w2⟩
    · rw [decide_eq_true (show ((p1.length : Nat) : Int) ≤ 150 by omega), decide_eq_false (show ¬ ((p2.length : Nat) : Int) ≤ 150 by omega)] at q; cases q
  · rw [decide_eq_false (show ¬ ((p1.length : Nat) : Int) ≤ 150 by omega)] at q; cases q
end
end Go.CP
namespace Go.CP
open Go
set_option linter.unusedSimpArgs false
set_option linter.unusedVariables false
section
variable {c : ApiConfig} {s : ApiState} {ts : List ApiTenantState}
theorem gD_l [Fuel] {α : Type} [Inhabited α] {a b : List α} {n : Nat} (h : n < a.length) : (a ++ b).getD n default = a.getD n default := by
  rw [List.getD_eq_getElem?_getD, List.getD_eq_getElem?_getD, List.getElem?_append_left h]
theorem gD_r [Fuel] {α : Type} [Inhabited α] {a b : List α} {n : Nat} : (a ++ b).getD (a.length + n) default = b.getD n default := by
  rw [List.getD_eq_getElem?_getD, List.getD_eq_getElem?_getD, List.getElem?_append_right (Nat.le_add_right _ _), Nat.add_sub_cancel_left]
theorem gD_map [Fuel] {α β : Type} [Inhabited α] [Inhabited β] {f : α → β} {l : List α} {n : Nat} (h : n < l.length) : (l.map f).getD n default = f (l.getD n default) := by
  simp [List.getD_eq_getElem?_getD, h]
structure PRk (c : ApiConfig) (s : ApiState) (st : List ApiStep) (a k : Nat) : Prop where
  lt : a < k ∧ k < st.length
  sh : ∀ j, a ≤ j → j < k → (st.getD j default).Kind = 1
  mv : (st.getD k default).Kind ≠ 1
  cell : (st.getD k default).Cell = (st.getD a default).Cell
  rng : 0 ≤ (st.getD a default).Cell ∧ (st.getD a default).Cell < ((c.Cells.length : Nat) : Int)
  t1 : 0 ≤ (st.getD a default).Tenant ∧ (st.getD a default).Tenant < ((c.Tenants.length : Nat) : Int)
  t2 : 0 ≤ (st.getD k default).Tenant ∧ (st.getD k default).Tenant < ((c.Tenants.length : Nat) : Int)
  pr : (tn c (st.getD a default).Tenant).Priority < (tn c (st.getD k default).Tenant).Priority
  thr : thrP c s s.Tenants (st.take (k - 1) ++ [st.getD k default])
  ov : (c.Cells.getD (st.getD a default).Cell.toNat default).Capacity < (bkS c s (rnT c s s.Tenants (st.take (k - 1) ++ [st.getD k default]))).getD (st.getD a default).Cell.toNat 0
structure RunOk (c : ApiConfig) (s : ApiState) (st : List ApiStep) (mv : List Int) (ts : List ApiTenantState) : Prop where
  thr : thrP c s s.Tenants st
  en : rnT c s s.Tenants st = ts
  gs : GS c ts
  pi : PI ts
  cap : ∀ n, n ≤ st.length → capOk c s (rnT c s s.Tenants (st.take n))
  mvd : (st.filter (fun x => x.Kind == 2)).map (·.Tenant) = mv
  pr : ∀ a, a < st.length → (st.getD a default).Kind = 1 → ∃ k, PRk c s st a k
  kd : ∀ x ∈ st, x.Kind = 1 ∨ x.Kind = 2
theorem filt_sh [Fuel] (k : Int) : ∀ ys : List Int, (ys.map (shSt k)).filter (fun x => x.Kind == 2) = []
  | [] => rfl
  | y :: r => by
    rw [List.map_cons, List.filter_cons, filt_sh k r]; rfl
theorem run_ok [Fuel] (hc : VC c) (hI : Inv c s) (hN : NI s) {st : List ApiStep} {mv : List Int} (hr : Run c s s.Tenants st mv ts) : RunOk c s st mv ts := by
  induction hr with
  | nil =>
    refine ⟨trivial, rfl, hI.vs.gs, pi_inv hc hI hN, fun n hn => ?_, rfl, fun a ha => absurd ha (Nat.not_lt_zero _), fun x hx => absurd hx List.not_mem_nil⟩
    have : n = 0 := by simpa using hn
    subst this
    intro j hj
    show (bkS c s s.Tenants).getD j 0 ≤ _
    rw [bk_get hj]
    exact over_nil.1 hI.ov j hj
  | @snoc st mv ts i h hi hn ih =>
    obtain ⟨ys, G⟩ := grp hc ih.gs hn
    generalize hk : (ts.getD i.toNat default).Standby = k at G
    have hlen := ih.gs.len
    have hkr := us_rng G.us
    have hst := G.st
    obtain ⟨m1, m2, m3⟩ := shed_move hc ih.gs ih.pi hi G.sb G.act G.us G.nd G.y
    rw [hst]
    have hcap0 : capOk c s ts := by
      have := ih.cap st.length (Nat.le_refl _)
      rw [List.take_length, ih.en] at this; exact this
    have hgl : (ys.map (shSt k) ++ [mvSt k i]).length = ys.length + 1 := by simp
    refine ⟨(thr_app _ _ _).2 ⟨ih.thr, by rw [ih.en]; exact m1⟩, by rw [rn_app, ih.en], rn_gs _ ih.gs, rn_pi _ m1 ih.pi, fun n hn => ?_, ?_, fun a ha hka => ?_, fun x hx => ?_⟩
    · by_cases h1 : n ≤ st.length
      · rw [List.take_append_of_le_length h1]; exact ih.cap n h1
      · have e : (st ++ (ys.map (shSt k) ++ [mvSt k i])).take n = st ++ (ys.map (shSt k) ++ [mvSt k i]).take (n - st.length) := by
          rw [List.take_append, List.take_of_length_le (by omega)]
        rw [List.length_append, hgl] at hn
        rw [e, rn_app, ih.en]
        by_cases h2 : n - st.length ≤ ys.length
        · rw [List.take_append_of_le_length (by rw [List.length_map]; exact h2), ← List.map_take]
          obtain ⟨_, _, s3, _⟩ := shed_all (s := s) hc hkr (ys.take (n - st.length)) ih.gs ih.pi (G.nd.sublist (List.take_sublist _ _)) (fun y hy => by obtain ⟨q1, q2, q3, _⟩ := G.y y (List.mem_of_mem_take hy); exact ⟨q1, q2, q3⟩)
          intro j hj
          exact Int.le_trans (s3 j hj) (hcap0 j hj)
        · rw [List.take_of_length_le (by rw [hgl]; omega)]
          intro j hj
          by_cases hjk : (j : Int) = k
          · have : j = k.toNat := by omega
            subst this
            rw [m2]
            have := G.enough
            omega
          · exact Int.le_trans (m3 j hj hjk) (hcap0 j hj)
    · rw [List.filter_append, List.map_append, ih.mvd, List.filter_append, filt_sh]; rfl
    · by_cases h1 : a < st.length
      · rw [gD_l h1] at hka
        obtain ⟨kk, P⟩ := ih.pr a h1 hka
        have hkk := P.lt.2
        have e1 : (st ++ (ys.map (shSt k) ++ [mvSt k i])).getD a default = st.getD a default := gD_l h1
        have e2 : (st ++ (ys.map (shSt k) ++ [mvSt k i])).getD kk default = st.getD kk default := gD_l hkk
        have e3 : (st ++ (ys.map (shSt k) ++ [mvSt k i])).take (kk - 1) = st.take (kk - 1) := List.take_append_of_le_length (by omega)
        refine ⟨kk, ⟨P.lt.1, by rw [List.length_append]; omega⟩, fun j q1 q2 => ?_, ?_, ?_, ?_, ?_, ?_, ?_, ?_, ?_⟩
        · rw [gD_l (by omega)]; exact P.sh j q1 q2
        · rw [e2]; exact P.mv
        · rw [e1, e2]; exact P.cell
        · rw [e1]; exact P.rng
        · rw [e1]; exact P.t1
        · rw [e2]; exact P.t2
        · rw [e1, e2]; exact P.pr
        · rw [e2, e3]; exact P.thr
        · rw [e1, e2, e3]; exact P.ov
      · obtain ⟨b, rfl⟩ : ∃ b, a = st.length + b := ⟨a - st.length, by omega⟩
        rw [List.length_append, hgl] at ha
        have hb : b < ys.length := by
          rcases Nat.lt_or_ge b ys.length with q | q
          · exact q
          · have : b = ys.length := by omega
            subst this
            have e : (st ++ (ys.map (shSt k) ++ [mvSt k i])).getD (st.length + ys.length) default = mvSt k i := by
              rw [gD_r]
              have := gD_r (a := ys.map (shSt k)) (b := [mvSt k i]) (n := 0)
              rw [List.length_map, Nat.add_zero] at this
              rw [this]; rfl
            rw [e] at hka
            exact absurd hka (by show ¬ (2 : Int) = 1; omega)
        have eA : ∀ j, j < ys.length → (st ++ (ys.map (shSt k) ++ [mvSt k i])).getD (st.length + j) default = shSt k (ys.getD j default) := by
          intro j hj
          rw [gD_r, gD_l (by rw [List.length_map]; exact hj), gD_map hj]
        have eK : (st ++ (ys.map (shSt k) ++ [mvSt k i])).getD (st.length + ys.length) default = mvSt k i := by
          rw [gD_r]
          have := gD_r (a := ys.map (shSt k)) (b := [mvSt k i]) (n := 0)
          rw [List.length_map, Nat.add_zero] at this
          rw [this]; rfl
        have eT : (st ++ (ys.map (shSt k) ++ [mvSt k i])).take (st.length + ys.length - 1) = st ++ (ys.take (ys.length - 1)).map (shSt k) := by
          rw [List.take_append, List.take_of_length_le (by omega), List.take_append_of_le_length (by rw [List.length_map]; omega), ← List.map_take]
          congr 3
          omega
        obtain ⟨n1, n2, n3⟩ := shed_move (s := s) hc ih.gs ih.pi hi G.sb G.act G.us (ys := ys.take (ys.length - 1)) (G.nd.sublist (List.take_sublist _ _)) (fun y hy => G.y y (List.mem_of_mem_take hy))
        have hy := G.y _ (getD_mem hb)
        refine ⟨st.length + ys.length, ⟨by omega, by rw [List.length_append, hgl]; omega⟩, fun j q1 q2 => ?_, ?_, ?_, ?_, ?_, ?_, ?_, ?_, ?_⟩
        · obtain ⟨j', rfl⟩ : ∃ j', j = st.length + j' := ⟨j - st.length, by omega⟩
          rw [eA j' (by omega)]; rfl
        · rw [eK]; show ¬ (2 : Int) = 1; omega
        · rw [eA b hb, eK]; rfl
        · rw [eA b hb]; exact hkr
        · rw [eA b hb]; show 0 ≤ ys.getD b default ∧ ys.getD b default < _; omega
        · rw [eK]; show 0 ≤ i ∧ i < _; omega
        · rw [eA b hb, eK]; exact hy.2.2.2
        · rw [eK, eT, List.append_assoc]; exact (thr_app _ _ _).2 ⟨ih.thr, by rw [ih.en]; exact n1⟩
        · rw [eA b hb, eK, eT, List.append_assoc, rn_app, ih.en]
          show (c.Cells.getD k.toNat default).Capacity < (bkS c s _).getD k.toNat 0
          rw [n2]
          have := G.last (ys.take (ys.length - 1)) (ys.drop (ys.length - 1)) (List.take_append_drop _ _).symm (by intro e; have := congrArg List.length e; simp at this; omega)
          omega
    · rcases List.mem_append.1 hx with q | q
      · exact ih.kd x q
      · rcases List.mem_append.1 q with q | q
        · obtain ⟨y, _, rfl⟩ := List.mem_map.1 q; exact .inl rfl
        · rw [List.mem_singleton.1 q]; exact .inr rfl
theorem thr_take [Fuel] {st : List ApiStep} (h : thrP c s ts st) (n : Nat) : thrP c s ts (st.take n) := by
  rw [← List.take_append_drop n st] at h
  exact ((thr_app _ _ _).1 h).1
end
end Go.CP
namespace Go.CP
open Go
set_option linter.unusedSimpArgs false
set_option linter.unusedVariables false
structure FS (c : ApiConfig) (s : ApiState) : Prop where
  tl : s.Tenants.length = c.Tenants.length
  cl : s.Cells.length = c.Cells.length
  t : ∀ x ∈ s.Tenants, (-1 ≤ x.Home ∧ x.Home < (c.Cells.length : Int)) ∧ (-1 ≤ x.Standby ∧ x.Standby < (c.Cells.length : Int))
  evac : 0 ≤ s.Evacuating ∧ s.Evacuating < 8
def lostB (c : ApiConfig) (t : ApiTenantState) (r : Int) : Bool := ((t.Placed && !t.Shed) && decide (0 ≤ t.Home)) && (regionOf c t.Home == r)
section
variable {c : ApiConfig} {s : ApiState} {r : Int}
end
end Go.CP
namespace Go.CP
open Go
set_option linter.unusedSimpArgs false
set_option linter.unusedVariables false
def mv1 (c : ApiConfig) (r : Int) (t : ApiTenantState) : ApiTenantState :=
  bif lostB c t r then { t with Home := t.Standby, Standby := -1, Next := -1, Target := -1 } else t
section
variable {c : ApiConfig} {s : ApiState} {r : Int}
end
end Go.CP
namespace Go.CP
open Go
set_option linter.unusedSimpArgs false
set_option linter.unusedVariables false
section
variable {c : ApiConfig} {s : ApiState} {ts : List ApiTenantState}
end
end Go.CP
namespace Go.CP
open Go
set_option linter.unusedSimpArgs false
set_option linter.unusedVariables false
section
variable {c : ApiConfig} {s : ApiState} {e : ApiEntry} {ts : List ApiTenantState}
theorem apply_kind [Fuel] (h : VC c) (hP : KindP c e) (ht : s.Tick ≤ e.Tick ∧ 0 ≤ e.Tick ∧ e.Tick ≤ 1073741824) (hcnt : s.Count < 4096) : applyS c s e = kindS c (bump s e) e := by
  have hvalid : validB c e = true := ((valid_eq (e := e) h).2).2 ⟨ht.2, hP⟩
  unfold applyS
  rw [hvalid, decide_eq_false (show ¬ 4096 ≤ s.Count by omega), decide_eq_false (show ¬ e.Tick < s.Tick by omega)]
  rfl
theorem apply_grant [Fuel] (h : VC c) (k : e.Kind = 2) (t : tOk c e) (ce : cOk c e) (o : e.Other = -1) (ep : 1 ≤ e.Epoch ∧ e.Epoch ≤ 1048576) (w : 0 ≤ e.From ∧ e.From ≤ 1073741824 ∧ 0 ≤ e.Until ∧ e.Until ≤ 1073741824) (n : vOk c e) (ht : s.Tick ≤ e.Tick ∧ 0 ≤ e.Tick ∧ e.Tick ≤ 1073741824) (hcnt : s.Count < 4096)
    (pl : (tAt s e.Tenant).Placed = true) (sb : e.Cell = (tAt s e.Tenant).Standby) (nh : e.Cell ≠ (tAt s e.Tenant).Home) (md : (cAt s e.Cell).Mode = 1) (e1 : e.Epoch = (tAt s e.Tenant).Epoch + 1) (v1 : e.N = (cAt s e.Cell).Running) (v2 : (cAt s e.Cell).Running = (cAt s e.Cell).Wanted)
    (w1 : e.Tick ≤ e.From) (w2 : e.From ≤ e.Tick + c.Lease) (w3 : e.From < e.Until) (w4 : e.Until - e.From ≤ c.Lease) (w5 : (tAt s e.Tenant).Window.Until ≤ e.Tick)
    (fit : overS c (setT (bump s e) e.Tenant (afterGrant (tAt s e.Tenant) e)) = []) : applyS c s e = (setT (bump s e) e.Tenant (afterGrant (tAt s e.Tenant) e), 0) := by
  rw [apply_kind h (.grant k t ce o ep w n) ht hcnt]
  unfold kindS
  rw [k]
  show grantS c (bump s e) e = _
  unfold grantS
  have t0 : tAt (bump s e) e.Tenant = tAt s e.Tenant := rfl
  have c0 : cAt (bump s e) e.Cell = cAt s e.Cell := rfl
  have b1 : (!(tAt s e.Tenant).Placed || ((tAt s e.Tenant).Shed && (e.Cell != (tAt s e.Tenant).Standby))) = false := by
    rw [pl, sb]; simp
  have b2 : (((e.Cell != (tAt s e.Tenant).Home) && (e.Cell != (tAt s e.Tenant).Standby)) && (e.Cell != (tAt s e.Tenant).Target)) = false := by
    rw [← sb]; simp
  have hg : grantedS c (bump s e) e = 0 := by
    unfold grantedS
    have hn : (e.Cell == (tAt s e.Tenant).Home) = false := by simpa using nh
    simp only [t0, c0, hn, md, Bool.not_false, Bool.true_and, Bool.false_and, Bool.false_or]
    rw [show ((1 : Int) == 3) = false from rfl, show ((1 : Int) == 2) = false from rfl]
    have a1 : (e.Epoch != (tAt s e.Tenant).Epoch + 1) = false := by rw [e1]; simp
    have a2 : ((e.N != (cAt s e.Cell).Running) || ((cAt s e.Cell).Running != (cAt s e.Cell).Wanted)) = false := by rw [v1, v2]; simp
    rw [a1, a2]
    rw [decide_eq_false (by omega), decide_eq_false (by omega), decide_eq_false (by omega), decide_eq_false (by omega), decide_eq_false (show ¬ e.From < (tAt s e.Tenant).Window.Until by omega), decide_eq_false (show ¬ e.Tick < (tAt s e.Tenant).Window.Until by omega)]
    rfl
  simp only [t0]
  rw [b1, b2, hg]
  show fitS c _ = _
  rw [fit_ok fit]
def shE (tick i : Int) : ApiEntry := { Kind := 8, Tick := tick, Tenant := i, Cell := (-1), Other := (-1), Epoch := 0, From := 0, Until := 0, N := 1 }
theorem apply_sh [Fuel] (h : VC c) {tick i : Int} (hi : 0 ≤ i ∧ i < ((c.Tenants.length : Nat) : Int)) (ht : s.Tick ≤ tick ∧ 0 ≤ tick ∧ tick ≤ 1073741824) (hcnt : s.Count < 4096) (hpl : (tAt s i).Placed = true) (hsh : (tAt s i).Shed = false) (hw : (tAt s i).Window.Until ≤ tick) :
    applyS c s (shE tick i) = (setT (bump s (shE tick i)) i { tAt s i with Shed := true, Target := -1 }, 0) := by
  rw [apply_kind (e := shE tick i) h (.shed rfl hi rfl rfl ⟨rfl, rfl, rfl⟩ (.inr rfl)) ht hcnt]
  have ek : kindS c (bump s (shE tick i)) (shE tick i) = shedS c (bump s (shE tick i)) (shE tick i) := by unfold kindS; rfl
  rw [ek]
  unfold shedS
  have e0 : tAt (bump s (shE tick i)) (shE tick i).Tenant = tAt s i := rfl
  have b3 : decide ((shE tick i).Tick < (tAt s i).Window.Until) = false := decide_eq_false (by show ¬ tick < _; omega)
  dsimp only
  rw [e0, hpl, hsh, b3]
  rfl
def EI (s : ApiState) : Prop := ∀ t ∈ s.Tenants, t.Epoch ≤ s.Count
theorem ei_set [Fuel] (h : EI s) {t : ApiTenantState} (ht : t.Epoch ≤ s.Count + 1) : EI (setT (bump s e) e.Tenant t) := by
  intro x hx
  show x.Epoch ≤ s.Count + 1
  rcases List.mem_or_eq_of_mem_set hx with q | q
  · have := h x q; omega
  · rw [q]; exact ht
theorem ei_same [Fuel] (h : EI s) {s' : ApiState} (h1 : s'.Tenants = s.Tenants) (h2 : s'.Count = s.Count + 1) : EI s' := by
  intro x hx
  rw [h1] at hx
  have := h x hx
  omega
theorem ei_step [Fuel] (h : VC c) (hI : Inv c s) (hE : EI s) {s' : ApiState} (hs : Step c s e s') : EI s' := by
  have hat : ∀ (t : tOk c e), (tAt s e.Tenant).Epoch ≤ s.Count := by
    intro t
    have := hI.vs.tl
    unfold tOk at t
    exact hE _ (getD_mem (xs := s.Tenants) (i := e.Tenant.toNat) (by omega))
  cases hs with
  | place k t ce o np m1 m2 f1 f2 y1 y2 fit => exact ei_set hE (by have := hat t; show (tAt s e.Tenant).Epoch ≤ _; omega)
  | grant k t ce ep w n pl sh cl m1 m2 eq v1 v2 w1 w2 w3 w4 w5 w6 fit =>
    refine ei_set hE ?_
    have := hat t
    have he : (afterGrant (tAt s e.Tenant) e).Epoch = e.Epoch := by
      unfold afterGrant
      cases (e.Cell == (tAt s e.Tenant).Home) <;> cases (e.Cell == (tAt s e.Tenant).Standby) <;> rfl
    rw [he]
    rcases eq with q | q <;> omega
  | cut k t pl ep ep1 => exact ei_set hE (by have := hat t; show (tAt s e.Tenant).Epoch ≤ _; omega)
  | standby0 k t ce pl fit => exact ei_set hE (by have := hat t; show (tAt s e.Tenant).Epoch ≤ _; omega)
  | standby k t ce pl n1 n2 n3 m1 f1 y1 t1 t2 fit => exact ei_set hE (by have := hat t; show (tAt s e.Tenant).Epoch ≤ _; omega)
  | ready k t ce pl n1 m1 => exact ei_set hE (by have := hat t; show (tAt s e.Tenant).Epoch ≤ _; omega)
  | migrate k t ce pl sh tg n1 n2 n3 m1 f1 y1 t1 t2 fit => exact ei_set hE (by have := hat t; show (tAt s e.Tenant).Epoch ≤ _; omega)
  | abandon k t pl tg => exact ei_set hE (by have := hat t; show (tAt s e.Tenant).Epoch ≤ _; omega)
  | shed k t n pl sh w => exact ei_set hE (by have := hat t; show (tAt s e.Tenant).Epoch ≤ _; omega)
  | back k t n sh m1 fit => exact ei_set hE (by have := hat t; show (tAt s e.Tenant).Epoch ≤ _; omega)
  | mode k ce n m1 => exact ei_same hE rfl rfl
  | want k ce n n1 v1 v2 f => exact ei_same hE rfl rfl
  | runs k ce n n1 n2 f w => exact ei_same hE rfl rfl
  | prove k n n1 b => exact ei_same hE rfl rfl
  | evac k o n n1 => exact ei_same hE rfl rfl
  | expand k h1 h2 h3 => exact ei_same hE rfl rfl
  | contract k h1 => exact ei_same hE rfl rfl
  | note k => exact ei_same hE rfl rfl
theorem ei_new [Fuel] : EI (newS c) := by
  intro t ht
  have : t = t0S := List.eq_of_mem_replicate ht
  rw [this]; exact Int.le_refl _
theorem run_ei [Fuel] (h : VC c) (l : List ApiEntry) : ∀ s, Inv c s → EI s → okS c s l → EI (runS c s l) := by
  induction l with
  | nil => intro s _ hN _; exact hN
  | cons e l ih => intro s hI hN ho; exact ih _ (inv_step h hI ho.1) (ei_step h hI hN (apply_step h ho.1).2.2.2) ho.2
theorem RS.ei [Fuel] (h : VC c) (hr : RS c s) : EI s := by
  obtain ⟨o, q⟩ := hr
  rw [← q.run]; exact run_ei h o _ (inv_new h) ei_new q.ok
def nact (ts : List ApiTenantState) : Nat := ts.countP actB
theorem nact_set [Fuel] {i : Nat} (hi : i < ts.length) (ha : actB (ts.getD i default) = true) (t : ApiTenantState) : nact (ts.set i t) + 1 = nact ts + (if actB t then 1 else 0) := by
  have e : ts.getD i default = ts[i] := by simp [List.getD_eq_getElem?_getD, hi]
  rw [e] at ha
  have hpos : 0 < ts.countP actB := List.countP_pos_iff.2 ⟨ts[i], List.getElem_mem hi, ha⟩
  unfold nact
  rw [List.countP_set hi, if_pos ha]
  omega
theorem tk_nact [Fuel] {x : ApiStep} (hp : possB c s ts x = true) : nact (tkS ts x) + (if x.Kind = 1 then 1 else 0) = nact ts := by
  obtain ⟨h1, h2, h3, h4⟩ := poss_elim hp
  have hi : x.Tenant.toNat < ts.length := by omega
  have := nact_set hi h3 (tkT (ts.getD x.Tenant.toNat default) x)
  rw [act_iff] at h3
  by_cases hk : x.Kind = 1
  · have e : actB (tkT (ts.getD x.Tenant.toNat default) x) = false := by
      unfold tkT actB; rw [hk]; simp
    rw [e] at this
    rw [if_pos hk]
    show nact (ts.set x.Tenant.toNat _) + 1 = _
    simpa using this
  · have kb : (x.Kind == 1) = false := by simpa using hk
    have e : actB (tkT (ts.getD x.Tenant.toNat default) x) = true := by
      unfold tkT; rw [kb]; exact act_iff.2 h3
    rw [e] at this
    rw [if_neg hk]
    show nact (ts.set x.Tenant.toNat (tkT (ts.getD x.Tenant.toNat default) x)) + 0 = _
    rw [if_pos rfl] at this; omega
theorem rn_nact [Fuel] : ∀ (l : List ApiStep) {ts : List ApiTenantState}, thrP c s ts l → (∀ x ∈ l, x.Kind = 1 ∨ x.Kind = 2) → nact (rnT c s ts l) + l.length = nact ts + (l.filter (fun x => x.Kind == 2)).length
  | [], ts, _, _ => rfl
  | x :: r, ts, h, hk => by
    have ih := rn_nact r h.2 (fun y hy => hk y (List.mem_cons_of_mem _ hy))
    have h1 := tk_nact h.1
    rw [thr_rn h.1, List.length_cons, List.filter_cons]
    rcases hk x List.mem_cons_self with q | q
    · rw [if_pos q] at h1
      have : (x.Kind == 2) = false := by rw [q]; rfl
      rw [this]
      simp only [Bool.false_eq_true, if_false]
      omega
    · rw [if_neg (by omega)] at h1
      have : (x.Kind == 2) = true := by rw [q]; rfl
      rw [this]
      simp only [if_true, List.length_cons]
      omega
theorem plan_len [Fuel] (hc : VC c) (hv : VS c s) {st : List ApiStep} {mv : List Int} (R : RunOk c s st mv ts) (hm : mv.length ≤ 32) : st.length ≤ 64 := by
  have h1 := rn_nact st R.thr R.kd
  have h2 : nact s.Tenants ≤ s.Tenants.length := List.countP_le_length
  have h3 := hv.tl
  have h4 := hc.tl
  have h5 := congrArg List.length R.mvd
  rw [List.length_map] at h5
  omega
structure Alike (a b : ApiTenantState) : Prop where
  pl : a.Placed = b.Placed
  sh : a.Shed = b.Shed
  ho : a.Home = b.Home
  sb : a.Standby = b.Standby
  nx : a.Next = b.Next
  tg : a.Target = b.Target
theorem Alike.dl [Fuel] {a b : ApiTenantState} (h : Alike a b) (d : ApiTenant) (j : Nat) : dl a d j = dl b d j := by
  unfold CP.dl; rw [h.pl, h.sh, h.ho, h.sb, h.nx, h.tg]
structure LSim (c : ApiConfig) (s : ApiState) (ts : List ApiTenantState) (now : ApiState) (tick : Int) (n : Nat) : Prop where
  inv : Inv c now
  ei : EI now
  len : now.Tenants.length = ts.length
  al : ∀ i, i < ts.length → Alike (now.Tenants.getD i default) (ts.getD i default)
  cl : now.Cells = s.Cells
  cnt : now.Count = s.Count + n
  tk : now.Tick ≤ tick
  win : ∀ i, i < ts.length → (now.Tenants.getD i default).Window.Until ≤ tick + 1
  lim : tick ≤ 3000000 + n
theorem sumD_alike [Fuel] {a b : List ApiTenantState} {j : Nat} : ∀ n, (∀ i, i < n → Alike (a.getD i default) (b.getD i default)) → sumD c a j n = sumD c b j n
  | 0, _ => rfl
  | n + 1, h => by rw [sumD, sumD, sumD_alike n (fun i hi => h i (by omega)), (h n (by omega)).dl]
theorem lsim_bk [Fuel] {now : ApiState} {tick : Int} {n : Nat} (L : LSim c s ts now tick n) : bookedS c now = bkS c s ts := by
  apply ext0
  · rw [booked_len, bk_len]
  · intro j hj
    rw [bk_len] at hj
    rw [booked_get hj, bk_get hj, L.len]
    exact sumD_alike _ L.al
theorem setT_get_eq [Fuel] {x : ApiTenantState} {i : Int} (hi : i.toNat < s.Tenants.length) : (setT (bump s e) i x).Tenants.getD i.toNat default = x := getD_set hi
theorem setT_get_ne [Fuel] {x : ApiTenantState} {i : Int} {j : Nat} (hj : i.toNat ≠ j) : (setT (bump s e) i x).Tenants.getD j default = s.Tenants.getD j default := by
  show (s.Tenants.set i.toNat x).getD j default = _
  simp [List.getD_eq_getElem?_getD, List.getElem?_set, hj]
theorem max_spec [Fuel] (a b : Int) : a ≤ maxE a b ∧ b ≤ maxE a b ∧ (maxE a b = a ∨ maxE a b = b) := by
  unfold maxE; split <;> omega
theorem late_ok [Fuel] (hc : VC c) (hI : Inv c s) (ht : s.Tick ≤ 2000000) : Ok (mill_Late s) (fun t => s.Tick ≤ t ∧ t ≤ 2100000 ∧ ∀ i, i < s.Tenants.length → (s.Tenants.getD i default).Window.Until ≤ t) := by
  have hct := hc.tl
  have htl := hI.vs.tl
  have hle := hc.lease
  unfold mill_Late
  refine loop0 (L := fun m x i => mill_Late_l1 s.Tenants ((s.Tenants.length : Nat) : Int) m x i) s.Tenants.length (by omega) (fun k x => s.Tick ≤ x ∧ x ≤ 2100000 ∧ ∀ i, i < k → (s.Tenants.getD i default).Window.Until ≤ x) ⟨Int.le_refl _, by omega, fun i hi => absurd hi (Nat.not_lt_zero _)⟩ ?_ ?_
  · rintro m k x hk ⟨h1, h2, h3⟩ ih
    show Ok (mill_Late_l1 _ _ (m + 1) x k) _
    rw [mill_Late_l1, condT (by omega), ixL_ok (by omega) (by omega), Int.toNat_natCast, w64_eq (by omega) (by omega)]
    have hm := max_spec x (s.Tenants.getD k default).Window.Until
    have hw := (hI.t k hk).wl
    refine ih _ ⟨by omega, by omega, fun i hi => ?_⟩
    by_cases q : i = k
    · subst q; exact hm.2.1
    · exact Int.le_trans (h3 i (by omega)) hm.1
  · rintro m x ⟨h1, h2, h3⟩
    show Ok (mill_Late_l1 _ _ (m + 1) x _) _
    rw [mill_Late_l1, condF (by omega)]
    exact Ok.some ⟨h1, h2, h3⟩
theorem same34 [Fuel] (l : List Int) (hl : l.length ≤ 1000000) : ref24_SameInts l l = some true := same_refl l hl
theorem log_l3 [Fuel] (hc : VC c) (hrs : RS c s) {r : Int} {tk0 : Int} (htk : s.Tick ≤ tk0 ∧ tk0 ≤ 2100000 ∧ ∀ i, i < s.Tenants.length → (s.Tenants.getD i default).Window.Until ≤ tk0) :
    Ok (law34_EvacplanLog_l3 c s { Region := r, Steps := (mkS c s r).2.1, Left := (mkS c s r).2.2 } (mkS c s r).2.1 (((mkS c s r).2.1.length : Nat) : Int) fuel tk0 s 0) (fun b => b = true) := by
  have hI := hrs.inv hc
  have hv := hI.vs
  have hvl := hv.tl
  have hct := hc.tl
  have hle := hc.lease
  have hcnt := hrs.cnt
  obtain ⟨mv, M⟩ := made hc hv r
  have R := run_ok hc hI (hrs.ni hc) M.run
  have hpl := M.perm.length_eq
  rw [List.length_append] at hpl
  have hcand := cand_len (s := s) hc (r := r)
  have hsl := plan_len hc hv R (by omega)
  have hcl := hc.cl
  have htk0 := hv.tick
  generalize hst : (mkS c s r).2.1 = st at *
  generalize hlf : (mkS c s r).2.2 = lf at *
  refine loop0 (L := fun m (q : Int × ApiState) i => law34_EvacplanLog_l3 c s { Region := r, Steps := st, Left := lf } st ((st.length : Nat) : Int) m q.1 q.2 i) (x := (tk0, s)) st.length (by omega) (fun k q => LSim c s (rnT c s s.Tenants (st.take k)) q.2 q.1 k) ⟨hI, hrs.ei hc, rfl, fun i hi => ⟨rfl, rfl, rfl, rfl, rfl, rfl⟩, rfl, by simp, htk.1, fun i hi => by have h0 : (s.Tenants.getD i default).Window.Until ≤ tk0 := htk.2.2 i hi; show (s.Tenants.getD i default).Window.Until ≤ tk0 + 1; omega, by simp; omega⟩ ?_ ?_
  · rintro m k ⟨tick, now⟩ hk L ih
    show Ok (law34_EvacplanLog_l3 c s _ st _ (m + 1) tick now k) _
    simp only at L
    have hthr := thr_take R.thr (k + 1)
    rw [take_snoc hk] at hthr
    obtain ⟨ht1, ht2, _⟩ := (thr_app _ _ _).1 hthr
    generalize hx : st.getD k default = x at *
    generalize hts : rnT c s s.Tenants (st.take k) = ts at *
    obtain ⟨p1, p2, p3, p4⟩ := poss_elim ht2
    have hgs : GS c ts := by rw [← hts]; exact rn_gs _ hv.gs
    have hgl := hgs.len
    have hnl := L.len
    have hcnow := L.cnt
    have hlim := L.lim
    have hvn := L.inv.vs
    have hxi : x.Tenant.toNat < ts.length := by omega
    have hA := L.al _ hxi
    have hW := L.win _ hxi
    have eT : now.Tenants.getD x.Tenant.toNat default = tAt now x.Tenant := rfl
    rw [eT] at hA hW
    have hmx := max_spec tick (tAt now x.Tenant).Window.Until
    generalize htk' : maxE tick (tAt now x.Tenant).Window.Until = tick' at *
    have hL' : ∀ i, i < ts.length → (now.Tenants.getD i default).Window.Until ≤ tick' + 1 := fun i hi => by have := L.win i hi; omega
    have htkb : tick' ≤ 3000000 + (k : Int) + 1 := by omega
    have hnt := L.tk
    have hnt0 := hvn.tick
    rw [act_iff] at p3
    have ends : rnT c s s.Tenants (st.take (k + 1)) = tkS ts x := by
      rw [take_snoc hk, hx, rn_app, hts, thr_rn ht2]; rfl
    -- what the entry makes
    have fin : ∀ (e : ApiEntry) (t' : ApiTenantState), applyS c now e = (setT (bump now e) x.Tenant t', 0) → e.Tick = tick' → Alike t' (tkT (ts.getD x.Tenant.toNat default) x) → t'.Window.Until ≤ tick' + 1 →
        Ok (law34_EvacplanLog_k2 (law34_EvacplanLog_l3 c s { Region := r, Steps := st, Left := lf } st ((st.length : Nat) : Int) m) c s { Region := r, Steps := st, Left := lf } now (k : Int) tick' e (k : Int)) (fun b => b = true) := by
      intro e t' hz het hal hw
      have hz2 : (applyS c now e).2 = 0 := by rw [hz]
      have hI' := inv_step hc L.inv hz2
      have hE' := ei_step hc L.inv L.ei (apply_step hc hz2).2.2.2
      rw [hz] at hI' hE'
      have LN : LSim c s (tkS ts x) (setT (bump now e) x.Tenant t') tick' (k + 1) := by
        refine ⟨hI', hE', by show (now.Tenants.set _ _).length = _; rw [List.length_set, tk_len]; exact hnl, fun i hi => ?_, L.cl, ?_, by show e.Tick ≤ tick'; omega, fun i hi => ?_, by push_cast; omega⟩
        · rw [tk_len] at hi
          by_cases q : x.Tenant.toNat = i
          · subst q
            rw [setT_get_eq (by omega), tk_get_eq hi]; exact hal
          · rw [setT_get_ne q, tk_get_ne q]; exact L.al i hi
        · show now.Count + 1 = _
          rw [hcnow]; push_cast; omega
        · rw [tk_len] at hi
          by_cases q : x.Tenant.toNat = i
          · subst q
            rw [setT_get_eq (by omega)]; exact hw
          · rw [setT_get_ne q]; exact hL' i hi
      unfold law34_EvacplanLog_k2
      rw [state_apply hc L.inv, Option.bind_some, hz]
      unfold law34_EvacplanLog_k1
      simp only
      rw [w64_eq (x := (k : Int) + 1) (by omega) (by omega), show ((k : Int) + 1).toNat = k + 1 by omega, chkD_ok (by omega), after_ok hc hv (by rw [List.length_take]; omega) (thr_take R.thr (k + 1)), Option.bind_some, ends]
      have hbk := lsim_bk LN
      simp only [bne_self_eq_false, Bool.not_true, Bool.or_self, Bool.not_false, cond_true]
      rw [load_booked hc LN.inv.vs.tl, Option.bind_some, hbk, same34 _ (by rw [bk_len]; omega), Option.bind_some]
      simp only [Bool.not_true, Bool.or_self, cond_false]
      refine ih (tick', setT (bump now e) x.Tenant t') ?_
      show LSim c s (rnT c s s.Tenants (st.take (k + 1))) _ tick' (k + 1)
      rw [ends]; exact LN
    rw [law34_EvacplanLog_l3, condT (by omega), ixL_ok (by omega) (by omega), Int.toNat_natCast, hx, ixL_ok p1.1 (by omega)]
    have eM : maxE tick (now.Tenants.getD x.Tenant.toNat default).Window.Until = tick' := htk'
    rw [eM]
    rcases p4 with ⟨k1, hh⟩ | ⟨k2, hh, hu⟩
    · have kb : (x.Kind == 2) = false := by rw [k1]; rfl
      have kb1 : (x.Kind == 1) = true := by rw [k1]; rfl
      rw [kb, cond_false]
      refine fin (shE tick' x.Tenant) { tAt now x.Tenant with Shed := true, Target := -1 } (apply_sh hc (by omega) (by omega) (by omega) (by rw [hA.pl]; exact p3.1) (by rw [hA.sh]; exact p3.2) hmx.2.1) rfl ?_ (by show (tAt now x.Tenant).Window.Until ≤ _; omega)
      unfold tkT
      rw [kb1, cond_true]
      exact ⟨hA.pl, rfl, hA.ho, hA.sb, hA.nx, rfl⟩
    · have kb : (x.Kind == 2) = true := by rw [k2]; rfl
      have kb1 : (x.Kind == 1) = false := by rw [k2]; rfl
      have hnc : now.Cells.length = c.Cells.length := hvn.cl
      rw [kb, cond_true, ixL_ok p2.1 (by omega)]
      have hus := hu
      unfold usB at hus
      simp only [Bool.and_eq_true, decide_eq_true_eq, beq_iff_eq] at hus
      have hcA : cAt now x.Cell = cAt s x.Cell := by unfold cAt; rw [L.cl]
      have hcs := cs_at hvn (i := x.Cell) (by omega)
      have hts2 := ts_at hvn (i := x.Tenant) (by omega)
      have hepb := hts2.ep
      have heb := L.ei (tAt now x.Tenant) (getD_mem (xs := now.Tenants) (i := x.Tenant.toNat) (by omega))
      have hpi : PI ts := by rw [← hts]; exact rn_pi _ ht1 (pi_inv hc hI (hrs.ni hc))
      have hpt := hpi _ (getD_mem hxi)
      rw [w64_eq (x := (now.Tenants.getD x.Tenant.toNat default).Epoch + 1) (by show -9223372036854775808 ≤ (tAt now x.Tenant).Epoch + 1; omega) (by show (tAt now x.Tenant).Epoch + 1 < _; omega), w64_eq (x := tick' + 1) (by omega) (by omega)]
      generalize he : ({ Kind := 2, Tick := tick', Tenant := x.Tenant, Cell := x.Cell, Other := (-1), Epoch := (now.Tenants.getD x.Tenant.toNat default).Epoch + 1, From := tick', Until := tick' + 1, N := (now.Cells.getD x.Cell.toNat default).Running } : ApiEntry) = e
      have e1 : e.Kind = 2 := by rw [← he]
      have e2 : e.Tick = tick' := by rw [← he]
      have e3 : e.Tenant = x.Tenant := by rw [← he]
      have e4 : e.Cell = x.Cell := by rw [← he]
      have e5 : e.Other = -1 := by rw [← he]
      have e6 : e.Epoch = (tAt now x.Tenant).Epoch + 1 := by rw [← he]; rfl
      have e7 : e.From = tick' := by rw [← he]
      have e8 : e.Until = tick' + 1 := by rw [← he]
      have e9 : e.N = (cAt now x.Cell).Running := by rw [← he]; rfl
      have hsb : x.Cell = (tAt now x.Tenant).Standby := by rw [hA.sb]; exact hh.symm
      have hnh : x.Cell ≠ (tAt now x.Tenant).Home := by
        rw [hA.ho]
        intro q
        exact hpt.hs (by rw [hh]; exact p2.1) (by rw [hh]; exact q.symm)
      have hag : afterGrant (tAt now x.Tenant) e = { tAt now x.Tenant with Window := { Cell := e.Cell, Epoch := e.Epoch, Version := e.N, From := e.From, Until := e.Until }, Epoch := e.Epoch, Home := e.Cell, Standby := -1, Next := -1, Target := -1, Shed := false } := by
        unfold afterGrant
        have b1 : (e.Cell == (tAt now x.Tenant).Home) = false := by rw [e4]; simpa using hnh
        have b2 : (e.Cell == (tAt now x.Tenant).Standby) = true := by rw [e4]; simpa using hsb
        simp only [b1, b2, cond_false, cond_true]
      have hfit : overS c (setT (bump now e) e.Tenant (afterGrant (tAt now e.Tenant) e)) = [] := by
        rw [over_nil]
        intro j hj
        have hcap := R.cap (k + 1) (by omega) j hj
        rw [ends, bk_get hj] at hcap
        refine Int.le_trans (Int.le_of_eq ?_) hcap
        have hlen2 : (setT (bump now e) e.Tenant (afterGrant (tAt now e.Tenant) e)).Tenants.length = (tkS ts x).length := by
          show (now.Tenants.set _ _).length = _
          rw [List.length_set, tk_len]; exact hnl
        rw [hlen2]
        refine sumD_alike _ (fun i hi => ?_)
        rw [tk_len] at hi
        rw [e3]
        by_cases q : x.Tenant.toNat = i
        · subst q
          rw [setT_get_eq (by omega), tk_get_eq hi, hag]
          unfold tkT
          rw [kb1, cond_false]
          exact ⟨hA.pl, p3.2.symm, e4, rfl, rfl, rfl⟩
        · rw [setT_get_ne q, tk_get_ne q]; exact L.al i hi
      have hz := apply_grant (s := now) (e := e) hc e1 (by rw [show tOk c e ↔ _ from Iff.rfl]; unfold tOk; rw [e3]; omega) (by unfold cOk; rw [e4]; omega) e5 (by rw [e6]; have := hts2.ep; omega) (by rw [e7, e8]; omega) (by unfold vOk; rw [e9]; exact hcs.run) (by rw [e2]; omega) (by omega) (by rw [e3, hA.pl]; exact p3.1) (by rw [e3, e4]; exact hsb) (by rw [e3, e4]; exact hnh) (by rw [e4, hcA]; exact hus.1.2.1) (by rw [e3]; exact e6) (by rw [e4]; exact e9) (by rw [e4, hcA]; exact hus.1.2.2) (by rw [e2, e7]; omega) (by rw [e2, e7]; omega) (by rw [e7, e8]; omega) (by rw [e7, e8]; omega) (by rw [e2, e3]; exact hmx.2.1) hfit
      rw [e3] at hz
      refine fin e (afterGrant (tAt now x.Tenant) e) hz e2 ?_ ?_
      · rw [hag]
        unfold tkT
        rw [kb1, cond_false]
        exact ⟨hA.pl, p3.2.symm, e4, rfl, rfl, rfl⟩
      · rw [hag]; show e.Until ≤ _; omega
  · rintro m ⟨tick, now⟩ L
    show Ok (law34_EvacplanLog_l3 c s _ st _ (m + 1) tick now _) _
    rw [law34_EvacplanLog_l3, condF (by omega)]
    exact Ok.some rfl
theorem EvacplanLog_true [Fuel] {p1 p2 : List Int} {p3 : Bool} {p4 : Int} (h1 : ∀ x ∈ p1, I64 x) (h2 : ∀ x ∈ p2, I64 x) (h4 : I64 p4) : law34_EvacplanLog p1 p2 p3 p4 = some true := by
  apply okT
  unfold law34_EvacplanLog mill_Light
  rw [awake34]
  simp only [Option.bind_some, Bool.not_true, cond_false, bifS]
  refine Ok.cond (fun _ => Ok.some rfl) (fun q => ?_)
  have hl := light34 q
  refine Ok.bind (worlds34 (p3 := p3) ⟨h1, by omega⟩ ⟨h2, by omega⟩) (fun r hr => ?_)
  obtain ⟨hc, hrs⟩ := hr
  have hreg := hc.reg
  refine Ok.bind (mmod_ok h4 hreg.1 (by omega)) (fun rg hrg => ?_)
  rw [make_p hc (hrs.inv hc).vs hrg, Option.bind_some]
  refine Ok.bind (late_ok hc (hrs.inv hc) hrs.tick) (fun tk htk => ?_)
  exact log_l3 hc hrs htk
end
end Go.CP
namespace Go.AM
open Go Go.RowKit Go.CP
set_option linter.unusedVariables false
def SimCs (w : World) (ys : List CV) (cs : List Value) : Prop :=
  cs.length = ys.length ∧ ∀ (j : Nat) y v, ys[j]? = some y → cs[j]? = some v → SimC w (fun _ => False) y v ∧ v.oneCell' = true
theorem list_cons {α : Type} {l : List α} {n : Nat} (h : l.length = n + 1) : ∃ a t, l = a :: t ∧ t.length = n := by
  cases l with
  | nil => simp at h
  | cons a t => exact ⟨a, t, rfl, by simpa using h⟩
theorem simCs_nil {w : World} : SimCs w [] [] := ⟨rfl, fun j y v h => by simp at h⟩
theorem simCs_cons {w : World} {y : CV} {ys : List CV} {v : Value} {vs : List Value} (h : SimC w (fun _ => False) y v) (h1 : v.oneCell' = true) (t : SimCs w ys vs) : SimCs w (y :: ys) (v :: vs) := by
  refine ⟨by simp [t.1], fun j y' v' e1 e2 => ?_⟩
  cases j with
  | zero => simp at e1 e2; subst e1; subst e2; exact ⟨h, h1⟩
  | succ j => simp at e1 e2; exact t.2 j y' v' e1 e2
theorem simCs_app {w : World} {ys ys' : List CV} {vs vs' : List Value} (h : SimCs w ys vs) (h' : SimCs w ys' vs') : SimCs w (ys ++ ys') (vs ++ vs') := by
  refine ⟨by simp [h.1, h'.1], fun j y v e1 e2 => ?_⟩
  by_cases hj : j < ys.length
  · rw [List.getElem?_append_left hj] at e1
    rw [List.getElem?_append_left (by rw [h.1]; exact hj)] at e2
    exact h.2 j y v e1 e2
  · rw [List.getElem?_append_right (by omega)] at e1
    rw [List.getElem?_append_right (by rw [h.1]; omega), h.1] at e2
    exact h'.2 _ y v e1 e2
theorem simCs_int {w : World} {k : IntKind} {x : Int} {ys : List CV} {vs : List Value} (t : SimCs w ys vs) : SimCs w (.val (.int k x) :: ys) (.int k x :: vs) := simCs_cons (.val _) rfl t
theorem simCs_bool {w : World} {x : Bool} {ys : List CV} {vs : List Value} (t : SimCs w ys vs) : SimCs w (.val (.bool x) :: ys) (.bool x :: vs) := simCs_cons (.val _) rfl t
theorem simCs_str {w : World} {x : ByteArray} {ys : List CV} {vs : List Value} (t : SimCs w ys vs) : SimCs w (.val (.string x) :: ys) (.string x :: vs) := simCs_cons (.val _) rfl t
section
variable {H : Type} {encH : TypeId × Value → H} {P : Program} {w : World} {base : Nat} {spare : Nat → Bool} {held : Bool}
def Opn {α : Type} (encH : TypeId × Value → H) (P : Program) (w : World) (base : Nat) (spare : Nat → Bool) (held : Bool) (t : TypeId) (enc : α → List CV) (Inv : α → Prop) : Prop :=
  ∀ n cs x, DataW.trod encH P w base spare held n t cs = some x → ∃ a, Inv a ∧ SimCs w (enc a) cs
theorem opn_int {t : TypeId} {k : IntKind} (ht : P.underlying t = some (.int k)) : Opn encH P w base spare held t (e_int k) (fun n => (Lit.int k n).wf = true) := by
  intro n cs x h
  obtain ⟨m, rfl, _, hw⟩ := DataW.trod_int ht h
  exact ⟨m, hw, simCs_int simCs_nil⟩
theorem opn_bool {t : TypeId} (ht : P.underlying t = some .bool) : Opn encH P w base spare held t e_bool (fun _ => True) := by
  intro n cs x h
  obtain ⟨m, rfl, _⟩ := DataW.trod_bool ht h
  exact ⟨m, trivial, simCs_bool simCs_nil⟩
theorem opn_str {t : TypeId} (ht : P.underlying t = some .string) : Opn encH P w base spare held t e_str (fun s => s.size ≤ maxLen) := by
  intro n cs x h
  obtain ⟨m, rfl, _, hw⟩ := DataW.trod_string ht h
  exact ⟨m, hw, simCs_str simCs_nil⟩
theorem opn_slice {t e : TypeId} {z : Nat} {τ : Ty} {Inv : den τ → Prop} (ht : P.underlying t = some (.slice e)) (hc : P.cellsOf e = z) (hz0 : 0 < z) (hw : wd τ = z)
    (he : Opn encH P w base spare held e (encT τ) Inv) : Opn encH P w base spare held t (fun xs : List (den τ) => [CV.ls τ xs]) (fun xs => ∀ x ∈ xs, Inv x) := by
  have hz : ∀ a : den τ, (encT τ a).length = z := fun a => by rw [encT_len, hw]
  intro n cs x h
  rcases Deep.open_slice ht h with ⟨rfl, _⟩ | ⟨a, len, cap, m, n, D, Pl, rfl, hb, hl, hm, hmm, _, hx⟩
  · exact ⟨[], by simp, simCs_cons (.ls _ _ _ (.rd0 _ _ _ _)) rfl simCs_nil⟩
  have hlm : len ≤ m := by rw [hmm]; split <;> omega
  have each : ∀ i, i < len → ∃ q : den τ × List Value, Inv q.1 ∧ SimCs w (encT τ q.1) q.2 ∧ q.2.length = z ∧ ∀ j, j < z → w.cell? ((a.add (i * z)).add j) = q.2[j]? := by
    intro i hi
    obtain ⟨cs', h1, h2⟩ := hx i (by omega)
    rw [hc] at h1
    obtain ⟨_, hlen, hcell⟩ := World.cells?_some h1
    obtain ⟨y, hy, hs⟩ := he _ _ _ h2
    exact ⟨(y, cs'), hy, hs, hlen, hcell⟩
  obtain ⟨q, hq⟩ := Deep.choose_lt each
  refine ⟨(List.range len).map (fun i => (q i).1), ?_, simCs_cons (.ls _ _ _ ?_) rfl simCs_nil⟩
  · intro y hy
    obtain ⟨i, hi, rfl⟩ := List.mem_map.1 hy
    exact (hq i (List.mem_range.1 hi)).1
  · rw [hw]
    have hln : ((List.range len).map (fun i => (q i).1)).length = len := by simp
    have hg : ∀ i, i < len → ((List.range len).map (fun i => (q i).1)).getD i default = (q i).1 := by
      intro i hi
      simp [List.getD_eq_getElem?_getD, hi]
    rcases Nat.eq_zero_or_pos len with h0 | h0
    · subst h0; exact .rd0 _ _ _ _
    rw [hln]
    obtain ⟨b, off, spot⟩ := a
    have hsome : ∀ i j, i < len → j < z → (q i).2[j]? = some ((q i).2.getD j undef) := by
      intro i j hi hj
      have : j < (q i).2.length := by rw [(hq i hi).2.2.1]; exact hj
      simp [List.getD_eq_getElem?_getD, this]
    have hsp : spot = none ∧ b < w.heap.size := by
      have h1 := (hq 0 h0).2.2.2 0 hz0
      rw [hsome 0 0 h0 hz0, Nat.zero_mul] at h1
      have ez : ∀ x : Addr, x.add 0 = x := fun x => rfl
      rw [ez, ez] at h1
      unfold World.cell? at h1
      split at h1
      · rename_i heq
        refine ⟨?_, ?_⟩
        · cases spot with
          | none => rfl
          | some s => simp at h1
        · rw [Array.getElem?_eq_some_iff] at heq; exact heq.1
      · cases h1
    obtain ⟨rfl, hbs⟩ := hsp
    have c0 : ∀ i j, i < len → j < z → w.cell? ⟨b, off + (i * z + j), none⟩ = (q i).2[j]? := by
      intro i j hi hj
      have := (hq i hi).2.2.2 j hj
      rw [WideShapes.add_plain, WideShapes.add_plain, Nat.add_assoc] at this
      exact this
    have dm : ∀ j, j < len * z → j / z < len ∧ j % z < z ∧ j / z * z + j % z = j := by
      intro j hj
      refine ⟨(Nat.div_lt_iff_lt_mul hz0).2 hj, Nat.mod_lt _ hz0, ?_⟩
      rw [Nat.mul_comm]; exact Nat.div_add_mod j z
    refine .rd z len _ b off cap (fun j => (q (j / z)).2.getD (j % z) undef) (fun h => h) hbs hl ?_ ?_ ?_ ?_
    · intro i hi; exact hz _
    · intro j hj
      obtain ⟨h1, h2, h3⟩ := dm j hj
      have := c0 (j / z) (j % z) h1 h2
      rw [h3, hsome _ _ h1 h2] at this
      exact this
    · intro j hj
      obtain ⟨h1, h2, h3⟩ := dm j hj
      have hs := (hq (j / z) h1).2.1
      have hlt : j % z < (encT τ (q (j / z)).1).length := by rw [hz]; exact h2
      exact (hs.2 (j % z) ((encT τ (q (j / z)).1)[j % z]) _ (List.getElem?_eq_getElem hlt) (hsome _ _ h1 h2)).2
    · intro i j y hi hy
      unfold fE at hy; rw [hg i hi] at hy
      have hj : j < z := by rw [← hz (q i).1]; exact (List.getElem?_eq_some_iff.1 hy).1
      have e1 : (i * z + j) / z = i := by rw [Nat.mul_comm, Nat.mul_add_div hz0, Nat.div_eq_of_lt hj, Nat.add_zero]
      have e2 : (i * z + j) % z = j := by rw [Nat.mul_comm, Nat.mul_add_mod, Nat.mod_eq_of_lt hj]
      simp only [e1, e2]
      exact ((hq i hi).2.1.2 j y _ hy (hsome i j hi hj)).1
theorem opn_arg {t : TypeId} {τ : Ty} {Inv : List (den τ) → Prop} {a : Option Addr} {len cap : Nat} {d : DataW H} {ps : List MemPlace}
    (he : Opn encH P w base spare held t (fun xs : List (den τ) => [CV.ls τ xs]) Inv) (h : DataW.Trod encH P w base spare held t (.slice a len cap) d ps) : ∃ xs : List (den τ), Inv xs ∧ SimV w (fun _ => none) (fun _ => False) (.one (.s (.c (.ls τ xs)))) (.slice a len cap) := by
  obtain ⟨n, hn⟩ := h
  obtain ⟨xs, hi, hs⟩ := he _ _ _ hn
  refine ⟨xs, hi, ?_⟩
  exact .c (hs.2 0 _ (.slice a len cap) rfl rfl).1
theorem wf_i64 {x : Int} (h : (Lit.int .i64 x).wf = true) : -9223372036854775808 ≤ x ∧ x < 9223372036854775808 := by
  simp only [Lit.wf, decide_eq_true_eq, Bool.and_eq_true] at h
  have e1 : IntKind.i64.min = -9223372036854775808 := by decide
  have e2 : IntKind.i64.max = 9223372036854775807 := by decide
  omega
theorem mx_none : MX (fun _ => False) (fun _ => none) [] = fun _ => False := by
  funext b
  simp only [MX, Mut]
  apply propext
  constructor
  · rintro (h | ⟨k, o, l, hk, _⟩)
    · exact h
    · simp at hk
  · exact fun h => h.elim
theorem CallA.law {P : Program} {f : FuncId} {args : List SV} {v : Value} (hA : CallA P f args [] (fun r' h' => r' = mkv v ∧ h' = [])) {w : World} {vs : List Value}
    (ha : All2 (SimV w (fun _ => none) (fun _ => False)) args vs) :
    Calls P f vs.toArray w fun e w' => e = .returned v ∧ w'.os = w.os ∧ w'.tape = w.tape ∧ w'.output = w.output ∧ w.heap.size ≤ w'.heap.size ∧ ∀ b, b < w.heap.size → w'.heap[b]? = w.heap[b]? := by
  have hH : HeapRel (fun _ => False) w (fun _ => none) [] := ⟨fun k o hk => by simp at hk, fun k k' o o' l l' b e1 => by simp at e1, fun _ _ => rfl, fun b hb => fun h => h, fun b h => h.elim⟩
  refine (hA (fun _ => False) w (fun _ => none) vs hH (by rw [mx_none]; exact ha)).mono (fun e w' he => ?_)
  obtain ⟨v', r', h', m', rfl, ⟨rfl, rfl⟩, H', hsim, hfr, hmt, hid⟩ := he
  have : v' = v := by cases hsim with | c h => cases h; rfl
  subst this
  exact ⟨rfl, hfr.os, hfr.tape, hfr.output.1, hfr.size, fun b hb => hfr.keep b hb (by rintro ⟨k, o, l, hk, _⟩; simp at hk)⟩
theorem CallA.below {P : Program} {f : FuncId} {args : List SV} {v : Value} (hA : CallA P f args [] (fun r' h' => r' = mkv v ∧ h' = [])) {w : World} {vs : List Value}
    (ha : All2 (SimV w (fun _ => none) (fun _ => False)) args vs) : Calls P f vs.toArray w fun e w' => e = .returned v ∧ Below w.heap.size w w' :=
  (CallA.law hA ha).mono fun e w' ⟨h1, h2, h3, h4, h5, h6⟩ => ⟨h1, ⟨h2, h3, h4, h5, h6⟩⟩
end
theorem FnOk.below {P : Program} {S : TSpec} (h : FnOk P S) (v : S.ps.V) {r : S.β} (hF : S.F v = some r) (h0 : eOs S.ps.objs v.2 = []) (h1 : eOs S.rs.objs (S.g r).2 = []) {y : Value} (hy : packR (eSs S.rs.slots (S.g r).1) = mkv y) {w : World} {vs : List Value}
    (ha : All2 (SimV w (fun _ => none) (fun _ => False)) ((eSs S.ps.slots v.1).map (·.2)) vs) : Calls P S.f vs.toArray w fun e w' => e = .returned y ∧ Below w.heap.size w w' := by
  have := h.2 v r hF
  rw [h0, h1, hy] at this
  exact this.below ha
end Go.AM
