/- Plans: the laws EvacplanLeft, EvacplanHeadroom. -/
import Derived.Deep.Slices
import Derived.ChangeArms
import Derived.Below
import Derived.Test.YtedampldnkfcjaaGreatP5a078c91c
namespace Go.CP
open Go
set_option linter.unusedSimpArgs false
set_option linter.unusedVariables false
section
variable {c : ApiConfig} {s : ApiState} {ts : List ApiTenantState}
theorem sb_region [Fuel] (hc : VC c) (hI : Inv c s) {i : Nat} (hi : i < s.Tenants.length) (hp : (s.Tenants.getD i default).Placed = true) (hs : 0 ≤ (s.Tenants.getD i default).Standby) : regionOf c (s.Tenants.getD i default).Standby ≠ regionOf c (s.Tenants.getD i default).Home := by
  have q := hI.t i hi
  have hh := (hI.vs.t _ (getD_mem hi)).pl hp
  have := tog_apart hh hs q.hs
  unfold apartB at this
  simp only [Bool.and_eq_true, bne_iff_ne, decide_eq_true_eq] at this
  exact fun e => this.2 e.symm
theorem run_keep [Fuel] (hc : VC c) (hI : Inv c s) (hN : NI s) {r : Int} {st : List ApiStep} {mv : List Int} (hr : Run c s s.Tenants st mv ts) : mv.Nodup → (∀ i ∈ mv, candB c s r i = true) → ∀ i : Nat, i < s.Tenants.length → candB c s r (i : Int) = true → (i : Int) ∉ mv → ts.getD i default = s.Tenants.getD i default := by
  induction hr with
  | nil => intro _ _ i _ _ _; rfl
  | @snoc st mv ts i0 h hi hn ih =>
    intro hnd hcb i hil hci hnm
    have R := run_ok hc hI hN h
    have hgl := R.gs.len
    have hvl := hI.vs.tl
    rw [List.nodup_append] at hnd
    have hi0 : i0 ∉ mv := fun q => hnd.2.2 i0 q i0 (by simp) rfl
    have hnm' : (i : Int) ∉ mv := fun q => hnm (List.mem_append_left _ q)
    have hne : (i : Int) ≠ i0 := fun e => hnm (by rw [e]; simp)
    have ihK := ih hnd.1 (fun j hj => hcb j (List.mem_append_left _ hj))
    have e0 := ihK i0.toNat (by omega) (by rw [show ((i0.toNat : Nat) : Int) = i0 by omega]; exact hcb i0 (by simp)) (by rw [show ((i0.toNat : Nat) : Int) = i0 by omega]; exact hi0)
    have ei := ihK i hil hci hnm'
    obtain ⟨ys, G⟩ := grp hc R.gs hn
    have hc0 := hcb i0 (by simp)
    unfold candB at hc0 hci
    rw [Bool.and_eq_true, beq_iff_eq] at hc0 hci
    have t0 : tAt s i0 = s.Tenants.getD i0.toNat default := rfl
    have ti : tAt s (i : Int) = s.Tenants.getD i default := by unfold tAt; rw [Int.toNat_natCast]
    have hrg := us_rng G.us
    rw [e0] at hrg G
    have hreg := sb_region hc hI (i := i0.toNat) (by omega) (act_iff.1 hc0.1).1 hrg.1
    have hiy : (i : Int) ∉ ys := by
      intro q
      have := (G.y _ q).2.2.1
      rw [Int.toNat_natCast, ei] at this
      rw [ti, this] at hci
      rw [t0] at hc0
      exact hreg (hci.2.trans hc0.2.symm)
    rw [G.st, rn_app]
    obtain ⟨s1, _, _, s4⟩ := shed_all (s := s) hc hrg ys R.gs R.pi G.nd (fun y q => by obtain ⟨a, b, d, _⟩ := G.y y q; exact ⟨a, b, d⟩)
    have : ∀ ts' : List ApiTenantState, (rnT c s ts' [mvSt (s.Tenants.getD i0.toNat default).Standby i0]).getD i default = ts'.getD i default := by
      intro ts'
      rw [rnT, rnT]
      cases possB c s ts' (mvSt (s.Tenants.getD i0.toNat default).Standby i0) with
      | false => rfl
      | true =>
        rw [cond_true, tk_get_ne]
        show i0.toNat ≠ i
        omega
    rw [this, s4 i hiy, ei]
def sumM (f : Int → Int) : List Int → Int
  | [] => 0
  | x :: l => f x + sumM f l
theorem sumM_app [Fuel] (f : Int → Int) : ∀ a b, sumM f (a ++ b) = sumM f a + sumM f b
  | [], b => by simp [sumM]
  | x :: l, b => by rw [List.cons_append, sumM, sumM, sumM_app f l b]; omega
theorem sumM_erase [Fuel] (f : Int → Int) {x : Int} : ∀ {l : List Int}, x ∈ l → sumM f l = f x + sumM f (l.erase x)
  | [], h => absurd h List.not_mem_nil
  | y :: l, h => by
    by_cases e : y = x
    · subst e; rw [List.erase_cons_head, sumM]
    · rw [List.erase_cons_tail (by simpa using e), sumM, sumM]
      rcases List.mem_cons.1 h with h | h
      · exact absurd h.symm e
      · have := sumM_erase f h; omega
theorem sumM_le [Fuel] {f : Int → Int} (h0 : ∀ x, 0 ≤ f x) {F : Nat → Int} (hF0 : F 0 = 0) (hF : ∀ n : Nat, F (n + 1) = F n + f (n : Int)) : ∀ (n : Nat) (l : List Int), l.Nodup → (∀ x ∈ l, 0 ≤ x ∧ x < (n : Int)) → sumM f l ≤ F n
  | 0, [], _, _ => by rw [hF0]; exact Int.le_refl _
  | 0, x :: l, _, h => by have := h x List.mem_cons_self; omega
  | n + 1, l, hn, h => by
    by_cases hm : (n : Int) ∈ l
    · rw [sumM_erase f hm, hF]
      have := sumM_le h0 hF0 hF n (l.erase (n : Int)) (hn.erase _) (fun x hx => by
        have h1 := h x (List.mem_of_mem_erase hx)
        have h2 : x ≠ (n : Int) := fun e => by subst e; exact (hn.not_mem_erase) hx
        omega)
      omega
    · have := sumM_le h0 hF0 hF n l hn (fun x hx => by
        have h1 := h x hx
        have h2 : x ≠ (n : Int) := fun e => by subst e; exact hm hx
        omega)
      rw [hF]
      have := h0 (n : Int)
      omega
theorem ex_nn [Fuel] (hc : VC c) {r : Int} {t : ApiTenantState} {d : ApiTenant} (hd : 0 ≤ d.Load - d.Shadow) (j : Nat) : 0 ≤ exB c r t d j := by
  unfold exB
  cases ((lostB c t r && decide (0 ≤ t.Standby)) && (regionOf c t.Standby != r)) with
  | true => exact hit_nn hd j
  | false => exact Int.le_refl _
def exI (c : ApiConfig) (s : ApiState) (r : Int) (j : Nat) (i : Int) : Int := exB c r (tAt s i) (tn c i) j
theorem head_run [Fuel] (hc : VC c) (hI : Inv c s) (hN : NI s) {r : Int} (hh : headS c s r = true) {st : List ApiStep} {mv : List Int} (hr : Run c s s.Tenants st mv ts) : mv.Nodup → (∀ i ∈ mv, (0 ≤ i ∧ i < ((c.Tenants.length : Nat) : Int)) ∧ candB c s r i = true) →
    (st.filter (fun x => x.Kind == 1) = []) ∧ st.length = mv.length ∧ (∀ j, j < c.Cells.length → (bkS c s ts).getD j 0 ≤ (bkS c s s.Tenants).getD j 0 + sumM (exI c s r j) mv) ∧
    ∀ i, (0 ≤ i ∧ i < ((c.Tenants.length : Nat) : Int)) → candB c s r i = true → i ∉ mv → usB c s (tAt s i).Standby = true ∧ missS c s ts i ≤ 0 := by
  have hvl := hI.vs.tl
  have hct := hc.tl
  unfold headS at hh
  cases hb : (decide (r < 0) || decide (c.Regions ≤ r)) with
  | true => rw [hb] at hh; cases hh
  | false =>
  rw [hb, cond_false, Bool.and_eq_true] at hh
  have hroom : ∀ k, k < c.Cells.length → roomB c s r k = true := fun k hk => allG_all hh.1 k (Nat.zero_le _) (by omega)
  have hmoves : ∀ k, k < s.Tenants.length → movesB c s r k = true := fun k hk => allG_all hh.2 k (Nat.zero_le _) (by omega)
  -- a candidate's standby
  have hcand : ∀ i, (0 ≤ i ∧ i < ((c.Tenants.length : Nat) : Int)) → candB c s r i = true → usB c s (tAt s i).Standby = true ∧ regionOf c (tAt s i).Standby ≠ r ∧ 0 ≤ (tAt s i).Standby ∧ lostB c (tAt s i) r = true := by
    intro i hi hcb
    have hcb' := hcb
    unfold candB at hcb'
    rw [Bool.and_eq_true, beq_iff_eq] at hcb'
    have hts := hI.vs.t _ (getD_mem (xs := s.Tenants) (i := i.toNat) (by omega))
    have hpl := act_iff.1 hcb'.1
    have hhome : 0 ≤ (tAt s i).Home := hts.pl hpl.1
    have hlost : lostB c (tAt s i) r = true := by
      unfold lostB
      rw [hpl.1, hpl.2, decide_eq_true hhome, hcb'.2]; simp
    have hm := hmoves i.toNat (by omega)
    unfold movesB at hm
    have et : s.Tenants.getD i.toNat default = tAt s i := rfl
    rw [et, hlost, Bool.true_and, Bool.not_not] at hm
    unfold readyB at hm
    simp only [Bool.and_eq_true, Bool.not_eq_true', Bool.or_eq_false_iff, decide_eq_false_iff_not, beq_eq_false_iff_ne, bne_eq_false_iff_eq] at hm
    obtain ⟨⟨⟨m1, m2⟩, m3⟩, m4, m5⟩ := hm
    have hsb : 0 ≤ (tAt s i).Standby := by
      have := region_neg (i := (tAt s i).Standby) hc hts.sb.2
      rcases Int.lt_or_le (tAt s i).Standby 0 with q | q
      · exact absurd (this.2 q) m1
      · exact q
    refine ⟨?_, m2, hsb, hlost⟩
    unfold usB frzB
    have e1 : ((cAt s (tAt s i).Standby).Mode == 1) = true := by rw [beq_iff_eq]; exact m4
    have e2 : ((cAt s (tAt s i).Standby).Running == (cAt s (tAt s i).Standby).Wanted) = true := by rw [beq_iff_eq]; exact m5
    rw [decide_eq_true hsb, decide_eq_true (show (tAt s i).Standby < ((c.Cells.length : Nat) : Int) from hts.sb.2), e1, e2, m3]; rfl
  have hex : ∀ i, (0 ≤ i ∧ i < ((c.Tenants.length : Nat) : Int)) → candB c s r i = true → exI c s r (tAt s i).Standby.toNat i = (tn c i).Load - (tn c i).Shadow := by
    intro i hi hcb
    obtain ⟨_, q2, q3, q4⟩ := hcand i hi hcb
    unfold exI exB
    have e : (regionOf c (tAt s i).Standby != r) = true := by simpa using q2
    rw [q4, decide_eq_true q3, e]
    simp only [Bool.and_self, cond_true]
    exact hit_self (by omega)
  have hdn : ∀ (j : Nat) (x : Int), 0 ≤ exI c s r j x := by
    intro j x
    unfold exI
    by_cases hx : x.toNat < c.Tenants.length
    · have := diff_bd hc hx
      exact ex_nn hc this.1 j
    · have e : tn c x = default := by unfold tn; rw [List.getD_eq_getElem?_getD, List.getElem?_eq_none (by omega)]; rfl
      rw [e]
      exact ex_nn hc (by decide) j
  have hmiss : ∀ (ts : List ApiTenantState) (mv : List Int), (∀ j, j < c.Cells.length → (bkS c s ts).getD j 0 ≤ (bkS c s s.Tenants).getD j 0 + sumM (exI c s r j) mv) → mv.Nodup → (∀ i ∈ mv, (0 ≤ i ∧ i < ((c.Tenants.length : Nat) : Int)) ∧ candB c s r i = true) →
      ∀ i, (0 ≤ i ∧ i < ((c.Tenants.length : Nat) : Int)) → candB c s r i = true → i ∉ mv → ts.getD i.toNat default = tAt s i → missS c s ts i ≤ 0 := by
    intro ts mv hbk hnd hmv i hi hcb hnm het
    obtain ⟨q1, q2, q3, q4⟩ := hcand i hi hcb
    have hkr := us_rng q1
    have hle := sumM_le (hdn (tAt s i).Standby.toNat) (F := sumE c r s.Tenants (tAt s i).Standby.toNat) rfl (fun n => by
      rw [sumE]
      unfold exI tAt tn
      rw [Int.toNat_natCast]) c.Tenants.length (mv ++ [i]) (by
        rw [List.nodup_append]
        exact ⟨hnd, by simp, fun a ha b hb e => by rw [List.mem_singleton] at hb; subst hb; subst e; exact hnm ha⟩) (fun x hx => by
        rcases List.mem_append.1 hx with q | q
        · exact (hmv x q).1
        · rw [List.mem_singleton.1 q]; exact hi)
    rw [sumM_app] at hle
    have e1 : sumM (exI c s r (tAt s i).Standby.toNat) [i] = (tn c i).Load - (tn c i).Shadow := by
      rw [sumM, sumM, hex i hi hcb]; omega
    rw [e1] at hle
    have hro := hroom (tAt s i).Standby.toNat (by omega)
    unfold roomB at hro
    rw [show (((tAt s i).Standby.toNat : Nat) : Int) = (tAt s i).Standby by omega] at hro
    have e2 : (regionOf c (tAt s i).Standby != r) = true := by simpa using q2
    rw [e2, Bool.true_and, Bool.not_eq_true', decide_eq_false_iff_not] at hro
    have e3 : (extraS c s r).getD (tAt s i).Standby.toNat default = sumE c r s.Tenants (tAt s i).Standby.toNat s.Tenants.length := extra_get (by omega)
    rw [e3, hvl] at hro
    have hb2 := hbk (tAt s i).Standby.toNat (by omega)
    have e4 : (bookedS c s).getD (tAt s i).Standby.toNat default = (bkS c s s.Tenants).getD (tAt s i).Standby.toNat 0 := rfl
    rw [e4] at hro
    unfold missS
    rw [het]
    omega
  induction hr with
  | nil =>
    intro _ _
    refine ⟨rfl, rfl, fun j _ => by rw [sumM]; omega, fun i hi hcb _ => ⟨(hcand i hi hcb).1, ?_⟩⟩
    exact hmiss s.Tenants [] (fun j _ => by rw [sumM]; omega) List.nodup_nil (fun i hi => absurd hi List.not_mem_nil) i hi hcb List.not_mem_nil rfl
  | @snoc st mv ts i0 h hi hn ih =>
    intro hnd hcb
    have hnd' := hnd
    rw [List.nodup_append] at hnd
    obtain ⟨i1, i2, i3, i4⟩ := ih hnd.1 (fun j hj => hcb j (List.mem_append_left _ hj))
    have R := run_ok hc hI hN h
    have hgl := R.gs.len
    have hi0 : i0 ∉ mv := fun q => hnd.2.2 i0 q i0 (by simp) rfl
    obtain ⟨hr0, hc0⟩ := hcb i0 (by simp)
    obtain ⟨ys, G⟩ := grp hc R.gs hn
    have hkeep := run_keep hc hI hN (r := r) h hnd.1 (fun j hj => (hcb j (List.mem_append_left _ hj)).2)
    have et := hkeep i0.toNat (by omega) (by rw [show ((i0.toNat : Nat) : Int) = i0 by omega]; exact hc0) (by rw [show ((i0.toNat : Nat) : Int) = i0 by omega]; exact hi0)
    have hys : ys = [] := by
      cases ys with
      | nil => rfl
      | cons y r =>
        have := G.last [] (y :: r) rfl (by simp)
        have h0 := (i4 i0 hr0 hc0 hi0).2
        simp only [sumY] at this
        omega
    subst hys
    have hst : stpS c s ts i0 = [mvSt (ts.getD i0.toNat default).Standby i0] := G.st
    have hp : possB c s ts (mvSt (ts.getD i0.toNat default).Standby i0) = true := poss_move hi G.us G.act rfl
    have hbk' : ∀ j, j < c.Cells.length → (bkS c s (rnT c s ts (stpS c s ts i0))).getD j 0 ≤ (bkS c s s.Tenants).getD j 0 + sumM (exI c s r j) (mv ++ [i0]) := by
      intro j hj
      rw [hst, thr_rn hp]
      show (bkS c s (tkS ts _)).getD j 0 ≤ _
      obtain ⟨b1, b2⟩ := bk_move_at hc R.gs R.pi hp hj
      have h3 := i3 j hj
      have h4 := hdn j i0
      rw [sumM_app, sumM, sumM]
      by_cases hjk : (j : Int) = (ts.getD i0.toNat default).Standby
      · rw [b2 hjk]
        have he := hex i0 hr0 hc0
        have et' : ts.getD i0.toNat default = tAt s i0 := et
        rw [et'] at hjk
        have : (tAt s i0).Standby.toNat = j := by omega
        rw [this] at he
        omega
      · have := b1 hjk
        omega
    refine ⟨?_, ?_, hbk', fun i hir hicb hinm => ⟨(hcand i hir hicb).1, ?_⟩⟩
    · rw [List.filter_append, i1, hst]; rfl
    · rw [List.length_append, List.length_append, hst, i2]; rfl
    · have hall := run_keep hc hI hN (r := r) (Run.snoc h hi hn) hnd' (fun j hj => (hcb j hj).2) i.toNat (by omega) (by rw [show ((i.toNat : Nat) : Int) = i by omega]; exact hicb) (by rw [show ((i.toNat : Nat) : Int) = i by omega]; exact hinm)
      exact hmiss _ _ hbk' hnd' hcb i hir hicb hinm hall
theorem sumY_nn [Fuel] (hc : VC c) : ∀ (l : List Int), (∀ y ∈ l, 0 ≤ y ∧ y < ((c.Tenants.length : Nat) : Int)) → 0 ≤ sumY c l
  | [], _ => Int.le_refl _
  | y :: r, h => by
    have h1 := tn_bd hc (h y List.mem_cons_self)
    have h2 := sumY_nn hc r (fun z hz => h z (List.mem_cons_of_mem _ hz))
    rw [sumY]; omega
theorem VS.fs7 [Fuel] (h : VS c s) : FS c s := ⟨h.tl, h.cl, fun x hx => ⟨(h.t x hx).home, (h.t x hx).sb⟩, h.evac⟩
end
end Go.CP
namespace Go.CP
open Go
set_option linter.unusedSimpArgs false
set_option linter.unusedVariables false
section
variable {c : ApiConfig} {s : ApiState}
theorem head_congr [Fuel] {a b : ApiState} (h1 : a.Tenants = b.Tenants) (h2 : a.Cells = b.Cells) (h3 : a.Evacuating = b.Evacuating) (r : Int) : headS c a r = headS c b r := by
  have e1 : bookedS c a = bookedS c b := by unfold bookedS; rw [h1]
  have e2 : extraS c a r = extraS c b r := by unfold extraS; rw [h1]
  have e3 : roomB c a r = roomB c b r := by funext k; unfold roomB; rw [e1, e2]
  have e4 : movesB c a r = movesB c b r := by funext k; unfold movesB readyB; rw [h1, h2, h3]
  unfold headS
  rw [e3, e4, h1]
theorem head_made [Fuel] (hc : VC c) (hI : Inv c s) (hN : NI s) {r : Int} (hh : headS c s r = true) : (mkS c s r).2.2 = [] ∧ evacplan_Shed { Region := r, Steps := (mkS c s r).2.1, Left := (mkS c s r).2.2 } = some [] := by
  have hv := hI.vs
  obtain ⟨mv, M⟩ := made hc hv r
  have hvl := hv.tl
  have R := run_ok hc hI hN M.run
  have hml := mk_len hc hv r
  have hpn : (mv ++ (mkS c s r).2.2).Nodup := M.perm.nodup_iff.2 (cand_nodup hc)
  have hmem : ∀ i, i ∈ mv ++ (mkS c s r).2.2 → (0 ≤ i ∧ i < ((c.Tenants.length : Nat) : Int)) ∧ candB c s r i = true := fun i hi => (cand_mem hc).1 (M.perm.mem_iff.1 hi)
  obtain ⟨f1, f2, f3, f4⟩ := head_run hc hI hN hh M.run (List.nodup_append.1 hpn).1 (fun i hi => hmem i (List.mem_append_left _ hi))
  have hleft : (mkS c s r).2.2 = [] := by
    rw [List.eq_nil_iff_forall_not_mem]
    intro i hi
    obtain ⟨hir, hcb⟩ := hmem i (List.mem_append_right _ hi)
    have hnm : i ∉ mv := fun q => (List.nodup_append.1 hpn).2.2 i q i hi rfl
    obtain ⟨u, ms⟩ := f4 i hir hcb hnm
    have hti := run_keep hc hI hN (r := r) M.run (List.nodup_append.1 hpn).1 (fun j hj => (hmem j (List.mem_append_left _ hj)).2) i.toNat (by omega) (by rw [show ((i.toNat : Nat) : Int) = i by omega]; exact hcb) (by rw [show ((i.toNat : Nat) : Int) = i by omega]; exact hnm)
    have et : s.Tenants.getD i.toNat default = tAt s i := rfl
    rw [et] at hti
    unfold candB at hcb
    rw [Bool.and_eq_true] at hcb
    have hno := no_grp (s := s) hc R.gs (i := i) (by rw [hti]; exact hcb.1) (by rw [hti]; exact u) (M.left i hi)
    have hgl := R.gs.len
    have := sumY_nn hc (lowS c (mkS c s r).1 ((mkS c s r).1.getD i.toNat default).Standby (tn c i).Priority) (fun y hy => by have := (low_all hc R.gs hy).1; omega)
    omega
  refine ⟨hleft, ?_⟩
  unfold evacplan_Shed
  rw [named_p (by show (mkS c s r).2.1.length ≤ _; omega)]
  show some (((mkS c s r).2.1.filter (fun x => x.Kind == 1)).map (·.Tenant)) = _
  rw [f1]; rfl
theorem undo_calm [Fuel] (h : VC c) (hI : Inv c s) {tick : Int} (ht : s.Tick ≤ tick ∧ tick ≤ 1073741824) (hcnt : s.Count ≤ 1000) : (undoF c s tick s.Cells.length).2.Cells = calmC s.Cells := by
  have u := undo_up h hI tick s.Cells.length
  have a := undo_ua h hI ht hcnt s.Cells.length (Nat.le_refl _)
  apply List.ext_getElem
  · rw [u.cl]; simp [calmC]
  · intro j h1 h2
    have hj : j < s.Cells.length := by rw [← u.cl]; exact h1
    have := a.lt j hj
    rw [List.getD_eq_getElem?_getD, List.getElem?_eq_getElem h1, List.getD_eq_getElem?_getD, List.getElem?_eq_getElem hj] at this
    simp only [Option.getD_some] at this
    rw [this]
    simp [calmC]
theorem blk_nil [Fuel] {s : ApiState} (hv : VS c s) (hq : ∀ x ∈ s.Cells, x.Running = x.Wanted) (r : Int) : ∀ k, k ≤ s.Tenants.length → blkF c s r k = []
  | 0, _ => rfl
  | k + 1, hk => by
    rw [blkF, blk_nil hv hq r k (by omega)]
    have : blkB c s r (s.Tenants.getD k default) = false := by
      have hts := hv.t _ (getD_mem (show k < s.Tenants.length by omega))
      unfold blkB
      by_cases z : 0 ≤ (s.Tenants.getD k default).Standby
      · have hcl := hv.cl
        have hsb := hts.sb
        have := hq (cAt s (s.Tenants.getD k default).Standby) (getD_mem (by omega))
        have e : ((cAt s (s.Tenants.getD k default).Standby).Running != (cAt s (s.Tenants.getD k default).Standby).Wanted) = false := by rw [this]; simp
        rw [e]; simp
      · rw [decide_eq_false z]; simp
    rw [this]; rfl
theorem helps_l1 [Fuel] (hc : VC c) (hI : Inv c s) (hN : NI s) {r : Int} (hr : 0 ≤ r ∧ r < c.Regions) {tick : Int} (ht : s.Tick ≤ tick ∧ tick ≤ 1073741824) (hcnt : s.Count ≤ 1000) :
    Ok (law40_FreezeHelps_l1 r (headS c { s with Cells := calmC s.Cells } r) (undoF c s tick s.Cells.length).1 c (((undoF c s tick s.Cells.length).1.length : Nat) : Int) fuel s 0) (fun b => b = true) := by
  have u := undo_up hc hI tick s.Cells.length
  have hcl := hI.vs.cl
  have hcl2 := hc.cl
  have ul := u.len
  have hcalm := undo_calm hc hI ht hcnt
  refine loop0 (L := fun m x i => law40_FreezeHelps_l1 r (headS c { s with Cells := calmC s.Cells } r) (undoF c s tick s.Cells.length).1 c (((undoF c s tick s.Cells.length).1.length : Nat) : Int) m x i) (undoF c s tick s.Cells.length).1.length (by omega)
    (fun k x => x = runS c s ((undoF c s tick s.Cells.length).1.take k)) rfl ?_ ?_
  · rintro m k x hk rfl ih
    show Ok (law40_FreezeHelps_l1 _ _ _ c _ (m + 1) _ k) _
    obtain ⟨a1, a2, a3⟩ := okS_get _ s k u.ok hk
    have hIk := run_inv hc _ s hI a3
    rw [law40_FreezeHelps_l1, condT (by omega), ixL_ok (by omega) (by omega), Int.toNat_natCast, state_apply hc hIk, Option.bind_some, w64_eq (by omega) (by omega)]
    exact ih _ a2.symm
  · rintro m x rfl
    show Ok (law40_FreezeHelps_l1 _ _ _ c _ (m + 1) _ _) _
    rw [law40_FreezeHelps_l1, condF (by omega), List.take_length, u.run, blocked_p hc u.inv, Option.bind_some]
    have hb : blkF c (undoF c s tick s.Cells.length).2 r (undoF c s tick s.Cells.length).2.Tenants.length = [] := by
      refine blk_nil u.inv.vs (fun x hx => ?_) r _ (Nat.le_refl _)
      rw [hcalm] at hx
      unfold calmC at hx
      obtain ⟨y, _, rfl⟩ := List.mem_map.1 hx
      rfl
    have hh : headS c (undoF c s tick s.Cells.length).2 r = headS c { s with Cells := calmC s.Cells } r := head_congr (b := { s with Cells := calmC s.Cells }) u.ten hcalm u.ev r
    have hN' : NI (undoF c s tick s.Cells.length).2 := by rw [← u.run]; exact run_ni hc _ s hI hN u.ok
    have hm := head_made hc u.inv hN' (r := r)
    rw [hb, load_head hc u.inv.vs.fs7, hh]
    rw [hh] at hm
    generalize headS c { s with Cells := calmC s.Cells } r = b at *
    have e0 : decide ((0 : Int) < ((([] : List Int).length : Nat) : Int)) = false := rfl
    rw [e0]
    simp only [Bool.not_false, cond_true, Option.bind_some, Bool.false_or, beq_self_eq_true, Bool.not_true, cond_false]
    rw [make_p hc u.inv.vs hr, Option.bind_some]
    cases b with
    | false =>
      simp only [Bool.not_false, Bool.not_true, Bool.and_false, Bool.false_and, cond_false, Option.bind_some, Bool.true_or]
      exact Ok.some rfl
    | true =>
      obtain ⟨h1, h2⟩ := hm rfl
      rw [h2]
      simp only [h1]
      exact Ok.some rfl
theorem FreezeHelps_true [Fuel] {p1 p2 : List Int} {p3 : Bool} {p4 : Int} (h1 : ∀ x ∈ p1, I64 x) (h2 : ∀ x ∈ p2, I64 x) (h4 : I64 p4) : law40_FreezeHelps p1 p2 p3 p4 = some true := by
  apply okT
  unfold law40_FreezeHelps mill_Light
  rw [awake40]
  simp only [Option.bind_some, Bool.not_true, cond_false, bifS]
  refine Ok.cond (fun _ => Ok.some rfl) (fun q => ?_)
  have hl := light2 q
  refine Ok.bind (worlds_ok (p3 := p3) ⟨h1, by omega⟩ ⟨h2, by omega⟩) (fun w hr => ?_)
  obtain ⟨c, s⟩ := w
  obtain ⟨hc, hrs⟩ := hr
  have hreg := hc.reg
  refine Ok.bind (mmod_ok h4 hreg.1 (by omega)) (fun r hrg => ?_)
  have hI := hrs.inv hc
  have htk := hrs.tick
  have hcnt := hrs.cnt
  have htk0 := hI.vs.tick
  simp only at hc hrs hreg hrg hI htk hcnt htk0 ⊢
  rw [frzready_p hc hI r, Option.bind_some, undo_p hc hI, Option.bind_some]
  exact helps_l1 hc hI (hrs.ni hc) hrg ⟨Int.le_refl _, by omega⟩ (by omega)
end
end Go.CP
namespace Go.AM
open Go Go.RowKit Go.CP
set_option linter.unusedVariables false
def SimCs (w : World) (ys : List CV) (cs : List Value) : Prop :=
  cs.length = ys.length ∧ ∀ (j : Nat) y v, ys[j]? = some y → cs[j]? = some v → SimC w (fun _ => False) y v ∧ v.oneCell' = true
theorem simCs_nil {w : World} : SimCs w [] [] := ⟨rfl, fun j y v h => by simp at h⟩
theorem simCs_cons {w : World} {y : CV} {ys : List CV} {v : Value} {vs : List Value} (h : SimC w (fun _ => False) y v) (h1 : v.oneCell' = true) (t : SimCs w ys vs) : SimCs w (y :: ys) (v :: vs) := by
  refine ⟨by simp [t.1], fun j y' v' e1 e2 => ?_⟩
  cases j with
  | zero => simp at e1 e2; subst e1; subst e2; exact ⟨h, h1⟩
  | succ j => simp at e1 e2; exact t.2 j y' v' e1 e2
theorem simCs_int {w : World} {k : IntKind} {x : Int} {ys : List CV} {vs : List Value} (t : SimCs w ys vs) : SimCs w (.val (.int k x) :: ys) (.int k x :: vs) := simCs_cons (.val _) rfl t
section
variable {H : Type} {encH : TypeId × Value → H} {P : Program} {w : World} {base : Nat} {spare : Nat → Bool} {held : Bool}
def Opn {α : Type} (encH : TypeId × Value → H) (P : Program) (w : World) (base : Nat) (spare : Nat → Bool) (held : Bool) (t : TypeId) (enc : α → List CV) (Inv : α → Prop) : Prop :=
  ∀ n cs x, DataW.trod encH P w base spare held n t cs = some x → ∃ a, Inv a ∧ SimCs w (enc a) cs
theorem opn_int {t : TypeId} {k : IntKind} (ht : P.underlying t = some (.int k)) : Opn encH P w base spare held t (e_int k) (fun n => (Lit.int k n).wf = true) := by
  intro n cs x h
  obtain ⟨m, rfl, _, hw⟩ := DataW.trod_int ht h
  exact ⟨m, hw, simCs_int simCs_nil⟩
theorem opn_slice {t e : TypeId} {z : Nat} {τ : Ty} {Inv : den τ → Prop} (ht : P.underlying t = some (.slice e)) (hc : P.cellsOf e = z) (hz0 : 0 < z) (hw : wd τ = z)
    (he : Opn encH P w base spare held e (encT τ) Inv) : Opn encH P w base spare held t (fun xs : List (den τ) => [CV.ls τ xs]) (fun xs => ∀ x ∈ xs, Inv x) := by
  have hz : ∀ a : den τ, (encT τ a).length = z := fun a => by rw [encT_len, hw]
  intro n cs x h
  rcases Deep.open_slice ht h with ⟨rfl, _⟩ | ⟨a, len, cap, m, n, D, Pl, rfl, hb, hl, hm, hmm, _, hx⟩
  · exact ⟨[], by simp, simCs_cons (.ls _ _ _ (.rd0 _ _ _ _)) rfl simCs_nil⟩
  have hlm : len ≤ m := by rw [hmm]; split <;> omega
  have each : ∀ i, i < len → ∃ q : den τ × List Value, Inv q.1 ∧ SimCs w (encT τ q.1) q.2 ∧ q.2.length = z ∧ ∀ j, j < z → w.cell? ((a.add (i * z)).add j) = q.2[j]? := by
    intro i hi
    obtain ⟨cs', h1, h2⟩ := hx i (by omega)
    rw [hc] at h1
    obtain ⟨_, hlen, hcell⟩ := World.cells?_some h1
    obtain ⟨y, hy, hs⟩ := he _ _ _ h2
    exact ⟨(y, cs'), hy, hs, hlen, hcell⟩
  obtain ⟨q, hq⟩ := Deep.choose_lt each
  refine ⟨(List.range len).map (fun i => (q i).1), ?_, simCs_cons (.ls _ _ _ ?_) rfl simCs_nil⟩
  · intro y hy
    obtain ⟨i, hi, rfl⟩ := List.mem_map.1 hy
    exact (hq i (List.mem_range.1 hi)).1
  · rw [hw]
    have hln : ((List.range len).map (fun i => (q i).1)).length = len := by simp
    have hg : ∀ i, i < len → ((List.range len).map (fun i => (q i).1)).getD i default = (q i).1 := by
      intro i hi
      simp [List.getD_eq_getElem?_getD, hi]
    rcases Nat.eq_zero_or_pos len with h0 | h0
    · subst h0; exact .rd0 _ _ _ _
    rw [hln]
    obtain ⟨b, off, spot⟩ := a
    have hsome : ∀ i j, i < len → j < z → (q i).2[j]? = some ((q i).2.getD j undef) := by
      intro i j hi hj
      have : j < (q i).2.length := by rw [(hq i hi).2.2.1]; exact hj
      simp [List.getD_eq_getElem?_getD, this]
    have hsp : spot = none ∧ b < w.heap.size := by
      have h1 := (hq 0 h0).2.2.2 0 hz0
      rw [hsome 0 0 h0 hz0, Nat.zero_mul] at h1
      have ez : ∀ x : Addr, x.add 0 = x := fun x => rfl
      rw [ez, ez] at h1
      unfold World.cell? at h1
      split at h1
      · rename_i heq
        refine ⟨?_, ?_⟩
        · cases spot with
          | none => rfl
          | some s => simp at h1
        · rw [Array.getElem?_eq_some_iff] at heq; exact heq.1
      · cases h1
    obtain ⟨rfl, hbs⟩ := hsp
    have c0 : ∀ i j, i < len → j < z → w.cell? ⟨b, off + (i * z + j), none⟩ = (q i).2[j]? := by
      intro i j hi hj
      have := (hq i hi).2.2.2 j hj
      rw [WideShapes.add_plain, WideShapes.add_plain, Nat.add_assoc] at this
      exact this
    have dm : ∀ j, j < len * z → j / z < len ∧ j % z < z ∧ j / z * z + j % z = j := by
      intro j hj
      refine ⟨(Nat.div_lt_iff_lt_mul hz0).2 hj, Nat.mod_lt _ hz0, ?_⟩
      rw [Nat.mul_comm]; exact Nat.div_add_mod j z
    refine .rd z len _ b off cap (fun j => (q (j / z)).2.getD (j % z) undef) (fun h => h) hbs hl ?_ ?_ ?_ ?_
    · intro i hi; exact hz _
    · intro j hj
      obtain ⟨h1, h2, h3⟩ := dm j hj
      have := c0 (j / z) (j % z) h1 h2
      rw [h3, hsome _ _ h1 h2] at this
      exact this
    · intro j hj
      obtain ⟨h1, h2, h3⟩ := dm j hj
      have hs := (hq (j / z) h1).2.1
      have hlt : j % z < (encT τ (q (j / z)).1).length := by rw [hz]; exact h2
      exact (hs.2 (j % z) ((encT τ (q (j / z)).1)[j % z]) _ (List.getElem?_eq_getElem hlt) (hsome _ _ h1 h2)).2
    · intro i j y hi hy
      unfold fE at hy; rw [hg i hi] at hy
      have hj : j < z := by rw [← hz (q i).1]; exact (List.getElem?_eq_some_iff.1 hy).1
      have e1 : (i * z + j) / z = i := by rw [Nat.mul_comm, Nat.mul_add_div hz0, Nat.div_eq_of_lt hj, Nat.add_zero]
      have e2 : (i * z + j) % z = j := by rw [Nat.mul_comm, Nat.mul_add_mod, Nat.mod_eq_of_lt hj]
      simp only [e1, e2]
      exact ((hq i hi).2.1.2 j y _ hy (hsome i j hi hj)).1
theorem opn_arg {t : TypeId} {τ : Ty} {Inv : List (den τ) → Prop} {a : Option Addr} {len cap : Nat} {d : DataW H} {ps : List MemPlace}
    (he : Opn encH P w base spare held t (fun xs : List (den τ) => [CV.ls τ xs]) Inv) (h : DataW.Trod encH P w base spare held t (.slice a len cap) d ps) : ∃ xs : List (den τ), Inv xs ∧ SimV w (fun _ => none) (fun _ => False) (.one (.s (.c (.ls τ xs)))) (.slice a len cap) := by
  obtain ⟨n, hn⟩ := h
  obtain ⟨xs, hi, hs⟩ := he _ _ _ hn
  refine ⟨xs, hi, ?_⟩
  exact .c (hs.2 0 _ (.slice a len cap) rfl rfl).1
theorem wf_i64 {x : Int} (h : (Lit.int .i64 x).wf = true) : -9223372036854775808 ≤ x ∧ x < 9223372036854775808 := by
  simp only [Lit.wf, decide_eq_true_eq, Bool.and_eq_true] at h
  have e1 : IntKind.i64.min = -9223372036854775808 := by decide
  have e2 : IntKind.i64.max = 9223372036854775807 := by decide
  omega
theorem mx_none : MX (fun _ => False) (fun _ => none) [] = fun _ => False := by
  funext b
  simp only [MX, Mut]
  apply propext
  constructor
  · rintro (h | ⟨k, o, l, hk, _⟩)
    · exact h
    · simp at hk
  · exact fun h => h.elim
theorem CallA.law {P : Program} {f : FuncId} {args : List SV} {v : Value} (hA : CallA P f args [] (fun r' h' => r' = mkv v ∧ h' = [])) {w : World} {vs : List Value}
    (ha : All2 (SimV w (fun _ => none) (fun _ => False)) args vs) :
    Calls P f vs.toArray w fun e w' => e = .returned v ∧ w'.os = w.os ∧ w'.tape = w.tape ∧ w'.output = w.output ∧ w.heap.size ≤ w'.heap.size ∧ ∀ b, b < w.heap.size → w'.heap[b]? = w.heap[b]? := by
  have hH : HeapRel (fun _ => False) w (fun _ => none) [] := ⟨fun k o hk => by simp at hk, fun k k' o o' l l' b e1 => by simp at e1, fun _ _ => rfl, fun b hb => fun h => h, fun b h => h.elim⟩
  refine (hA (fun _ => False) w (fun _ => none) vs hH (by rw [mx_none]; exact ha)).mono (fun e w' he => ?_)
  obtain ⟨v', r', h', m', rfl, ⟨rfl, rfl⟩, H', hsim, hfr, hmt, hid⟩ := he
  have : v' = v := by cases hsim with | c h => cases h; rfl
  subst this
  exact ⟨rfl, hfr.os, hfr.tape, hfr.output.1, hfr.size, fun b hb => hfr.keep b hb (by rintro ⟨k, o, l, hk, _⟩; simp at hk)⟩
theorem CallA.below {P : Program} {f : FuncId} {args : List SV} {v : Value} (hA : CallA P f args [] (fun r' h' => r' = mkv v ∧ h' = [])) {w : World} {vs : List Value}
    (ha : All2 (SimV w (fun _ => none) (fun _ => False)) args vs) : Calls P f vs.toArray w fun e w' => e = .returned v ∧ Below w.heap.size w w' :=
  (CallA.law hA ha).mono fun e w' ⟨h1, h2, h3, h4, h5, h6⟩ => ⟨h1, ⟨h2, h3, h4, h5, h6⟩⟩
end
theorem FnOk.below {P : Program} {S : TSpec} (h : FnOk P S) (v : S.ps.V) {r : S.β} (hF : S.F v = some r) (h0 : eOs S.ps.objs v.2 = []) (h1 : eOs S.rs.objs (S.g r).2 = []) {y : Value} (hy : packR (eSs S.rs.slots (S.g r).1) = mkv y) {w : World} {vs : List Value}
    (ha : All2 (SimV w (fun _ => none) (fun _ => False)) ((eSs S.ps.slots v.1).map (·.2)) vs) : Calls P S.f vs.toArray w fun e w' => e = .returned y ∧ Below w.heap.size w w' := by
  have := h.2 v r hF
  rw [h0, h1, hy] at this
  exact this.below ha
end Go.AM
