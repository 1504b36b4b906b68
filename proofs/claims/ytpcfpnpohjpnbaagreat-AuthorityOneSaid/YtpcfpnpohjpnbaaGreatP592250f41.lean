/- Windows of authority: the program and the reference make the same; the law AuthorityWindows. -/
import Derived.Deep.Slices
import Derived.ChangeArms
import Derived.Below
import Derived.Test.YtpcfpnpohjpnbaaGreatP439587d8b
namespace Go.CP
open Go
set_option linter.unusedSimpArgs false
set_option linter.unusedVariables false
section
variable {c : ApiConfig} {s : ApiState}
theorem ms_get [Fuel] {α : Type} [Inhabited α] {f : α → α} {l : List α} {k : Nat} (hk : k < l.length) : ((l.take k).map f ++ l.drop k).getD k default = l.getD k default := by
  have hl : ((l.take k).map f).length = k := by simp; omega
  rw [List.getD_eq_getElem?_getD, List.getElem?_append_right (by omega), hl, Nat.sub_self, List.getElem?_drop, Nat.add_zero, List.getD_eq_getElem?_getD]
theorem ms_set [Fuel] {α : Type} [Inhabited α] {f : α → α} {l : List α} {k : Nat} (hk : k < l.length) : ((l.take k).map f ++ l.drop k).set k (f (l.getD k default)) = (l.take (k + 1)).map f ++ l.drop (k + 1) := by
  have hl : ((l.take k).map f).length = k := by simp; omega
  have ed : l.drop k = l.getD k default :: l.drop (k + 1) := by rw [List.drop_eq_getElem_cons hk]; simp [List.getD_eq_getElem?_getD, hk]
  have et : l.take (k + 1) = l.take k ++ [l.getD k default] := by rw [List.take_add_one]; simp [List.getD_eq_getElem?_getD, hk]
  rw [List.set_append_right _ _ (by omega), hl, Nat.sub_self, ed, List.set_cons_zero, et, List.map_append, List.append_assoc]
  rfl
theorem ms_len [Fuel] {α : Type} {f : α → α} {l : List α} {k : Nat} (hk : k ≤ l.length) : ((l.take k).map f ++ l.drop k).length = l.length := by simp; omega
theorem acut_p [Fuel] {sp : List ApiSpan} (hl : sp.length ≤ 1000) {e : ApiEntry} (ht : 0 ≤ e.Tick ∧ e.Tick ≤ 1073741824) : authority_cut sp e = some (sp.map (ctOf e)) := by
  unfold authority_cut
  apply eqOk
  refine loop0 (L := fun m x i => authority_cut_l2 e ((sp.length : Nat) : Int) m x i) sp.length (by omega) (fun k x => x = (sp.take k).map (ctOf e) ++ sp.drop k) (by simp) ?_ ?_
  · rintro m k x hk rfl ih
    show Ok (authority_cut_l2 e _ (m + 1) _ k) _
    have hlen := ms_len (f := ctOf e) (l := sp) (k := k) (by omega)
    have nx := ih _ rfl
    rw [← ms_set hk] at nx
    rw [authority_cut_l2, condT (by omega), ixL_ok (by omega) (by omega), Int.toNat_natCast, ms_get hk]
    unfold authority_cut_k1
    rw [w64_eq (x := (k : Int) + 1) (by omega) (by omega)]
    unfold ctOf at nx
    cases hq : ((sp.getD k default).Tenant == e.Tenant) with
    | true =>
      rw [hq, cond_true] at nx
      rw [cond_true, ixL_ok (by omega) (by omega), Int.toNat_natCast]
      unfold letD
      have hg : ((sp.take k).map (ctOf e) ++ sp.drop k).getD k default = sp.getD k default := ms_get hk
      dsimp only
      rw [hg, getD_set (by omega), List.set_set, w64_eq (x := e.Tick + 1) (by omega) (by omega)]
      exact nx
    | false =>
      rw [hq, cond_false] at nx
      rw [cond_false]
      have hid : ((sp.take k).map (ctOf e) ++ sp.drop k).set k (sp.getD k default) = (sp.take k).map (ctOf e) ++ sp.drop k := by
        rw [← ms_get (f := ctOf e) hk]
        apply List.ext_getElem?
        intro j
        rw [List.getElem?_set]
        by_cases q : k = j
        · subst q
          rw [if_pos rfl, if_pos (by omega), List.getD_eq_getElem?_getD, List.getElem?_eq_getElem (by omega)]; rfl
        · rw [if_neg q]
      have nx' : Ok (authority_cut_l2 e ((sp.length : Nat) : Int) m (((sp.take k).map (ctOf e) ++ sp.drop k).set k (sp.getD k default)) ((k : Int) + 1)) (fun r => r = sp.map (ctOf e)) := nx
      rw [hid] at nx'
      exact nx'
  · rintro m x rfl
    show Ok (authority_cut_l2 e _ (m + 1) _ _) _
    rw [authority_cut_l2, condF (by omega)]
    exact Ok.some (by simp)
def fuB (x : ApiSpan) : Bool := !(x.Window.From == x.Window.Until)
theorem del_p [Fuel] {sp : List ApiSpan} (hl : sp.length ≤ 1000) : slices_DeleteFunc_api_Span_api_Span sp = some (sp.filter fuB) := by
  unfold slices_DeleteFunc_api_Span_api_Span
  -- the first that goes
  have hix : Ok (slices_IndexFunc_api_Span_api_Span sp) (fun i => (i = -1 ∧ ∀ j, j < sp.length → fuB (sp.getD j default) = true) ∨ ∃ k : Nat, i = (k : Int) ∧ k < sp.length ∧ fuB (sp.getD k default) = false ∧ ∀ j, j < k → fuB (sp.getD j default) = true) := by
    unfold slices_IndexFunc_api_Span_api_Span
    refine loop0 (L := fun m (_ : Unit) i => slices_IndexFunc_api_Span_api_Span_l1 sp ((sp.length : Nat) : Int) m i) (x := ()) sp.length (by omega) (fun k _ => ∀ j, j < k → fuB (sp.getD j default) = true) (fun j hj => absurd hj (Nat.not_lt_zero _)) ?_ ?_
    · rintro m k _ hk hI ih
      show Ok (slices_IndexFunc_api_Span_api_Span_l1 sp _ (m + 1) k) _
      rw [slices_IndexFunc_api_Span_api_Span_l1, condT (by omega), ixL_ok (by omega) (by omega), Int.toNat_natCast]
      unfold authority_Windows_1
      rw [Option.bind_some, w64_eq (by omega) (by omega)]
      cases hq : ((sp.getD k default).Window.From == (sp.getD k default).Window.Until) with
      | true => exact Ok.some (.inr ⟨k, rfl, hk, by unfold fuB; rw [hq]; rfl, hI⟩)
      | false =>
        refine ih () (fun j hj => ?_)
        by_cases e : j = k
        · subst e; unfold fuB; rw [hq]; rfl
        · exact hI j (by omega)
    · rintro m _ hI
      show Ok (slices_IndexFunc_api_Span_api_Span_l1 sp _ (m + 1) _) _
      rw [slices_IndexFunc_api_Span_api_Span_l1, condF (by omega)]
      exact Ok.some (.inl ⟨rfl, hI⟩)
  have hall : ∀ k, k ≤ sp.length → (∀ j, j < k → fuB (sp.getD j default) = true) → (sp.take k).filter fuB = sp.take k := by
    intro k hk h
    rw [List.filter_eq_self]
    intro x hx
    obtain ⟨j, hj, rfl⟩ := List.getElem_of_mem hx
    rw [List.length_take] at hj
    have := h j (by omega)
    rw [List.getD_eq_getElem?_getD, List.getElem?_eq_getElem (by omega)] at this
    rw [List.getElem_take]; exact this
  apply eqOk
  refine Ok.bind hix (fun i hi => ?_)
  rcases hi with ⟨rfl, h⟩ | ⟨k, rfl, hk, hk0, h⟩
  · refine Ok.some ?_
    have := hall sp.length (Nat.le_refl _) h
    rw [List.take_length] at this
    exact this.symm
  · have e : ((k : Int) == -1) = false := by rw [beq_eq_false_iff_ne]; omega
    rw [e, cond_false, w64_eq (by omega) (by omega)]
    -- the loop
    have key : ∀ (m j : Nat) (x : List ApiSpan) (i : Nat), i ≤ j → j ≤ sp.length → sp.length - j < m → x.length = sp.length → x.take i = (sp.take j).filter fuB → x.drop j = sp.drop j → i = ((sp.take j).filter fuB).length →
        Ok (slices_DeleteFunc_api_Span_api_Span_l2 m x (i : Int) (j : Int)) (fun r => r = sp.filter fuB) := by
      intro m
      induction m with
      | zero => intro j x i _ _ h; exact absurd h (Nat.not_lt_zero _)
      | succ m ih =>
        intro j x i h1 h2 h3 h4 h5 h6 h7
        rw [slices_DeleteFunc_api_Span_api_Span_l2]
        by_cases hj : j < sp.length
        · have hxj : x.getD j default = sp.getD j default := by
            have : (x.drop j)[0]? = (sp.drop j)[0]? := by rw [h6]
            rw [List.getElem?_drop, List.getElem?_drop, Nat.add_zero] at this
            rw [List.getD_eq_getElem?_getD, List.getD_eq_getElem?_getD, this]
          have hts : (sp.take (j + 1)).filter fuB = (sp.take j).filter fuB ++ (if fuB (sp.getD j default) then [sp.getD j default] else []) := by
            rw [List.take_add_one, List.filter_append]
            congr 1
            rw [List.getElem?_eq_getElem hj, List.getD_eq_getElem?_getD, List.getElem?_eq_getElem hj]
            simp [List.filter_cons]
          rw [condT (by omega), ixL_ok (by omega) (by omega), Int.toNat_natCast, hxj]
          unfold authority_Windows_1 slices_DeleteFunc_api_Span_api_Span_k1
          rw [Option.bind_some, w64_eq (x := (j : Int) + 1) (by omega) (by omega)]
          have hdr : x.drop (j + 1) = sp.drop (j + 1) := by
            have := congrArg (List.drop 1) h6
            rw [List.drop_drop, List.drop_drop] at this; exact this
          cases hq : ((sp.getD j default).Window.From == (sp.getD j default).Window.Until) with
          | false =>
            have hf : fuB (sp.getD j default) = true := by unfold fuB; rw [hq]; rfl
            rw [hf, if_pos rfl] at hts
            rw [Bool.not_false, cond_true, ixL_ok (by omega) (by omega), Int.toNat_natCast, w64_eq (x := (i : Int) + 1) (by omega) (by omega)]
            unfold letD
            have := ih (j + 1) (x.set i (sp.getD j default)) (i + 1) (by omega) (by omega) (by omega) (by rw [List.length_set]; exact h4) (by
              rw [hts, ← h5]
              have hi : i < x.length := by omega
              rw [List.take_add_one, List.take_set_of_le (Nat.le_refl _), List.getElem?_set_self hi]; rfl) (by
              rw [List.drop_set_of_lt (by omega)]; exact hdr) (by rw [hts, List.length_append, ← h7]; rfl)
            simpa using this
          | true =>
            have hf : fuB (sp.getD j default) = false := by unfold fuB; rw [hq]; rfl
            rw [hf] at hts
            simp only [Bool.false_eq_true, if_false, List.append_nil] at hts
            rw [Bool.not_true, cond_false]
            have := ih (j + 1) x i (by omega) (by omega) (by omega) h4 (by rw [hts]; exact h5) hdr (by rw [hts]; exact h7)
            simpa using this
        · have : j = sp.length := by omega
          subst this
          rw [List.take_length] at h5
          have hi : i ≤ x.length := by omega
          have e1 : (((x.length : Nat) : Int)).toNat = x.length := by omega
          have hcl : (cpyL (0 + i) (x.length - i) x (List.replicate (x.length - i) (default : ApiSpan))).length = x.length := by
            unfold cpyL; simp; omega
          rw [condF (by omega)]
          simp only [Int.toNat_natCast, e1]
          rw [chkD_ok (by omega), chkD_ok (by omega), hcl, chkD_ok (by omega), chkD_ok (by omega)]
          refine Ok.some ?_
          rw [← h5]
          unfold cpyL
          rw [Nat.zero_add, List.take_append_of_le_length (by simp; omega), List.take_take, Nat.min_self]
    have hts0 : (sp.take (k + 1)).filter fuB = sp.take k := by
      rw [List.take_add_one, List.filter_append, hall k (by omega) h, List.getElem?_eq_getElem hk]
      rw [List.getD_eq_getElem?_getD, List.getElem?_eq_getElem hk] at hk0
      have hk0' : fuB sp[k] = false := hk0
      simp [List.filter_cons, hk0']
    have := key fuel (k + 1) sp k (by omega) (by omega) (by rw [fuel_eq]; omega) rfl (by rw [hts0]) rfl (by rw [hts0, List.length_take]; omega)
    simpa using this
theorem or2_eq [Fuel] (a b : Int) : cmp_Or_int [a, b] = some (if a ≠ 0 then a else b) := by
  obtain ⟨m, hm⟩ : ∃ m, fuel = m + 3 := ⟨fuel - 3, by rw [fuel_eq]⟩
  unfold cmp_Or_int
  rw [hm]
  have l2 : (([a, b].length : Nat) : Int) = 2 := rfl
  have w1 : w64 (0 + 1) = 1 := by decide
  have w2 : w64 (1 + 1) = 2 := by decide
  rw [l2, cmp_Or_int_l1, condT (by decide), ixL_ok (by decide) (by rw [l2]; decide), w1, cmp_Or_int_l1, condT (by decide), ixL_ok (by decide) (by rw [l2]; decide), w2, cmp_Or_int_l1, condF (by decide)]
  show (bif a != 0 then some a else bif b != 0 then some b else some 0) = _
  by_cases h1 : a = 0
  · subst h1
    by_cases h2 : b = 0
    · subst h2; rfl
    · rw [condEq, condNe h2]; rfl
  · rw [condNe h1, if_pos h1]
theorem sp_cmp [Fuel] (x y : ApiSpan) : ∃ q, authority_Windows_2 x y = some q ∧ decide (q < 0) = klt x y := by
  unfold authority_Windows_2
  simp only [compare_eq, Option.bind_some, or2_eq]
  refine ⟨_, rfl, ?_⟩
  unfold klt cmpI
  by_cases h1 : x.Tenant < y.Tenant
  · rw [if_pos h1, if_pos (by decide), decide_eq_true h1]; rfl
  · by_cases h2 : y.Tenant < x.Tenant
    · rw [if_neg h1, if_pos h2, if_pos (by decide), decide_eq_false h1]
      have : (x.Tenant == y.Tenant) = false := by rw [beq_eq_false_iff_ne]; omega
      rw [this]; rfl
    · have e : x.Tenant = y.Tenant := by omega
      rw [if_neg h1, if_neg h2, if_neg (by simp), decide_eq_false h1, e]
      by_cases h3 : x.Index < y.Index
      · rw [if_pos h3, decide_eq_true h3]; simp
      · rw [if_neg h3, decide_eq_false h3]
        by_cases h4 : y.Index < x.Index
        · rw [if_pos h4]; simp
        · rw [if_neg h4]; simp
theorem pwB_of [Fuel] {α : Type} {lt : α → α → Bool} : ∀ {xs : List α}, xs.Pairwise (fun a b => (lt a b || lt b a) = true) → pwB lt xs = true
  | [], _ => rfl
  | x :: r, h => by
    rw [List.pairwise_cons] at h
    rw [pwB, Bool.and_eq_true, List.all_eq_true]
    exact ⟨h.1, pwB_of h.2⟩
theorem sortQ_ok [Fuel] {α : Type} {lt : α → α → Bool} {cmp : α → α → Option Int} {xs : List α} (hl : xs.length < 4611686018427387904) (hc : ∀ x y, ∃ q, cmp x y = some q ∧ decide (q < 0) = lt x y) (irr : ∀ x, lt x x = false) (tr : ∀ x y z, lt x y = true → lt y z = true → lt x z = true) (nt : ∀ x y z, lt x y = false → lt y z = false → lt x z = false) (asy : ∀ a b, lt a b = true → lt b a = false)
    (tot : xs.Pairwise (fun a b => (lt a b || lt b a) = true)) : Ok (sortQ cmp xs) (fun l => l.Pairwise (fun x y => lt x y = true) ∧ (∀ y, y ∈ l ↔ y ∈ xs) ∧ l.length = xs.length) := by
  have hlt : ltM cmp = lt := by
    funext x y
    obtain ⟨q, e, d⟩ := hc x y
    unfold ltM; rw [e]; exact d
  unfold sortQ
  rw [chkD_ok hl, chk_ok, chk_ok]
  · refine Ok.some ?_
    rw [hlt]
    have hp := List.mergeSort_perm xs (fun x y => !lt y x)
    refine ⟨?_, fun y => List.mem_mergeSort, List.length_mergeSort _⟩
    have h1 := List.pairwise_mergeSort (le := fun x y => !lt y x) (fun a b d h1 h2 => by
      have h1 : lt b a = false := by simpa using h1
      have h2 : lt d b = false := by simpa using h2
      have := nt d b a h2 h1
      simp [this]) (fun a b => by
      cases q : lt b a with
      | false => rfl
      | true => rw [asy _ _ q]; rfl) xs
    have h2 := (hp.pairwise_iff (R := fun a b => (lt a b || lt b a) = true) (fun {a b} q => by rw [Bool.or_comm]; exact q)).2 tot
    refine (h1.and h2).imp (fun {a b} q => ?_)
    have q1 : lt b a = false := by simpa using q.1
    have q2 := q.2
    rw [q1, Bool.or_false] at q2
    exact q2
  · unfold sortQB
    rw [hlt, pwB_of tot, Bool.true_and, List.all_eq_true]
    intro x _
    rw [irr, Bool.not_false, Bool.true_and, List.all_eq_true]
    intro y _
    rw [List.all_eq_true]
    intro z _
    have t1 := tr x y z
    have t2 := nt x y z
    cases h1 : lt x y <;> cases h2 : lt y z <;> cases h3 : lt x z <;> simp_all
  · rw [List.all_eq_true]
    intro x _
    rw [List.all_eq_true]
    intro y _
    obtain ⟨q, e, _⟩ := hc x y
    rw [e]; rfl
theorem klt_nt [Fuel] (x y z : ApiSpan) (h1 : klt x y = false) (h2 : klt y z = false) : klt x z = false := by
  rw [Bool.eq_false_iff, ne_eq, klt_iff] at h1 h2 ⊢
  omega
theorem klt_tr [Fuel] (x y z : ApiSpan) (h1 : klt x y = true) (h2 : klt y z = true) : klt x z = true := by
  rw [klt_iff] at h1 h2 ⊢
  omega
theorem acc_len [Fuel] {l : List ApiEntry} : (accS c l).length ≤ l.length := by unfold accS; rw [List.length_take]; omega
theorem acc_tick [Fuel] (hc : VC c) : ∀ (l : List ApiEntry) (s : ApiState), okS c s l → ∀ e ∈ l, 0 ≤ e.Tick ∧ e.Tick ≤ 1073741824
  | [], s, _, e, he => absurd he List.not_mem_nil
  | a :: l, s, h, e, he => by
    rcases List.mem_cons.1 he with rfl | he
    · exact (apply_step hc h.1).1.1
    · exact acc_tick hc l _ h.2 e he
theorem ok_take [Fuel] : ∀ (l : List ApiEntry) (n : Nat) (s : ApiState), okS c s l → okS c s (l.take n)
  | [], n, s, _ => by rw [List.take_nil]; trivial
  | e :: l, 0, s, _ => trivial
  | e :: l, n + 1, s, h => by rw [List.take_succ_cons]; exact ⟨h.1, ok_take l n _ h.2⟩
theorem sp_take [Fuel] {A : List ApiEntry} {k : Nat} (hk : k < A.length) : spF (A.take (k + 1)) 0 [] = spN (A.getD k default) (k : Int) (spF (A.take k) 0 []) := by
  have : A.take (k + 1) = A.take k ++ [A.getD k default] := by rw [List.take_add_one]; simp [List.getD_eq_getElem?_getD, hk]
  rw [this, spF_snoc, Nat.zero_add, List.length_take, Nat.min_eq_left (by omega)]
theorem windows_p [Fuel] (hc : VC c) {l : List ApiEntry} (hl : l.length ≤ 1000) : authority_Windows c l = some (winS c l) := by
  have hA := acc_ok (c := c) l (newS c)
  have hAl := acc_len (c := c) (l := l)
  have hS := log_spi hc hA
  unfold authority_Windows
  rw [(fold_gen hc hl).1, Option.bind_some]
  have hn := accN_le (c := c) l (newS c)
  simp only [Int.toNat_natCast]
  rw [chkD_ok (by omega)]
  show authority_Windows_l2 (accS c l) (((accS c l).length : Nat) : Int) fuel [] 0 = _
  change okS c (newS c) (accS c l) at hA
  change SpI c (accS c l).length (spF (accS c l) 0 []) at hS
  unfold winS
  generalize accS c l = A at *
  apply eqOk
  refine loop0 (L := fun m x i => authority_Windows_l2 A ((A.length : Nat) : Int) m x i) A.length (by omega) (fun k x => x = spF (A.take k) 0 []) rfl ?_ ?_
  · rintro m k x hk rfl ih
    show Ok (authority_Windows_l2 A _ (m + 1) _ k) _
    have hSk := log_spi hc (ok_take A k _ hA)
    have hlen := hSk.len
    rw [List.length_take] at hlen
    have nx := ih _ rfl
    rw [sp_take hk] at nx
    have ht := acc_tick hc A _ hA _ (getD_mem hk)
    rw [authority_Windows_l2, condT (by omega), ixL_ok (by omega) (by omega), Int.toNat_natCast]
    unfold authority_Windows_k1
    rw [w64_eq (x := (k : Int) + 1) (by omega) (by omega)]
    unfold spN at nx
    cases k2 : ((A.getD k default).Kind == 2) with
    | true =>
      rw [k2, cond_true] at nx
      rw [cond_true, chkD_ok (by simp only [List.length_singleton]; unfold room; omega)]
      exact nx
    | false =>
      rw [k2, cond_false] at nx
      rw [cond_false]
      cases k3 : ((A.getD k default).Kind == 3) with
      | true =>
        rw [k3, cond_true] at nx
        rw [cond_true, acut_p (by omega) ht, Option.bind_some]
        exact nx
      | false => rw [k3] at nx; exact nx
  · rintro m x rfl
    show Ok (authority_Windows_l2 A _ (m + 1) _ _) _
    have hlen := hS.len
    rw [authority_Windows_l2, condF (by omega), List.take_length, del_p (by omega), Option.bind_some]
    unfold sort_authority_Windows_2
    have hfl := List.length_filter_le fuB (spF A 0 [])
    have hpw : ((spF A 0 []).filter fuB).Pairwise (fun a b => a.Index < b.Index) := hS.idx.sublist List.filter_sublist
    obtain ⟨r, er, r1, r2, r3⟩ := sortQ_ok (lt := klt) (cmp := fun x y => authority_Windows_2 x y) (xs := (spF A 0 []).filter fuB) (by omega) sp_cmp (fun x => by
      rw [Bool.eq_false_iff, ne_eq, klt_iff]; omega) klt_tr klt_nt klt_asy (hpw.imp (fun {a b} q => by
      rw [Bool.or_eq_true, klt_iff, klt_iff]; omega))
    rw [er]
    refine Ok.some ?_
    refine uniq_g klt_asy r1 (winF_sorted hS.idx _) (fun y => ?_)
    rw [r2, List.mem_filter, winF_mem]
    unfold fuB
    constructor
    · rintro ⟨h1, h2⟩
      obtain ⟨q1, q2, q3⟩ := hS.rng y h1
      have : y.Window.From ≠ y.Window.Until := by simpa using h2
      exact ⟨h1, q2, by omega⟩
    · rintro ⟨h1, h2, h3⟩
      have : (y.Window.From == y.Window.Until) = false := by rw [beq_eq_false_iff_ne]; omega
      exact ⟨h1, by rw [this]; rfl⟩
theorem win_len [Fuel] (hc : VC c) {l : List ApiEntry} (hl : l.length ≤ 1000) : (winS c l).length ≤ 32000 := by
  have hS := log_spi hc (acc_ok (c := c) l (newS c))
  have hAl := acc_len (c := c) (l := l)
  change SpI c (accS c l).length (spF (accS c l) 0 []) at hS
  have h1 := hS.len
  have h2 := winF_len (sp := spF (accS c l) 0 []) c.Tenants.length
  have h3 := hc.tl
  have : c.Tenants.length * (spF (accS c l) 0 []).length ≤ 32 * 1000 := Nat.mul_le_mul (by omega) (by omega)
  unfold winS; omega
end
end Go.CP
namespace Go.CP
open Go
set_option linter.unusedSimpArgs false
set_option linter.unusedVariables false
def lastW (sp : List ApiSpan) (t : Int) : ApiWindow := sp.foldl (fun w x => if x.Tenant = t then x.Window else w) t0S.Window
section
variable {c : ApiConfig} {s : ApiState} {e : ApiEntry}
theorem getD_setN [Fuel] {α : Type} [Inhabited α] {xs : List α} {i j : Nat} {a : α} (h : i ≠ j) : (xs.set i a).getD j default = xs.getD j default := by
  simp [List.getD_eq_getElem?_getD, List.getElem?_set, h]
theorem at_ne [Fuel] {t : ApiTenantState} {i j : Int} (hi : 0 ≤ i) (hj : 0 ≤ j) (h : j ≠ i) : tAt (setT (bump s e) i t) j = tAt s j := by
  unfold tAt setT bump; exact getD_setN (by omega)
theorem at_eq [Fuel] {t : ApiTenantState} {i : Int} (hi : 0 ≤ i ∧ i < ((s.Tenants.length : Nat) : Int)) : tAt (setT (bump s e) i t) i = t := by
  unfold tAt setT bump; exact getD_set (by show i.toNat < s.Tenants.length; omega)
theorem step_keep [Fuel] {s' : ApiState} (hv : VS c s) (hs : Step c s e s') (h2 : e.Kind ≠ 2) (h3 : e.Kind ≠ 3) {j : Int} (hj : 0 ≤ j) :
    (tAt s' j).Window = (tAt s j).Window ∧ (tAt s' j).Epoch = (tAt s j).Epoch ∧ ((tAt s' j).Home = (tAt s j).Home ∨ (tAt s j).Placed = false) := by
  have gen : ∀ {t : ApiTenantState}, tOk c e → t.Window = (tAt s e.Tenant).Window → t.Epoch = (tAt s e.Tenant).Epoch → (t.Home = (tAt s e.Tenant).Home ∨ (tAt s e.Tenant).Placed = false) →
      (tAt (setT (bump s e) e.Tenant t) j).Window = (tAt s j).Window ∧ (tAt (setT (bump s e) e.Tenant t) j).Epoch = (tAt s j).Epoch ∧ ((tAt (setT (bump s e) e.Tenant t) j).Home = (tAt s j).Home ∨ (tAt s j).Placed = false) := by
    intro t ht a b d
    have hl := tlen hv ht
    by_cases q : j = e.Tenant
    · subst q; rw [at_eq hl]; exact ⟨a, b, d⟩
    · rw [at_ne hl.1 hj q]; exact ⟨rfl, rfl, .inl rfl⟩
  cases hs with
  | place k t ce o np m1 m2 f1 f2 y1 y2 fit => exact gen t rfl rfl (.inr np)
  | grant k => exact absurd k h2
  | cut k => exact absurd k h3
  | standby0 k t ce pl fit => exact gen t rfl rfl (.inl rfl)
  | standby k t ce pl n1 n2 n3 m1 f1 y1 t1 t2 fit => exact gen t rfl rfl (.inl rfl)
  | ready k t ce pl n1 m1 => exact gen t rfl rfl (.inl rfl)
  | migrate k t ce pl sh tg n1 n2 n3 m1 f1 y1 t1 t2 fit => exact gen t rfl rfl (.inl rfl)
  | abandon k t pl tg => exact gen t rfl rfl (.inl rfl)
  | shed k t n pl sh w => exact gen t rfl rfl (.inl rfl)
  | back k t n sh m1 fit => exact gen t rfl rfl (.inl rfl)
  | _ => exact ⟨rfl, rfl, .inl rfl⟩
theorem step_run [Fuel] {s' : ApiState} (hv : VS c s) (hI : Inv c s) (hs : Step c s e s') {j : Int} (hj : 0 ≤ j) (t : Nat) (ht : t < s.Tenants.length) (hw : e.Tick < (s.Tenants.getD t default).Window.Until) (hjw : (s.Tenants.getD t default).Window.Cell = j) : (cAt s' j).Running = (cAt s j).Running := by
  have gen : ∀ {x : ApiCellState}, cOk c e → (j = e.Cell → x.Running = (cAt s e.Cell).Running) → (cAt (setC (bump s e) e.Cell x) j).Running = (cAt s j).Running := by
    intro x hc a
    have hl : 0 ≤ e.Cell ∧ e.Cell < ((s.Cells.length : Nat) : Int) := by have := hv.cl; unfold cOk at hc; omega
    by_cases q : j = e.Cell
    · subst q
      have : cAt (setC (bump s e) e.Cell x) e.Cell = x := getD_set (by show e.Cell.toNat < s.Cells.length; omega)
      rw [this]; exact a rfl
    · have : cAt (setC (bump s e) e.Cell x) j = cAt s j := getD_setN (by omega)
      rw [this]
  cases hs with
  | mode k ce n m1 => exact gen ce (fun _ => rfl)
  | want k ce n n1 v1 v2 f => exact gen ce (fun _ => rfl)
  | runs k ce n n1 n2 f w =>
    refine gen ce (fun q => ?_)
    have := List.any_eq_false.1 w _ (getD_mem ht)
    unfold busyB at this
    rw [hjw, q, decide_eq_true hw] at this
    simp at this
  | _ => rfl
theorem last_snoc [Fuel] (sp : List ApiSpan) (y : ApiSpan) (t : Int) : lastW (sp ++ [y]) t = if y.Tenant = t then y.Window else lastW sp t := by
  unfold lastW; rw [List.foldl_append]; rfl
theorem cut0 [Fuel] {t : Int} (ht : 0 ≤ t) : cutW t0S.Window t = t0S.Window := by
  unfold cutW minE t0S
  simp only
  rw [if_neg (by omega), if_neg (by omega)]
theorem last_cut [Fuel] (ht : 0 ≤ e.Tick) (t : Int) (sp : List ApiSpan) : lastW (sp.map (ctOf e)) t = if t = e.Tenant then cutW (lastW sp t) e.Tick else lastW sp t := by
  have key : ∀ (sp : List ApiSpan) (w : ApiWindow), (sp.map (ctOf e)).foldl (fun w x => if x.Tenant = t then x.Window else w) (if t = e.Tenant then cutW w e.Tick else w) = if t = e.Tenant then cutW (sp.foldl (fun w x => if x.Tenant = t then x.Window else w) w) e.Tick else sp.foldl (fun w x => if x.Tenant = t then x.Window else w) w := by
    intro sp
    induction sp with
    | nil => intro w; rfl
    | cons x r ih =>
      intro w
      rw [List.map_cons, List.foldl_cons, List.foldl_cons, ← ih]
      congr 1
      rw [(ct_idx e x).2]
      by_cases q : x.Tenant = t
      · rw [if_pos q, if_pos q]
        unfold ctOf
        by_cases z : t = e.Tenant
        · have : (x.Tenant == e.Tenant) = true := by rw [beq_iff_eq]; omega
          rw [this, if_pos z]; rfl
        · have : (x.Tenant == e.Tenant) = false := by rw [beq_eq_false_iff_ne]; omega
          rw [this, if_neg z]; rfl
      · rw [if_neg q, if_neg q]
  unfold lastW
  rw [← key]
  congr 1
  by_cases z : t = e.Tenant
  · rw [if_pos z, cut0 ht]
  · rw [if_neg z]
structure WI (c : ApiConfig) (l : List ApiEntry) (s : ApiState) (sp : List ApiSpan) : Prop where
  ord : sp.Pairwise (fun a b => a.Tenant = b.Tenant → a.Window.Until ≤ b.Window.From ∧ a.Window.Epoch ≤ b.Window.Epoch ∧ (a.Window.Cell ≠ b.Window.Cell → a.Window.Epoch < b.Window.Epoch))
  up : ∀ x ∈ sp, x.Window.Until ≤ (tAt s x.Tenant).Window.Until
  ep : ∀ x ∈ sp, x.Window.Epoch ≤ (tAt s x.Tenant).Epoch ∧ (x.Window.Cell ≠ (tAt s x.Tenant).Home → x.Window.Epoch < (tAt s x.Tenant).Epoch) ∧ 1 ≤ x.Window.Epoch
  cl : ∀ x ∈ sp, (0 ≤ x.Window.Cell ∧ x.Window.Cell < ((c.Cells.length : Nat) : Int)) ∧ (0 ≤ x.Window.Version ∧ x.Window.Version < ((c.Versions.length : Nat) : Int))
  now : ∀ x ∈ sp, s.Tick < x.Window.Until → x.Window.Cell = (tAt s x.Tenant).Home ∧ x.Window.Version = (cAt s x.Window.Cell).Running
  last : ∀ j, 0 ≤ j → j < ((c.Tenants.length : Nat) : Int) → lastW sp j = (tAt s j).Window
  lnk : ∀ x ∈ sp, (l.getD x.Index.toNat default).Kind = 2 ∧ (l.getD x.Index.toNat default).Tick ≤ x.Window.From ∧ x.Window.Until ≤ (l.getD x.Index.toNat default).Tick + 2 * c.Lease ∧ (l.getD x.Index.toNat default).Tick ≤ s.Tick
theorem ct_win [Fuel] (e : ApiEntry) (x : ApiSpan) : (ctOf e x).Window.Cell = x.Window.Cell ∧ (ctOf e x).Window.Epoch = x.Window.Epoch ∧ (ctOf e x).Window.Version = x.Window.Version := by
  unfold ctOf cutW; cases (x.Tenant == e.Tenant) <;> exact ⟨rfl, rfl, rfl⟩
theorem cut_le [Fuel] {w : ApiWindow} {t : Int} : (cutW w t).Until ≤ w.Until ∧ (cutW w t).Until ≤ t + 1 ∧ (cutW w t).From ≤ w.From := by
  unfold cutW minE; simp only; split <;> split <;> (try split) <;> omega
theorem ct_le [Fuel] (e : ApiEntry) (x : ApiSpan) : (ctOf e x).Window.Until ≤ x.Window.Until := by
  unfold ctOf; cases (x.Tenant == e.Tenant) with
  | true => exact cut_le.1
  | false => exact Int.le_refl _
theorem cut_mono [Fuel] {a b : ApiWindow} {t : Int} (h : a.Until ≤ b.Until) : (cutW a t).Until ≤ (cutW b t).Until := by
  unfold cutW minE; simp only; split <;> split <;> omega
theorem cut_ord [Fuel] {a b : ApiWindow} {t : Int} (h : a.Until ≤ b.From) (hb : b.From ≤ b.Until) : (cutW a t).Until ≤ (cutW b t).From := by
  unfold cutW minE; simp only; split <;> split <;> (try split) <;> omega
theorem cut_from [Fuel] {w : ApiWindow} {t a : Int} (h : a ≤ w.From) (hw : w.From ≤ w.Until) (ht : a ≤ t) : a ≤ (cutW w t).From := by
  unfold cutW minE; simp only; split <;> (try split) <;> omega
theorem getD_app [Fuel] {α : Type} [Inhabited α] {l : List α} {e : α} {i : Nat} (h : i < l.length) : (l ++ [e]).getD i default = l.getD i default := by
  simp [List.getD_eq_getElem?_getD, List.getElem?_append_left h]
theorem getD_app_eq [Fuel] {α : Type} [Inhabited α] {l : List α} {e : α} : (l ++ [e]).getD l.length default = e := by
  simp [List.getD_eq_getElem?_getD]
theorem WI.next [Fuel] (hc : VC c) {l : List ApiEntry} {sp : List ApiSpan} (h : WI c l s sp) (hI : Inv c s) (hS : SpI c l.length sp) {s' : ApiState} (hs : Step c s e s') (hge : s.Tick ≤ e.Tick) (ht0 : 0 ≤ e.Tick) : WI c (l ++ [e]) s' (spN e ((l.length : Nat) : Int) sp) := by
  have hv := hI.vs
  have htl := hv.tl
  have htk := (step_tick hs).1
  have lnk0 : ∀ x ∈ sp, ((l ++ [e]).getD x.Index.toNat default) = l.getD x.Index.toNat default := fun x hx => by
    have := (hS.rng x hx).1
    exact getD_app (by omega)
  have tin : ∀ x ∈ sp, x.Tenant.toNat < s.Tenants.length := fun x hx => by have := (hS.rng x hx).2.1; omega
  -- the windows that are live are those of the state's homes
  have live : ∀ x ∈ sp, e.Tick < x.Window.Until → x.Window.Cell = (tAt s x.Tenant).Home ∧ x.Window.Version = (cAt s' x.Window.Cell).Running ∧ (tAt s x.Tenant).Placed = true := by
    intro x hx hlt
    obtain ⟨a, b⟩ := h.now x hx (by omega)
    have hu := h.up x hx
    have hw := (hI.t _ (tin x hx)).win (by have : (tAt s x.Tenant).Window.Until = (s.Tenants.getD x.Tenant.toNat default).Window.Until := rfl; omega)
    refine ⟨a, ?_, hw.1⟩
    rw [b]
    have hxc := (h.cl x hx).1.1
    refine (step_run hv hI hs hxc _ (tin x hx) ?_ ?_).symm
    · have : (tAt s x.Tenant).Window.Until = (s.Tenants.getD x.Tenant.toNat default).Window.Until := rfl; omega
    · rw [hw.2.2]; exact a.symm
  unfold spN
  by_cases k2 : e.Kind = 2
  · have kb : (e.Kind == 2) = true := by simpa using k2
    rw [kb, cond_true]
    have hrunv : e.N = (cAt s e.Cell).Running ∧ vOk c e := by
      cases hs with
      | grant k t ce ep w n pl sh cl m1 m2 eq v1 v2 w1 w2 w3 w4 w5 w6 fit => exact ⟨v1, n⟩
      | _ => omega
    obtain ⟨g1, g2, g3, g4, g5, g6, g7, g8, g9, g10, g11, rfl⟩ := step_g hs k2
    have hl := tlen hv g1
    have hag : (afterGrant (tAt s e.Tenant) e).Window = grantW e ∧ (afterGrant (tAt s e.Tenant) e).Epoch = e.Epoch ∧ (afterGrant (tAt s e.Tenant) e).Home = e.Cell := by
      unfold afterGrant grantW
      simp only
      cases hh : (e.Cell == (tAt s e.Tenant).Home) with
      | true => exact ⟨rfl, rfl, by have : e.Cell = (tAt s e.Tenant).Home := by simpa using hh
                                    exact this.symm⟩
      | false => cases (e.Cell == (tAt s e.Tenant).Standby) <;> exact ⟨rfl, rfl, rfl⟩
    have hru : (cAt (setT (bump s e) e.Tenant (afterGrant (tAt s e.Tenant) e)) e.Cell) = cAt s e.Cell := rfl
    unfold vOk at hrunv
    unfold cOk at g2
    have old : ∀ x ∈ sp, x.Tenant ≠ e.Tenant → tAt (setT (bump s e) e.Tenant (afterGrant (tAt s e.Tenant) e)) x.Tenant = tAt s x.Tenant := fun x hx q => at_ne hl.1 (hS.rng x hx).2.1.1 q
    refine ⟨?_, fun x hx => ?_, fun x hx => ?_, fun x hx => ?_, fun x hx => ?_, fun j hj hj2 => ?_, fun x hx => ?_⟩
    · rw [List.pairwise_append]
      refine ⟨h.ord, List.pairwise_singleton _ _, fun a ha b hb => ?_⟩
      rw [List.mem_singleton.1 hb]
      intro hq
      have hq : a.Tenant = e.Tenant := hq
      have u := h.up a ha
      obtain ⟨p1, p2, p3⟩ := h.ep a ha
      rw [hq] at u p1 p2
      show a.Window.Until ≤ e.From ∧ a.Window.Epoch ≤ e.Epoch ∧ (a.Window.Cell ≠ e.Cell → a.Window.Epoch < e.Epoch)
      refine ⟨by omega, by omega, fun q => ?_⟩
      rcases g11 with ⟨z1, z2⟩ | z
      · have := p2 (by omega); omega
      · omega
    · rcases List.mem_append.1 hx with q | q
      · by_cases z : x.Tenant = e.Tenant
        · have u := h.up x q
          rw [z] at u ⊢
          rw [at_eq hl, hag.1]
          show _ ≤ e.Until; omega
        · rw [old x q z]; exact h.up x q
      · rw [List.mem_singleton.1 q]
        show e.Until ≤ (tAt _ e.Tenant).Window.Until
        rw [at_eq hl, hag.1]; exact Int.le_refl _
    · rcases List.mem_append.1 hx with q | q
      · by_cases z : x.Tenant = e.Tenant
        · obtain ⟨p1, p2, p3⟩ := h.ep x q
          rw [z] at p1 p2 ⊢
          rw [at_eq hl, hag.2.1, hag.2.2]
          refine ⟨by omega, fun q => ?_, p3⟩
          rcases g11 with ⟨z1, z2⟩ | z
          · have := p2 (by omega); omega
          · omega
        · rw [old x q z]; exact h.ep x q
      · rw [List.mem_singleton.1 q]
        show e.Epoch ≤ (tAt _ e.Tenant).Epoch ∧ (e.Cell ≠ (tAt _ e.Tenant).Home → _) ∧ 1 ≤ e.Epoch
        rw [at_eq hl, hag.2.1, hag.2.2]
        exact ⟨Int.le_refl _, fun q => absurd rfl q, g3.1⟩
    · rcases List.mem_append.1 hx with q | q
      · exact h.cl x q
      · rw [List.mem_singleton.1 q]; exact ⟨g2, hrunv.2⟩
    · intro hlt
      have hlt : e.Tick < x.Window.Until := hlt
      rcases List.mem_append.1 hx with q | q
      · obtain ⟨a, b, _⟩ := live x q hlt
        refine ⟨?_, b⟩
        by_cases z : x.Tenant = e.Tenant
        · rw [z] at a ⊢
          rw [at_eq hl, hag.2.2]
          have u := h.up x q
          rw [z] at u
          by_cases w : e.Cell = (tAt s e.Tenant).Home
          · omega
          · have := g10 w; omega
        · rw [old x q z]; exact a
      · rw [List.mem_singleton.1 q]
        show e.Cell = (tAt _ e.Tenant).Home ∧ e.N = (cAt _ e.Cell).Running
        rw [at_eq hl, hag.2.2, hru]
        exact ⟨rfl, hrunv.1⟩
    · rw [last_snoc]
      show (if e.Tenant = j then grantW e else _) = _
      by_cases q : e.Tenant = j
      · subst q; rw [if_pos rfl, at_eq hl, hag.1]
      · rw [if_neg q, at_ne hl.1 hj (fun z => q z.symm)]; exact h.last j hj hj2
    · rcases List.mem_append.1 hx with q | q
      · rw [lnk0 x q]
        obtain ⟨z1, z2, z3, z4⟩ := h.lnk x q
        exact ⟨z1, z2, z3, by show _ ≤ e.Tick; omega⟩
      · rw [List.mem_singleton.1 q]
        have : (spOf e ((l.length : Nat) : Int)).Index.toNat = l.length := by show (((l.length : Nat) : Int)).toNat = _; omega
        rw [this, getD_app_eq]
        exact ⟨k2, g6, by show e.Until ≤ e.Tick + 2 * c.Lease; omega, by show e.Tick ≤ e.Tick; omega⟩
  · have kb : (e.Kind == 2) = false := by simpa using k2
    rw [kb, cond_false]
    by_cases k3 : e.Kind = 3
    · have kb : (e.Kind == 3) = true := by simpa using k3
      rw [kb, cond_true]
      obtain ⟨g1, rfl⟩ := step_c hs k3
      have hl := tlen hv g1
      have hh : ∀ j, 0 ≤ j → (tAt (setT (bump s e) e.Tenant { tAt s e.Tenant with Window := cutW (tAt s e.Tenant).Window e.Tick }) j).Home = (tAt s j).Home ∧ (tAt (setT (bump s e) e.Tenant { tAt s e.Tenant with Window := cutW (tAt s e.Tenant).Window e.Tick }) j).Epoch = (tAt s j).Epoch := by
        intro j hj
        by_cases q : j = e.Tenant
        · subst q; rw [at_eq hl]; exact ⟨rfl, rfl⟩
        · rw [at_ne hl.1 hj q]; exact ⟨rfl, rfl⟩
      have hcr : ∀ j, (cAt (setT (bump s e) e.Tenant { tAt s e.Tenant with Window := cutW (tAt s e.Tenant).Window e.Tick }) j) = cAt s j := fun j => rfl
      refine ⟨?_, fun x hx => ?_, fun x hx => ?_, fun x hx => ?_, fun x hx => ?_, fun j hj hj2 => ?_, fun x hx => ?_⟩
      · rw [List.pairwise_map]
        refine List.Pairwise.imp_of_mem (fun {a b} ha hb q => ?_) h.ord
        rw [(ct_idx e a).2, (ct_idx e b).2, (ct_win e a).1, (ct_win e a).2.1, (ct_win e b).1, (ct_win e b).2.1]
        intro z
        obtain ⟨q1, q2, q3⟩ := q z
        refine ⟨?_, q2, q3⟩
        unfold ctOf
        rw [z]
        cases (b.Tenant == e.Tenant) with
        | true => exact cut_ord q1 (hS.rng b hb).2.2.1
        | false => exact q1
      · obtain ⟨y, hy, rfl⟩ := List.mem_map.1 hx
        rw [(ct_idx e y).2]
        have u := h.up y hy
        by_cases q : y.Tenant = e.Tenant
        · rw [q] at u ⊢
          rw [at_eq hl]
          unfold ctOf
          have : (y.Tenant == e.Tenant) = true := by simpa using q
          rw [this]
          exact cut_mono u
        · rw [at_ne hl.1 (hS.rng y hy).2.1.1 q]
          have := ct_le e y; omega
      · obtain ⟨y, hy, rfl⟩ := List.mem_map.1 hx
        rw [(ct_idx e y).2, (ct_win e y).1, (ct_win e y).2.1, (hh _ (hS.rng y hy).2.1.1).1, (hh _ (hS.rng y hy).2.1.1).2]
        exact h.ep y hy
      · obtain ⟨y, hy, rfl⟩ := List.mem_map.1 hx
        rw [(ct_win e y).1, (ct_win e y).2.2]; exact h.cl y hy
      · obtain ⟨y, hy, rfl⟩ := List.mem_map.1 hx
        intro hlt
        have hlt : e.Tick < (ctOf e y).Window.Until := hlt
        have := ct_le e y
        obtain ⟨a, b, _⟩ := live y hy (by omega)
        rw [(ct_idx e y).2, (ct_win e y).1, (ct_win e y).2.2, (hh _ (hS.rng y hy).2.1.1).1]
        exact ⟨a, b⟩
      · rw [last_cut ht0]
        by_cases q : j = e.Tenant
        · subst q; rw [if_pos rfl, at_eq hl, h.last _ hj hj2]
        · rw [if_neg q, at_ne hl.1 hj q]; exact h.last j hj hj2
      · obtain ⟨y, hy, rfl⟩ := List.mem_map.1 hx
        rw [(ct_idx e y).1, lnk0 y hy]
        obtain ⟨z1, z2, z3, z4⟩ := h.lnk y hy
        refine ⟨z1, ?_, by have := ct_le e y; omega, by show _ ≤ e.Tick; omega⟩
        unfold ctOf
        cases (y.Tenant == e.Tenant) with
        | true => exact cut_from z2 (hS.rng y hy).2.2.1 (by omega)
        | false => exact z2
    · have kb : (e.Kind == 3) = false := by simpa using k3
      rw [kb, cond_false]
      have keep := fun (x : ApiSpan) (hx : x ∈ sp) => step_keep hv hs k2 k3 (hS.rng x hx).2.1.1
      have hm : ∀ x ∈ sp, (tAt s' x.Tenant).Home = (tAt s x.Tenant).Home := by
        intro x hx
        rcases (keep x hx).2.2 with q | q
        · exact q
        · have e0 := (hI.t _ (tin x hx)).np q
          obtain ⟨p1, _, p3⟩ := h.ep x hx
          have : (tAt s x.Tenant).Epoch = 0 := by show (s.Tenants.getD x.Tenant.toNat default).Epoch = 0; rw [e0]; rfl
          omega
      refine ⟨h.ord, fun x hx => ?_, fun x hx => ?_, h.cl, fun x hx hlt => ?_, fun j hj hj2 => ?_, fun x hx => ?_⟩
      · rw [(keep x hx).1]; exact h.up x hx
      · rw [(keep x hx).2.1, hm x hx]; exact h.ep x hx
      · obtain ⟨a, b, _⟩ := live x hx (by rw [← htk]; exact hlt)
        rw [hm x hx]; exact ⟨a, b⟩
      · rw [(step_keep hv hs k2 k3 hj).1]; exact h.last j hj hj2
      · rw [lnk0 x hx]
        obtain ⟨z1, z2, z3, z4⟩ := h.lnk x hx
        exact ⟨z1, z2, z3, by omega⟩
theorem log_wi [Fuel] (hc : VC c) {l : List ApiEntry} (h : okS c (newS c) l) : WI c l (runS c (newS c) l) (spF l 0 []) ∧ SpI c l.length (spF l 0 []) :=
  ⟨(log_ind hc (fun l s sp => WI c l s sp ∧ SpI c l.length sp) ⟨⟨List.Pairwise.nil, fun x hx => absurd hx List.not_mem_nil, fun x hx => absurd hx List.not_mem_nil, fun x hx => absurd hx List.not_mem_nil, fun x hx => absurd hx List.not_mem_nil, fun j hj hj2 => by
      have : tAt (newS c) j = t0S := by
        have hj' : j.toNat < c.Tenants.length := by omega
        simp [tAt, newS, List.getD_eq_getElem?_getD, hj']
      rw [this]; rfl, fun x hx => absurd hx List.not_mem_nil⟩, ⟨Nat.le_refl _, List.Pairwise.nil, fun x hx => absurd hx List.not_mem_nil⟩⟩ (fun l s sp e _ hI _ hq hz => by
    obtain ⟨v1, _, v3, v2⟩ := apply_step hc hz
    have := hq.2.next v1.1.1 v2
    refine ⟨hq.1.next hc hI hq.2 v2 v3 v1.1.1, ?_⟩
    rw [List.length_append]; exact this) l h).1, log_spi hc h⟩
end
end Go.CP
namespace Go.CP
open Go
set_option linter.unusedSimpArgs false
set_option linter.unusedVariables false
def inW (w : ApiWindow) (tick : Int) : Bool := decide (w.From ≤ tick) && decide (tick < w.Until)
def hb (t tick : Int) (x : ApiSpan) : Bool := (x.Tenant == t) && inW x.Window tick
theorem inW_iff [Fuel] {w : ApiWindow} {tick : Int} : inW w tick = true ↔ w.From ≤ tick ∧ tick < w.Until := by
  unfold inW; rw [Bool.and_eq_true, decide_eq_true_eq, decide_eq_true_eq]
theorem hb_iff [Fuel] {t tick : Int} {x : ApiSpan} : hb t tick x = true ↔ x.Tenant = t ∧ x.Window.From ≤ tick ∧ tick < x.Window.Until := by
  unfold hb; rw [Bool.and_eq_true, beq_iff_eq, inW_iff]
def holdS [Fuel] (c : ApiConfig) (l : List ApiEntry) (t tick : Int) : Option ApiSpan := (winS c l).find? (hb t tick)
def core (x : ApiSpan) : Int × Int × Int × Int × Int := (x.Tenant, x.Index, x.Window.Cell, x.Window.Epoch, x.Window.Version)
def OrdR (a b : ApiSpan) : Prop := a.Tenant = b.Tenant → a.Index < b.Index ∧ a.Window.Until ≤ b.Window.From ∧ a.Window.Epoch ≤ b.Window.Epoch ∧ (a.Window.Cell ≠ b.Window.Cell → a.Window.Epoch < b.Window.Epoch)
section
variable {c : ApiConfig} {s : ApiState} {e : ApiEntry} {sp : List ApiSpan}
theorem find_app [Fuel] {α : Type} (p : α → Bool) : ∀ (a b : List α), (a ++ b).find? p = match a.find? p with
    | some x => some x
    | none => b.find? p
  | [], b => rfl
  | x :: a, b => by
    rw [List.cons_append, List.find?_cons, List.find?_cons]
    cases p x with
    | true => rfl
    | false => exact find_app p a b
theorem find_none [Fuel] {α : Type} {q : α → Bool} {l : List α} (h : ∀ x ∈ l, q x = false) : l.find? q = none := by
  rw [List.find?_eq_none]
  intro x hx
  rw [h x hx]; simp
theorem win_ord [Fuel] (h : sp.Pairwise OrdR) : ∀ n, (winF sp n).Pairwise OrdR
  | 0 => List.Pairwise.nil
  | n + 1 => by
    rw [winF, List.pairwise_append]
    refine ⟨win_ord h n, h.sublist List.filter_sublist, fun a ha b hb => ?_⟩
    have h1 := (winF_mem n).1 ha
    have h2 := (List.mem_filter.1 hb).2
    unfold keepB at h2
    rw [Bool.and_eq_true, beq_iff_eq] at h2
    intro q
    omega
theorem WI.ordr [Fuel] {l : List ApiEntry} (h : WI c l s sp) (hS : SpI c l.length sp) : sp.Pairwise OrdR :=
  (h.ord.and hS.idx).imp (fun {a b} q z => ⟨q.2, q.1 z⟩)
theorem ord_one [Fuel] (h : sp.Pairwise OrdR) {a b : ApiSpan} {t tick : Int} (ha : a ∈ sp) (hbm : b ∈ sp) (h1 : hb t tick a = true) (h2 : hb t tick b = true) : a = b := by
  induction sp with
  | nil => exact absurd ha List.not_mem_nil
  | cons x r ih =>
    rw [List.pairwise_cons] at h
    rw [hb_iff] at h1 h2
    rcases List.mem_cons.1 ha with e1 | ha'
    · rcases List.mem_cons.1 hbm with e2 | hb'
      · rw [e1, e2]
      · have := (h.1 b hb' (by rw [← e1]; omega)).2.1; rw [← e1] at this; omega
    · rcases List.mem_cons.1 hbm with e2 | hb'
      · have := (h.1 a ha' (by rw [← e2]; omega)).2.1; rw [← e2] at this; omega
      · exact ih h.2 ha' hb'
theorem ord_find [Fuel] (h : sp.Pairwise OrdR) {a : ApiSpan} {t tick : Int} (ha : a ∈ sp) (h1 : hb t tick a = true) : sp.find? (hb t tick) = some a := by
  cases q : sp.find? (hb t tick) with
  | none => rw [List.find?_eq_none] at q; exact absurd h1 (q a ha)
  | some b =>
    rw [ord_one h (List.mem_of_find?_eq_some q) ha (List.find?_some q) h1]
theorem cut_in [Fuel] {w : ApiWindow} {t tick : Int} (hw : w.From ≤ w.Until) (ht : tick ≤ t) : inW (cutW w t) tick = inW w tick := by
  rw [Bool.eq_iff_iff, inW_iff, inW_iff]
  unfold cutW minE; simp only; split <;> split <;> (try split) <;> omega
theorem ct_hb [Fuel] {x : ApiSpan} {t tick : Int} (hw : x.Window.From ≤ x.Window.Until) (ht : tick ≤ e.Tick) : hb t tick (ctOf e x) = hb t tick x := by
  unfold hb
  rw [(ct_idx e x).2]
  unfold ctOf
  cases (x.Tenant == e.Tenant) with
  | true => rw [cond_true]; dsimp only; rw [cut_in hw ht]
  | false => rfl
theorem ct_core [Fuel] (e : ApiEntry) (x : ApiSpan) : core (ctOf e x) = core x := by
  unfold core; rw [(ct_idx e x).1, (ct_idx e x).2, (ct_win e x).1, (ct_win e x).2.1, (ct_win e x).2.2]
theorem find_map_core [Fuel] {p : ApiSpan → Bool} {f : ApiSpan → ApiSpan} : ∀ (l : List ApiSpan), (∀ x ∈ l, p (f x) = p x) → (∀ x, core (f x) = core x) → ((l.map f).find? p).map core = (l.find? p).map core
  | [], _, _ => rfl
  | x :: l, hp, hc => by
    rw [List.map_cons, List.find?_cons, List.find?_cons, hp x List.mem_cons_self]
    cases p x with
    | true => simp only [Option.map_some]; rw [hc]
    | false => exact find_map_core l (fun y hy => hp y (List.mem_cons_of_mem _ hy)) hc
theorem stay1 [Fuel] {n : Nat} {i : Int} (hS : SpI c n sp) {s' : ApiState} (hs : Step c s e s') {t tick : Int} (ht : tick ≤ e.Tick) (hq : tick < e.Tick ∨ (sp.find? (hb t tick)).isSome = true) :
    ((spN e i sp).find? (hb t tick)).map core = (sp.find? (hb t tick)).map core := by
  unfold spN
  by_cases k2 : e.Kind = 2
  · have kb : (e.Kind == 2) = true := by simpa using k2
    rw [kb, cond_true, find_app]
    obtain ⟨g1, g2, g3, g4, g5, g6, _⟩ := step_g hs k2
    cases hf : sp.find? (hb t tick) with
    | some x => rfl
    | none =>
      rw [hf] at hq
      have hlt : tick < e.Tick := by
        rcases hq with q | q
        · exact q
        · cases q
      have : hb t tick (spOf e i) = false := by
        rw [Bool.eq_false_iff, ne_eq, hb_iff]
        show ¬ (e.Tenant = t ∧ e.From ≤ tick ∧ _)
        omega
      rw [find_none (l := [spOf e i]) (fun x hx => by rw [List.mem_singleton.1 hx]; exact this)]
  · have kb : (e.Kind == 2) = false := by simpa using k2
    rw [kb, cond_false]
    cases (e.Kind == 3) with
    | true => exact find_map_core sp (fun x hx => ct_hb (hS.rng x hx).2.2.1 ht) (ct_core e)
    | false => rfl
theorem core_some [Fuel] {a b : Option ApiSpan} (h : a.map core = b.map core) : a.isSome = b.isSome := by
  cases a <;> cases b <;> first | rfl | cases h
structure LW (c : ApiConfig) (l : List ApiEntry) (s : ApiState) (sp : List ApiSpan) : Prop where
  inv : Inv c s
  w : WI c l s sp
  i : SpI c l.length sp
theorem LW.of [Fuel] (hc : VC c) {l : List ApiEntry} (h : okS c (newS c) l) : LW c l (runS c (newS c) l) (spF l 0 []) :=
  ⟨run_inv hc l _ (inv_new hc) h, (log_wi hc h).1, (log_wi hc h).2⟩
theorem stay [Fuel] (hc : VC c) {t tick : Int} : ∀ (r : List ApiEntry) (n : Nat) (s : ApiState) (sp : List ApiSpan), Inv c s → SpI c n sp → okS c s r → (∀ e ∈ r, tick ≤ e.Tick) → ((∀ e ∈ r, tick < e.Tick) ∨ (sp.find? (hb t tick)).isSome = true) →
    ((spF r n sp).find? (hb t tick)).map core = (sp.find? (hb t tick)).map core
  | [], n, s, sp, _, _, _, _, _ => rfl
  | e :: r, n, s, sp, hI, hS, hok, hle, hq => by
    obtain ⟨v1, _, v3, v2⟩ := apply_step hc hok.1
    have h1 := stay1 (i := (n : Int)) hS v2 (hle e List.mem_cons_self) (t := t) (by
      rcases hq with q | q
      · exact .inl (q e List.mem_cons_self)
      · exact .inr q)
    rw [spF, ← h1]
    refine stay hc r (n + 1) _ _ (inv_step hc hI hok.1) (hS.next v1.1.1 v2) hok.2 (fun x hx => hle x (List.mem_cons_of_mem _ hx)) ?_
    rcases hq with q | q
    · exact .inl (fun x hx => q x (List.mem_cons_of_mem _ hx))
    · exact .inr (by rw [core_some h1]; exact q)
end
end Go.CP
namespace Go.CP
open Go
set_option linter.unusedSimpArgs false
set_option linter.unusedVariables false
def zeroSp : ApiSpan := { Tenant := 0, Index := 0, Window := { Cell := 0, Epoch := 0, Version := 0, From := 0, Until := 0 : ApiWindow } : ApiSpan }
def hres : Option ApiSpan → ApiSpan × Bool
  | some x => (x, true)
  | none => (zeroSp, false)
section
variable {c : ApiConfig} {s : ApiState} {e : ApiEntry} {sp : List ApiSpan}
theorem find_no [Fuel] {α : Type} [Inhabited α] {p : α → Bool} {l : List α} (h : ∀ j, j < l.length → p (l.getD j default) = false) : l.find? p = none :=
  find_none (fun x hx => by
    obtain ⟨j, hj, rfl⟩ := List.getElem_of_mem hx
    have := h j hj
    rwa [List.getD_eq_getElem?_getD, List.getElem?_eq_getElem hj] at this)
theorem find_at [Fuel] {α : Type} [Inhabited α] {p : α → Bool} {l : List α} {k : Nat} (hk : k < l.length) (h0 : ∀ j, j < k → p (l.getD j default) = false) (h1 : p (l.getD k default) = true) : l.find? p = some (l.getD k default) := by
  have e : l = l.take k ++ l.getD k default :: l.drop (k + 1) := by
    have ed : l.drop k = l.getD k default :: l.drop (k + 1) := by rw [List.drop_eq_getElem_cons hk]; simp [List.getD_eq_getElem?_getD, hk]
    rw [← ed, List.take_append_drop]
  have h2 : (l.take k).find? p = none := find_no (fun j hj => by
    rw [List.length_take] at hj
    have := h0 j (by omega)
    rw [List.getD_eq_getElem?_getD] at this ⊢
    rwa [List.getElem?_take_of_lt (by omega)])
  have h3 : (l.take k ++ l.getD k default :: l.drop (k + 1)).find? p = some (l.getD k default) := by
    rw [find_app, h2, List.find?_cons, h1]
  rwa [← e] at h3
theorem ord_get [Fuel] {α : Type} [Inhabited α] {R : α → α → Prop} {l : List α} (h : l.Pairwise R) {i j : Nat} (hij : i < j) (hj : j < l.length) : R (l.getD i default) (l.getD j default) := by
  have := List.pairwise_iff_getElem.1 h i j (by omega) hj hij
  rwa [List.getD_eq_getElem?_getD, List.getD_eq_getElem?_getD, List.getElem?_eq_getElem (by omega), List.getElem?_eq_getElem hj]
theorem holder_p [Fuel] (hc : VC c) {l : List ApiEntry} (hl : l.length ≤ 1000) (t tick : Int) : authority_Holder c l t tick = some (hres (holdS c l t tick)) := by
  unfold authority_Holder
  rw [windows_p hc hl, Option.bind_some]
  have hw := win_len hc hl
  unfold holdS
  generalize winS c l = W at *
  apply eqOk
  refine loop0 (L := fun m (_ : Unit) i => authority_Holder_l1 t tick W ((W.length : Nat) : Int) m i) (x := ()) W.length (by omega) (fun k _ => ∀ j, j < k → hb t tick (W.getD j default) = false) (fun j hj => absurd hj (Nat.not_lt_zero _)) ?_ ?_
  · rintro m k _ hk hI ih
    show Ok (authority_Holder_l1 t tick W _ (m + 1) k) _
    rw [authority_Holder_l1, condT (by omega), ixL_ok (by omega) (by omega), Int.toNat_natCast, w64_eq (by omega) (by omega)]
    have hh : hb t tick (W.getD k default) = ((W.getD k default).Tenant == t && inW (W.getD k default).Window tick) := rfl
    have nx : hb t tick (W.getD k default) = false → Ok (authority_Holder_l1 t tick W ((W.length : Nat) : Int) m ((k : Int) + 1)) (fun r => r = hres (W.find? (hb t tick))) := fun q => ih () (fun j hj => by
      by_cases e : j = k
      · subst e; exact q
      · exact hI j (by omega))
    cases hq : ((W.getD k default).Tenant == t) with
    | false => rw [hq] at hh; exact nx hh
    | true =>
      rw [hq, Bool.true_and] at hh
      show Ok (bif true && inW (W.getD k default).Window tick then _ else _) _
      rw [Bool.true_and]
      cases hw2 : inW (W.getD k default).Window tick with
      | false => rw [hw2] at hh; exact nx hh
      | true => rw [hw2] at hh; exact Ok.some (by rw [find_at hk hI hh]; rfl)
  · rintro m _ hI
    show Ok (authority_Holder_l1 t tick W _ (m + 1) _) _
    rw [authority_Holder_l1, condF (by omega)]
    exact Ok.some (by rw [find_no hI]; rfl)
theorem win_ordr [Fuel] (hc : VC c) (l : List ApiEntry) : (winS c l).Pairwise OrdR := by
  have h := LW.of hc (acc_ok (c := c) l (newS c))
  exact win_ord (h.w.ordr h.i) _
theorem win_mem [Fuel] {l : List ApiEntry} {x : ApiSpan} : x ∈ winS c l ↔ x ∈ spF (accS c l) 0 [] ∧ (0 ≤ x.Tenant ∧ x.Tenant < ((c.Tenants.length : Nat) : Int)) ∧ x.Window.From < x.Window.Until := winF_mem _
theorem hold_cell [Fuel] (hc : VC c) {l : List ApiEntry} {t tick : Int} {x : ApiSpan} (h : holdS c l t tick = some x) : (0 ≤ x.Window.Cell ∧ x.Window.Cell < ((c.Cells.length : Nat) : Int)) ∧ (0 ≤ x.Window.Version ∧ x.Window.Version < ((c.Versions.length : Nat) : Int)) :=
  (LW.of hc (acc_ok (c := c) l (newS c))).w.cl x (win_mem.1 (List.mem_of_find?_eq_some h)).1
end
end Go.CP
namespace Go.CP
open Go
set_option linter.unusedSimpArgs false
set_option linter.unusedVariables false
section
variable {c : ApiConfig} {s : ApiState}
end
end Go.CP
namespace Go.CP
open Go
set_option linter.unusedSimpArgs false
set_option linter.unusedVariables false
def two13 : ApiConfig := { Regions := 2, Zones := [{ Region := 0 : ApiZone }, { Region := 1 : ApiZone }], Cells := [{ Zone := 0, Capacity := 9 : ApiCell }, { Zone := 1, Capacity := 9 : ApiCell }], Tenants := [{ Load := 5, Shadow := 2, Priority := 0, Lag := 0, Allowed := 3, Group := 0, Noisy := false : ApiTenant }], Versions := [{ Low := 0, High := 0 : ApiVersion }], Replicas := [0], Observers := [0], Blast := 1, Lease := 10, Bake := 0 : ApiConfig }
theorem two13_vc : VC two13 := by
  refine ⟨by decide, by decide, fun x hx => ?_, by decide, fun x hx => ?_, by decide, fun x hx => ?_, by decide, fun x hx => ?_, rfl, by decide, fun x hx => ?_, by decide, fun x hx => ?_, by decide, by decide, by decide⟩
  · have hx : x ∈ [{ Region := 0 : ApiZone }, { Region := 1 : ApiZone }] := hx
    simp only [List.mem_cons, List.not_mem_nil, or_false] at hx
    rcases hx with rfl | rfl <;> decide
  · have hx : x ∈ [{ Zone := 0, Capacity := 9 : ApiCell }, { Zone := 1, Capacity := 9 : ApiCell }] := hx
    simp only [List.mem_cons, List.not_mem_nil, or_false] at hx
    rcases hx with rfl | rfl <;> decide
  · have hx : x ∈ [{ Load := 5, Shadow := 2, Priority := 0, Lag := 0, Allowed := 3, Group := 0, Noisy := false : ApiTenant }] := hx
    rw [List.mem_singleton] at hx
    subst hx
    exact ⟨by decide, by decide, by decide, by decide, by decide, by decide⟩
  · have hx : x ∈ [{ Low := 0, High := 0 : ApiVersion }] := hx
    rw [List.mem_singleton] at hx
    subst hx
    decide
  · have hx : x ∈ [(0 : Int)] := hx
    rw [List.mem_singleton] at hx
    subst hx
    decide
  · have hx : x ∈ [(0 : Int)] := hx
    rw [List.mem_singleton] at hx
    subst hx
    decide
def log13 : List ApiEntry := [{ Kind := 1, Tick := 0, Tenant := 0, Cell := 0, Other := 1, Epoch := 0, From := 0, Until := 0, N := 0 : ApiEntry }, { Kind := 2, Tick := 0, Tenant := 0, Cell := 0, Other := (-1), Epoch := 1, From := 0, Until := 10, N := 0 : ApiEntry }, { Kind := 2, Tick := 3, Tenant := 0, Cell := 0, Other := (-1), Epoch := 1, From := 10, Until := 20, N := 0 : ApiEntry }, { Kind := 3, Tick := 5, Tenant := 0, Cell := (-1), Other := (-1), Epoch := 1, From := 0, Until := 0, N := 0 : ApiEntry }, { Kind := 2, Tick := 6, Tenant := 0, Cell := 1, Other := (-1), Epoch := 2, From := 6, Until := 9, N := 0 : ApiEntry }]
theorem win13 [F : Fuel] : winS two13 log13 = [{ Tenant := 0, Index := 1, Window := { Cell := 0, Epoch := 1, Version := 0, From := 0, Until := 6 } }, { Tenant := 0, Index := 4, Window := { Cell := 1, Epoch := 2, Version := 0, From := 6, Until := 9 } }] := by
  have h : accN two13 (newS two13) log13 = 5 := by
    obtain ⟨⟨n, e⟩⟩ := F
    subst e
    decide +kernel
  unfold winS accS
  rw [h]
  rfl
theorem awake13 [F : Fuel] : law13_awake = some true := by
  have hw : authority_Windows two13 log13 = some (winS two13 log13) := windows_p two13_vc (by decide)
  rw [win13] at hw
  unfold law13_awake law13_two law13_log
  show ((authority_Windows two13 log13).bind _) = _
  unfold authority_At
  rw [hw]
  have ha : authority_At_l3 two13 log13 7 (((List.replicate (Int.toNat ((two13.Tenants.length : Nat) : Int)) (default : Int)).length : Nat) : Int) fuel (List.replicate (Int.toNat ((two13.Tenants.length : Nat) : Int)) (default : Int)) 0 = some [1] := by
    obtain ⟨m, hm⟩ : ∃ m, fuel = m + 4 := ⟨fuel - 4, by rw [fuel_eq]⟩
    rw [hm, authority_At_l3]
    have c1 : (bif decide ((0 : Int) < ((((List.replicate (Int.toNat ((two13.Tenants.length : Nat) : Int)) (default : Int)).length : Nat)) : Int)) then (ixL (List.replicate (Int.toNat ((two13.Tenants.length : Nat) : Int)) (default : Int)) 0 fun x13 => (letD ((List.replicate (Int.toNat ((two13.Tenants.length : Nat) : Int)) (default : Int)).set (Int.toNat 0) (-1)) fun x14 => (authority_At_l3 two13 log13 7 (((List.replicate (Int.toNat ((two13.Tenants.length : Nat) : Int)) (default : Int)).length : Nat) : Int) (m + 3)) x14 (w64 (0 + 1)))) else ((authority_Windows two13 log13).bind fun x3 => authority_At_l2 7 x3 ((x3.length : Nat) : Int) fuel (List.replicate (Int.toNat ((two13.Tenants.length : Nat) : Int)) (default : Int)) 0)) = authority_At_l3 two13 log13 7 1 (m + 3) [-1] 1 := rfl
    rw [c1, authority_At_l3]
    have c2 : (decide ((1 : Int) < 1)) = false := rfl
    rw [c2, cond_false, hw, Option.bind_some, hm]
    rfl
  show ((some _).bind _) = _
  simp only [Option.bind_some]
  have hat : (chk (decide ((0 : Int) ≤ ((two13.Tenants.length : Nat) : Int) ∧ (((two13.Tenants.length : Nat) : Int) : Int) ≤ ((two13.Tenants.length : Nat) : Int) ∧ (((two13.Tenants.length : Nat) : Int) : Int) ≤ 9223372036854775807 ∧ (((two13.Tenants.length : Nat) : Int) : Int) * 8 ≤ 140737488355328))
    (authority_At_l3 two13 log13 7 (((List.replicate (Int.toNat ((two13.Tenants.length : Nat) : Int)) (default : Int)).length : Nat) : Int) fuel (List.replicate (Int.toNat ((two13.Tenants.length : Nat) : Int)) (default : Int)) 0)) = some [1] := by
    rw [ha]; rfl
  have hat' := hat
  unfold two13 log13 at hat'
  rw [hat', Option.bind_some]
  rfl
section
variable {c : ApiConfig} {s : ApiState}
theorem light13 [Fuel] {p1 p2 : List Int} (q : ((!decide (((p1.length : Nat) : Int) ≤ 200)) || !(bif !(!decide (((p1.length : Nat) : Int) ≤ 200)) then decide (((p2.length : Nat) : Int) ≤ 200) else default)) = false) : p1.length ≤ 200 ∧ p2.length ≤ 200 := by
  by_cases w1 : p1.length ≤ 200
  · by_cases w2 : p2.length ≤ 200
    · exact ⟨w1, w2⟩
    · rw [decide_eq_true (show ((p1.length : Nat) : Int) ≤ 200 by omega), decide_eq_false (show ¬ ((p2.length : Nat) : Int) ≤ 200 by omega)] at q; cases q
  · rw [decide_eq_false (show ¬ ((p1.length : Nat) : Int) ≤ 200 by omega)] at q; cases q
end
end Go.CP
namespace Go.CP
open Go
set_option linter.unusedSimpArgs false
set_option linter.unusedVariables false
section
variable {c : ApiConfig} {s : ApiState} {e : ApiEntry} {sp : List ApiSpan}
end
end Go.CP
namespace Go.CP
open Go
set_option linter.unusedSimpArgs false
set_option linter.unusedVariables false
section
variable {c : ApiConfig} {s : ApiState} {e : ApiEntry} {sp : List ApiSpan}
end
end Go.CP
namespace Go.CP
open Go
set_option linter.unusedSimpArgs false
set_option linter.unusedVariables false
def srvB (k tick : Int) (x : ApiSpan) : Bool := (x.Window.Cell == k) && inW x.Window tick
def srvS [Fuel] (c : ApiConfig) (l : List ApiEntry) (k tick : Int) : List Int := ((winS c l).filter (srvB k tick)).map (·.Tenant)
def cellI : Option ApiSpan → Int
  | some x => x.Window.Cell
  | none => -1
section
variable {c : ApiConfig} {s : ApiState} {e : ApiEntry} {sp : List ApiSpan}
theorem filt_take [Fuel] {α : Type} [Inhabited α] {p : α → Bool} {W : List α} {k : Nat} (hk : k < W.length) : (W.take (k + 1)).filter p = (W.take k).filter p ++ (if p (W.getD k default) then [W.getD k default] else []) := by
  rw [List.take_add_one, List.filter_append]
  congr 1
  rw [List.getElem?_eq_getElem hk, List.getD_eq_getElem?_getD, List.getElem?_eq_getElem hk]
  simp [List.filter_cons]
theorem served_p [Fuel] (hc : VC c) {l : List ApiEntry} (hl : l.length ≤ 1000) (k tick : Int) : authority_Served c l k tick = some (srvS c l k tick) := by
  unfold authority_Served
  rw [windows_p hc hl, Option.bind_some]
  have hw := win_len hc hl
  unfold srvS
  generalize winS c l = W at *
  apply eqOk
  refine loop0 (L := fun m x i => authority_Served_l2 k tick W ((W.length : Nat) : Int) m x i) W.length (by omega) (fun j x => x = ((W.take j).filter (srvB k tick)).map (·.Tenant)) rfl ?_ ?_
  · rintro m j x hj rfl ih
    show Ok (authority_Served_l2 k tick W _ (m + 1) _ j) _
    have nx := ih _ rfl
    have hfl := List.length_filter_le (srvB k tick) (W.take j)
    rw [List.length_take] at hfl
    rw [filt_take hj, List.map_append] at nx
    rw [authority_Served_l2, condT (by omega), ixL_ok (by omega) (by omega), Int.toNat_natCast]
    unfold authority_Served_k1
    rw [w64_eq (by omega) (by omega)]
    have hs : srvB k tick (W.getD j default) = ((W.getD j default).Window.Cell == k && inW (W.getD j default).Window tick) := rfl
    cases hq : ((W.getD j default).Window.Cell == k) with
    | false =>
      rw [hs, hq, Bool.false_and] at nx
      simp only [Bool.false_eq_true, if_false, List.map_nil, List.append_nil] at nx
      exact nx
    | true =>
      rw [hs, hq, Bool.true_and] at nx
      show Ok (bif true && inW (W.getD j default).Window tick then _ else _) _
      rw [Bool.true_and]
      cases hw2 : inW (W.getD j default).Window tick with
      | false =>
        rw [hw2] at nx
        simp only [Bool.false_eq_true, if_false, List.map_nil, List.append_nil] at nx
        exact nx
      | true =>
        rw [hw2, if_pos rfl] at nx
        rw [cond_true, chkD_ok (by simp only [List.length_singleton, List.length_map]; unfold room; omega)]
        exact nx
  · rintro m x rfl
    show Ok (authority_Served_l2 k tick W _ (m + 1) _ _) _
    rw [authority_Served_l2, condF (by omega), List.take_length]
    exact Ok.some rfl
theorem srv_len [Fuel] (hc : VC c) {l : List ApiEntry} (hl : l.length ≤ 1000) {k tick : Int} : (srvS c l k tick).length ≤ 32000 := by
  have h1 := win_len hc hl
  have h2 := List.length_filter_le (srvB k tick) (winS c l)
  unfold srvS
  rw [List.length_map]; omega
theorem srv_mem [Fuel] {l : List ApiEntry} {k tick t : Int} : t ∈ srvS c l k tick ↔ ∃ x ∈ winS c l, hb t tick x = true ∧ x.Window.Cell = k := by
  unfold srvS
  rw [List.mem_map]
  constructor
  · rintro ⟨x, hx, rfl⟩
    obtain ⟨h1, h2⟩ := List.mem_filter.1 hx
    unfold srvB at h2
    rw [Bool.and_eq_true, beq_iff_eq] at h2
    refine ⟨x, h1, ?_, h2.1⟩
    unfold hb; rw [h2.2]; simp
  · rintro ⟨x, hx, h1, h2⟩
    unfold hb at h1
    rw [Bool.and_eq_true, beq_iff_eq] at h1
    exact ⟨x, List.mem_filter.2 ⟨hx, by unfold srvB; rw [h1.2, h2]; simp⟩, h1.1⟩
theorem srv_iff [Fuel] (hc : VC c) {l : List ApiEntry} {k tick t : Int} : t ∈ srvS c l k tick ↔ ∃ x, holdS c l t tick = some x ∧ x.Window.Cell = k := by
  rw [srv_mem]
  constructor
  · rintro ⟨x, hx, h1, h2⟩
    exact ⟨x, ord_find (win_ordr hc l) hx h1, h2⟩
  · rintro ⟨x, h1, h2⟩
    exact ⟨x, List.mem_of_find?_eq_some h1, List.find?_some h1, h2⟩
theorem srv_nodup [Fuel] (hc : VC c) {l : List ApiEntry} {k tick : Int} : (srvS c l k tick).Nodup := by
  unfold srvS
  rw [List.Nodup, List.pairwise_map]
  refine List.Pairwise.imp_of_mem (fun {a b} ha hbm q => ?_) ((win_ordr hc l).sublist (List.filter_sublist (p := srvB k tick)))
  intro z
  have h1 := (List.mem_filter.1 ha).2
  have h2 := (List.mem_filter.1 hbm).2
  unfold srvB at h1 h2
  rw [Bool.and_eq_true, inW_iff] at h1 h2
  have := (q z).2.1
  omega
theorem find_take [Fuel] {W : List ApiSpan} (ho : W.Pairwise OrdR) {t tick : Int} {k : Nat} (hk : k < W.length) : (W.take (k + 1)).find? (hb t tick) = if hb t tick (W.getD k default) then some (W.getD k default) else (W.take k).find? (hb t tick) := by
  have et : W.take (k + 1) = W.take k ++ [W.getD k default] := by rw [List.take_add_one]; simp [List.getD_eq_getElem?_getD, hk]
  by_cases q : hb t tick (W.getD k default) = true
  · rw [if_pos q]
    have hp : (W.take (k + 1)).Pairwise OrdR := ho.sublist (List.take_sublist _ _)
    exact ord_find hp (by rw [et]; simp) q
  · rw [if_neg q, et, find_app]
    have q' : hb t tick (W.getD k default) = false := by simpa using q
    have : [W.getD k default].find? (hb t tick) = none := by rw [List.find?_cons, q']; rfl
    rw [this]
    cases (W.take k).find? (hb t tick) <;> rfl
theorem take_none [Fuel] {W : List ApiSpan} (ho : W.Pairwise OrdR) {t tick : Int} {k : Nat} (hk : k < W.length) (q : hb t tick (W.getD k default) = true) : (W.take k).find? (hb t tick) = none := by
  refine find_none (fun x hx => ?_)
  obtain ⟨j, hj, rfl⟩ := List.getElem_of_mem hx
  rw [List.length_take] at hj
  rw [List.getElem_take]
  rw [Bool.eq_false_iff, ne_eq]
  intro z
  have := ord_get ho (show j < k by omega) hk
  rw [List.getD_eq_getElem?_getD (i := j), List.getElem?_eq_getElem (by omega)] at this
  have h1 := hb_iff.1 z
  have h2 := hb_iff.1 q
  have := (this (by rw [h2.1]; exact h1.1)).2.1
  have e1 : (some W[j]).getD default = W[j] := rfl
  rw [e1] at this
  omega
theorem at_p [Fuel] (hc : VC c) {l : List ApiEntry} (hl : l.length ≤ 1000) (tick : Int) : Ok (authority_At c l tick) (fun r => r.length = c.Tenants.length ∧ ∀ t, t < c.Tenants.length → r.getD t default = cellI (holdS c l (t : Int) tick)) := by
  have hct := hc.tl
  have hw := win_len hc hl
  have ho := win_ordr hc l
  have hrw : ∀ x ∈ winS c l, 0 ≤ x.Tenant ∧ x.Tenant < ((c.Tenants.length : Nat) : Int) := fun x hx => (win_mem.1 hx).2.1
  unfold authority_At
  rw [chkD_ok ⟨by omega, by omega, by omega, by omega⟩]
  rw [Int.toNat_natCast, List.length_replicate]
  refine loop0 (L := fun m x i => authority_At_l3 c l tick ((c.Tenants.length : Nat) : Int) m x i) c.Tenants.length (by omega) (fun k x => x = List.replicate k (-1) ++ List.replicate (c.Tenants.length - k) (default : Int)) (by simp) ?_ ?_
  · rintro m k x hk rfl ih
    show Ok (authority_At_l3 c l tick _ (m + 1) _ k) _
    have nx := ih _ rfl
    rw [← repl_set _ _ hk] at nx
    have hlen : (List.replicate k (-1 : Int) ++ List.replicate (c.Tenants.length - k) (default : Int)).length = c.Tenants.length := by simp; omega
    rw [authority_At_l3, condT (by omega), ixL_ok (by omega) (by omega), w64_eq (by omega) (by omega), Int.toNat_natCast]
    exact nx
  · rintro m x rfl
    show Ok (authority_At_l3 c l tick _ (m + 1) _ _) _
    rw [authority_At_l3, condF (by omega), windows_p hc hl, Option.bind_some]
    unfold holdS
    generalize winS c l = W at *
    refine loop0 (L := fun m' x i => authority_At_l2 tick W ((W.length : Nat) : Int) m' x i) W.length (by omega) (fun k x => x.length = c.Tenants.length ∧ ∀ t, t < c.Tenants.length → x.getD t default = cellI ((W.take k).find? (hb (t : Int) tick))) ?_ ?_ ?_
    · refine ⟨by simp, fun t ht => ?_⟩
      rw [Nat.sub_self]
      show _ = -1
      simp [List.getD_eq_getElem?_getD, ht]
    · rintro m' k x hk ⟨i1, i2⟩ ih'
      show Ok (authority_At_l2 tick W _ (m' + 1) _ k) _
      obtain ⟨g1, g2⟩ := hrw _ (getD_mem hk)
      rw [authority_At_l2, condT (by omega), ixL_ok (by omega) (by omega), Int.toNat_natCast]
      show Ok (bif inW (W.getD k default).Window tick then _ else _) _
      unfold authority_At_k1
      rw [w64_eq (by omega) (by omega)]
      cases hq : inW (W.getD k default).Window tick with
      | false =>
        refine ih' x ⟨i1, fun t ht => ?_⟩
        rw [find_take ho hk, i2 t ht, if_neg]
        unfold hb; rw [hq]; simp
      | true =>
        rw [cond_true, ixL_ok g1 (by omega)]
        refine ih' _ ⟨by rw [List.length_set]; exact i1, fun t ht => ?_⟩
        rw [find_take ho hk]
        by_cases z : (W.getD k default).Tenant = (t : Int)
        · have hh : hb (t : Int) tick (W.getD k default) = true := by unfold hb; rw [hq, z]; simp
          have ez : (W.getD k default).Tenant.toNat = t := by omega
          rw [if_pos hh, ez, getD_set (by omega)]; rfl
        · have hh : ¬ hb (t : Int) tick (W.getD k default) = true := fun q => z (hb_iff.1 q).1
          rw [if_neg hh, getD_setN (by omega)]
          exact i2 t ht
    · rintro m' x ⟨i1, i2⟩
      show Ok (authority_At_l2 tick W _ (m' + 1) _ _) _
      rw [authority_At_l2, condF (by omega)]
      rw [List.take_length] at i2
      exact Ok.some ⟨i1, i2⟩
theorem one_l [Fuel] (hc : VC c) {y : List ApiEntry} (hl : y.length ≤ 1000) {tick : Int} {a : List Int} (ha1 : a.length = c.Tenants.length) (ha2 : ∀ t, t < c.Tenants.length → a.getD t default = cellI (holdS c y (t : Int) tick)) (hcell : ∀ t x, holdS c y t tick = some x → 0 ≤ x.Window.Cell ∧ x.Window.Cell < ((c.Cells.length : Nat) : Int)) :
    Ok (law13_AuthorityOne_l6 c y tick (winS c y) a fuel 0) (fun b => b = true) := by
  have hct := hc.tl
  have hcl := hc.cl
  have hw := win_len hc hl
  have ho := win_ordr hc y
  refine loop0 (L := fun m (_ : Unit) i => law13_AuthorityOne_l6 c y tick (winS c y) a m i) (x := ()) c.Tenants.length (by omega) (fun _ _ => True) trivial ?_ ?_
  · rintro m t _ ht _ ih
    show Ok (law13_AuthorityOne_l6 c y tick (winS c y) a (m + 1) t) _
    rw [law13_AuthorityOne_l6, condT (by omega)]
    -- the windows that contain the tick
    refine loop0 (L := fun m' (x : Int × Int) i => law13_AuthorityOne_l5 (law13_AuthorityOne_l6 c y tick (winS c y) a m) c y tick (winS c y) a (t : Int) m' x.1 x.2 i) (x := (0, -1)) (winS c y).length (by omega) (fun k x => x = ((if (((winS c y).take k).find? (hb (t : Int) tick)).isSome then 1 else 0), cellI (((winS c y).take k).find? (hb (t : Int) tick)))) rfl ?_ ?_
    · rintro m' k x hk rfl ih'
      show Ok (law13_AuthorityOne_l5 _ c y tick (winS c y) a (t : Int) (m' + 1) _ _ k) _
      have hki : (0 : Int) ≤ (k : Int) ∧ (k : Int) < (((winS c y).length : Nat) : Int) := ⟨by omega, by omega⟩
      have nx := ih' _ rfl
      rw [find_take ho hk] at nx
      rw [law13_AuthorityOne_l5, condT (by omega), ixL_ok hki.1 hki.2, ixG_ok hki, ixG_ok hki, Int.toNat_natCast]
      unfold law13_AuthorityOne_k1
      rw [w64_eq (x := (k : Int) + 1) (by omega) (by omega)]
      have eh : (((((winS c y).getD k default).Tenant == (t : Int)) && decide (((winS c y).getD k default).Window.From ≤ tick)) && decide (tick < ((winS c y).getD k default).Window.Until)) = hb (t : Int) tick ((winS c y).getD k default) := by unfold hb inW; rw [Bool.and_assoc]
      rw [eh]
      cases hq : hb (t : Int) tick ((winS c y).getD k default) with
      | true =>
        rw [hq, if_pos rfl] at nx
        rw [take_none ho hk hq, cond_true, ixL_ok hki.1 hki.2, Int.toNat_natCast]
        exact nx
      | false =>
        rw [hq] at nx
        simp only [Bool.false_eq_true, if_false] at nx
        exact nx
    · rintro m' x rfl
      show Ok (law13_AuthorityOne_l5 _ c y tick (winS c y) a (t : Int) (m' + 1) _ _ _) _
      rw [List.take_length]
      have eh : (winS c y).find? (hb (t : Int) tick) = holdS c y (t : Int) tick := rfl
      rw [eh, law13_AuthorityOne_l5, condF (by omega), holder_p hc hl, Option.bind_some]
      have hat := ha2 t ht
      have hsrv := fun k => srv_iff hc (l := y) (k := k) (tick := tick) (t := (t : Int))
      have hce := hcell (t : Int)
      generalize holdS c y (t : Int) tick = h at *
      rw [ixG_ok ⟨by omega, by omega⟩, Int.toNat_natCast, hat]
      have c1 : (((decide ((1 : Int) < (if h.isSome then 1 else 0))) || (!((hres h).2 == ((if h.isSome then (1 : Int) else 0) == 1)))) || ((hres h).2 && ((hres h).1.Window.Cell != cellI h))) = false := by
        cases h with
        | none => rfl
        | some x => show (((decide ((1 : Int) < 1)) || (!(true == ((1 : Int) == 1)))) || (true && (x.Window.Cell != x.Window.Cell))) = false; simp
      have c2 : (cellI h != cellI h) = false := by simp
      rw [c1, c2]
      show Ok (law13_AuthorityOne_l4 _ c y tick (t : Int) _ _ fuel 0 0) _
      -- the cells
      refine loop0 (L := fun m2 x i => law13_AuthorityOne_l4 (law13_AuthorityOne_l6 c y tick (winS c y) a m) c y tick (t : Int) (if h.isSome then 1 else 0) (cellI h) m2 x i) c.Cells.length (by omega) (fun k x => x = if h.isSome = true ∧ cellI h < (k : Int) then 1 else 0) (by
        rw [if_neg]
        rintro ⟨q1, q2⟩
        cases h with
        | none => cases q1
        | some x => have := hce x rfl; have q2 : x.Window.Cell < 0 := q2; omega) ?_ ?_
      · rintro m2 k x hk rfl ih2
        show Ok (law13_AuthorityOne_l4 _ c y tick (t : Int) _ _ (m2 + 1) _ k) _
        rw [law13_AuthorityOne_l4, condT (by omega), served_p hc hl, Option.bind_some]
        have hnd := srv_nodup hc (l := y) (k := (k : Int)) (tick := tick)
        have hln := srv_len hc hl (k := (k : Int)) (tick := tick)
        have hmk := hsrv (k : Int)
        have nx := ih2 _ rfl
        generalize srvS c y (k : Int) tick = S at *
        refine loop0 (L := fun m3 x i => law13_AuthorityOne_l3 (law13_AuthorityOne_l4 (law13_AuthorityOne_l6 c y tick (winS c y) a m) c y tick (t : Int) (if h.isSome then 1 else 0) (cellI h) m2) (t : Int) (cellI h) (k : Int) S m3 x i) S.length (by omega) (fun j x => x = (if h.isSome = true ∧ cellI h < (k : Int) then 1 else 0) + (if (t : Int) ∈ S.take j then 1 else 0)) (by simp) ?_ ?_
        · rintro m3 j x hj rfl ih3
          show Ok (law13_AuthorityOne_l3 _ (t : Int) (cellI h) (k : Int) S (m3 + 1) _ j) _
          have et : S.take (j + 1) = S.take j ++ [S.getD j default] := by rw [List.take_add_one]; simp [List.getD_eq_getElem?_getD, hj]
          have n3 := ih3 _ rfl
          rw [law13_AuthorityOne_l3, condT (by omega), ixL_ok (by omega) (by omega), Int.toNat_natCast]
          unfold law13_AuthorityOne_k2
          rw [w64_eq (x := (j : Int) + 1) (by omega) (by omega)]
          cases hq : (S.getD j default == (t : Int)) with
          | true =>
            have hq' : S.getD j default = (t : Int) := by simpa using hq
            have hin : (t : Int) ∈ S := by rw [← hq']; exact getD_mem hj
            obtain ⟨x, hx, hxk⟩ := hmk.1 hin
            have hck : cellI h = (k : Int) := by rw [hx]; exact hxk
            have hni : ¬ (t : Int) ∈ S.take j := by
              intro z
              obtain ⟨i, hi, ei⟩ := List.getElem_of_mem z
              rw [List.length_take] at hi
              rw [List.getElem_take] at ei
              have := ord_get hnd (show i < j by omega) hj
              rw [List.getD_eq_getElem?_getD (i := i), List.getElem?_eq_getElem (by omega), hq'] at this
              exact this ei
            have b1 : ((k : Int) != cellI h) = false := by rw [hck]; simp
            rw [cond_true, b1, cond_false]
            rw [if_neg hni]
            have hin2 : (t : Int) ∈ S.take j ++ [S.getD j default] := by rw [hq']; simp
            rw [et, if_pos hin2] at n3
            have b2 : ¬ (h.isSome = true ∧ cellI h < (k : Int)) := by rw [hck]; omega
            rw [if_neg b2] at n3 ⊢
            exact n3
          | false =>
            have hq' : S.getD j default ≠ (t : Int) := by simpa using hq
            have hif : ((if (t : Int) ∈ S.take (j + 1) then 1 else 0) : Int) = (if (t : Int) ∈ S.take j then 1 else 0) := by
              have hi : (t : Int) ∈ S.take (j + 1) ↔ (t : Int) ∈ S.take j := by
                rw [et, List.mem_append, List.mem_singleton]
                exact ⟨fun z => z.resolve_right (fun w => hq' w.symm), .inl⟩
              by_cases z : (t : Int) ∈ S.take j
              · rw [if_pos z, if_pos (hi.2 z)]
              · rw [if_neg z, if_neg (fun w => z (hi.1 w))]
            rw [hif] at n3
            exact n3
        · rintro m3 x rfl
          show Ok (law13_AuthorityOne_l3 _ (t : Int) (cellI h) (k : Int) S (m3 + 1) _ _) _
          rw [law13_AuthorityOne_l3, condF (by omega), List.take_length, w64_eq (x := (k : Int) + 1) (by omega) (by omega)]
          have es : ((if h.isSome = true ∧ cellI h < (k : Int) then 1 else 0) + (if (t : Int) ∈ S then 1 else 0) : Int) = if h.isSome = true ∧ cellI h < ((k + 1 : Nat) : Int) then 1 else 0 := by
            cases h with
            | none =>
              have : ¬ (t : Int) ∈ S := fun z => by obtain ⟨x, hx, _⟩ := hmk.1 z; cases hx
              rw [if_neg this, if_neg (fun z => by cases z.1), if_neg (fun z => by cases z.1)]; rfl
            | some x =>
              have ec : cellI (some x) = x.Window.Cell := rfl
              rw [ec]
              by_cases q : x.Window.Cell = (k : Int)
              · have : (t : Int) ∈ S := hmk.2 ⟨x, rfl, q⟩
                rw [if_pos this, if_neg (by omega), if_pos ⟨rfl, by push_cast; omega⟩]; rfl
              · have : ¬ (t : Int) ∈ S := fun z => by
                  obtain ⟨x', hx, hk'⟩ := hmk.1 z
                  have : x' = x := by simpa using hx.symm
                  subst this; exact q hk'
                rw [if_neg this]
                by_cases z : x.Window.Cell < (k : Int)
                · rw [if_pos ⟨rfl, z⟩, if_pos ⟨rfl, by push_cast; omega⟩]; rfl
                · rw [if_neg (fun w => z w.2), if_neg (fun w => by have := w.2; push_cast at this; omega)]; rfl
          rw [es]
          exact nx
      · rintro m2 x rfl
        show Ok (law13_AuthorityOne_l4 _ c y tick (t : Int) _ _ (m2 + 1) _ _) _
        rw [law13_AuthorityOne_l4, condF (by omega), w64_eq (by omega) (by omega)]
        have es : ((if h.isSome = true ∧ cellI h < ((c.Cells.length : Nat) : Int) then 1 else 0) : Int) = if h.isSome then 1 else 0 := by
          cases h with
          | none => rfl
          | some x => rw [if_pos ⟨rfl, (hce x rfl).2⟩]; rfl
        rw [es]
        have b0 : ((if h.isSome then (1 : Int) else 0) != (if h.isSome then 1 else 0)) = false := by simp
        rw [b0, cond_false]
        exact ih () trivial
  · rintro m _ _
    show Ok (law13_AuthorityOne_l6 c y tick (winS c y) a (m + 1) _) _
    rw [law13_AuthorityOne_l6, condF (by omega)]
    exact Ok.some rfl
theorem AuthorityOne_true [Fuel] {p1 p2 : List Int} {p3 : Int} (h1 : ∀ x ∈ p1, I64 x) (h2 : ∀ x ∈ p2, I64 x) (h3 : I64 p3) : law13_AuthorityOne p1 p2 p3 = some true := by
  apply okT
  unfold law13_AuthorityOne make_Light
  rw [awake13]
  simp only [Option.bind_some, bifS]
  refine Ok.cond (fun _ => Ok.some rfl) (fun q => ?_)
  have hl := light13 q
  refine Ok.bind (config_ok ⟨h1, hl.1⟩) (fun c hc => ?_)
  refine Ok.bind (log2_ok (n := 60) hc ⟨h2, hl.2⟩ (by omega)) (fun y hy => ?_)
  obtain ⟨s', hy⟩ := hy
  have hyl := hy.len
  refine Ok.bind (mod_ok h3 (by omega) (by omega)) (fun tick ht => ?_)
  rw [windows_p hc (by omega), Option.bind_some]
  refine Ok.bind (at_p hc (by omega) tick) (fun a ha => ?_)
  have e2 : (((a.length : Nat) : Int) != ((c.Tenants.length : Nat) : Int)) = false := by rw [ha.1]; simp
  rw [e2]
  exact one_l hc (by omega) ha.1 ha.2 (fun t x hx => (hold_cell hc hx).1)
end
end Go.CP
namespace Go.AM
open Go Go.RowKit Go.CP
set_option linter.unusedVariables false
def SimCs (w : World) (ys : List CV) (cs : List Value) : Prop :=
  cs.length = ys.length ∧ ∀ (j : Nat) y v, ys[j]? = some y → cs[j]? = some v → SimC w (fun _ => False) y v ∧ v.oneCell' = true
theorem list_cons {α : Type} {l : List α} {n : Nat} (h : l.length = n + 1) : ∃ a t, l = a :: t ∧ t.length = n := by
  cases l with
  | nil => simp at h
  | cons a t => exact ⟨a, t, rfl, by simpa using h⟩
theorem simCs_nil {w : World} : SimCs w [] [] := ⟨rfl, fun j y v h => by simp at h⟩
theorem simCs_cons {w : World} {y : CV} {ys : List CV} {v : Value} {vs : List Value} (h : SimC w (fun _ => False) y v) (h1 : v.oneCell' = true) (t : SimCs w ys vs) : SimCs w (y :: ys) (v :: vs) := by
  refine ⟨by simp [t.1], fun j y' v' e1 e2 => ?_⟩
  cases j with
  | zero => simp at e1 e2; subst e1; subst e2; exact ⟨h, h1⟩
  | succ j => simp at e1 e2; exact t.2 j y' v' e1 e2
theorem simCs_app {w : World} {ys ys' : List CV} {vs vs' : List Value} (h : SimCs w ys vs) (h' : SimCs w ys' vs') : SimCs w (ys ++ ys') (vs ++ vs') := by
  refine ⟨by simp [h.1, h'.1], fun j y v e1 e2 => ?_⟩
  by_cases hj : j < ys.length
  · rw [List.getElem?_append_left hj] at e1
    rw [List.getElem?_append_left (by rw [h.1]; exact hj)] at e2
    exact h.2 j y v e1 e2
  · rw [List.getElem?_append_right (by omega)] at e1
    rw [List.getElem?_append_right (by rw [h.1]; omega), h.1] at e2
    exact h'.2 _ y v e1 e2
theorem simCs_int {w : World} {k : IntKind} {x : Int} {ys : List CV} {vs : List Value} (t : SimCs w ys vs) : SimCs w (.val (.int k x) :: ys) (.int k x :: vs) := simCs_cons (.val _) rfl t
theorem simCs_bool {w : World} {x : Bool} {ys : List CV} {vs : List Value} (t : SimCs w ys vs) : SimCs w (.val (.bool x) :: ys) (.bool x :: vs) := simCs_cons (.val _) rfl t
theorem simCs_str {w : World} {x : ByteArray} {ys : List CV} {vs : List Value} (t : SimCs w ys vs) : SimCs w (.val (.string x) :: ys) (.string x :: vs) := simCs_cons (.val _) rfl t
section
variable {H : Type} {encH : TypeId × Value → H} {P : Program} {w : World} {base : Nat} {spare : Nat → Bool} {held : Bool}
def Opn {α : Type} (encH : TypeId × Value → H) (P : Program) (w : World) (base : Nat) (spare : Nat → Bool) (held : Bool) (t : TypeId) (enc : α → List CV) (Inv : α → Prop) : Prop :=
  ∀ n cs x, DataW.trod encH P w base spare held n t cs = some x → ∃ a, Inv a ∧ SimCs w (enc a) cs
theorem opn_int {t : TypeId} {k : IntKind} (ht : P.underlying t = some (.int k)) : Opn encH P w base spare held t (e_int k) (fun n => (Lit.int k n).wf = true) := by
  intro n cs x h
  obtain ⟨m, rfl, _, hw⟩ := DataW.trod_int ht h
  exact ⟨m, hw, simCs_int simCs_nil⟩
theorem opn_bool {t : TypeId} (ht : P.underlying t = some .bool) : Opn encH P w base spare held t e_bool (fun _ => True) := by
  intro n cs x h
  obtain ⟨m, rfl, _⟩ := DataW.trod_bool ht h
  exact ⟨m, trivial, simCs_bool simCs_nil⟩
theorem opn_str {t : TypeId} (ht : P.underlying t = some .string) : Opn encH P w base spare held t e_str (fun s => s.size ≤ maxLen) := by
  intro n cs x h
  obtain ⟨m, rfl, _, hw⟩ := DataW.trod_string ht h
  exact ⟨m, hw, simCs_str simCs_nil⟩
theorem opn_slice {t e : TypeId} {z : Nat} {τ : Ty} {Inv : den τ → Prop} (ht : P.underlying t = some (.slice e)) (hc : P.cellsOf e = z) (hz0 : 0 < z) (hw : wd τ = z)
    (he : Opn encH P w base spare held e (encT τ) Inv) : Opn encH P w base spare held t (fun xs : List (den τ) => [CV.ls τ xs]) (fun xs => ∀ x ∈ xs, Inv x) := by
  have hz : ∀ a : den τ, (encT τ a).length = z := fun a => by rw [encT_len, hw]
  intro n cs x h
  rcases Deep.open_slice ht h with ⟨rfl, _⟩ | ⟨a, len, cap, m, n, D, Pl, rfl, hb, hl, hm, hmm, _, hx⟩
  · exact ⟨[], by simp, simCs_cons (.ls _ _ _ (.rd0 _ _ _ _)) rfl simCs_nil⟩
  have hlm : len ≤ m := by rw [hmm]; split <;> omega
  have each : ∀ i, i < len → ∃ q : den τ × List Value, Inv q.1 ∧ SimCs w (encT τ q.1) q.2 ∧ q.2.length = z ∧ ∀ j, j < z → w.cell? ((a.add (i * z)).add j) = q.2[j]? := by
    intro i hi
    obtain ⟨cs', h1, h2⟩ := hx i (by omega)
    rw [hc] at h1
    obtain ⟨_, hlen, hcell⟩ := World.cells?_some h1
    obtain ⟨y, hy, hs⟩ := he _ _ _ h2
    exact ⟨(y, cs'), hy, hs, hlen, hcell⟩
  obtain ⟨q, hq⟩ := Deep.choose_lt each
  refine ⟨(List.range len).map (fun i => (q i).1), ?_, simCs_cons (.ls _ _ _ ?_) rfl simCs_nil⟩
  · intro y hy
    obtain ⟨i, hi, rfl⟩ := List.mem_map.1 hy
    exact (hq i (List.mem_range.1 hi)).1
  · rw [hw]
    have hln : ((List.range len).map (fun i => (q i).1)).length = len := by simp
    have hg : ∀ i, i < len → ((List.range len).map (fun i => (q i).1)).getD i default = (q i).1 := by
      intro i hi
      simp [List.getD_eq_getElem?_getD, hi]
    rcases Nat.eq_zero_or_pos len with h0 | h0
    · subst h0; exact .rd0 _ _ _ _
    rw [hln]
    obtain ⟨b, off, spot⟩ := a
    have hsome : ∀ i j, i < len → j < z → (q i).2[j]? = some ((q i).2.getD j undef) := by
      intro i j hi hj
      have : j < (q i).2.length := by rw [(hq i hi).2.2.1]; exact hj
      simp [List.getD_eq_getElem?_getD, this]
    have hsp : spot = none ∧ b < w.heap.size := by
      have h1 := (hq 0 h0).2.2.2 0 hz0
      rw [hsome 0 0 h0 hz0, Nat.zero_mul] at h1
      have ez : ∀ x : Addr, x.add 0 = x := fun x => rfl
      rw [ez, ez] at h1
      unfold World.cell? at h1
      split at h1
      · rename_i heq
        refine ⟨?_, ?_⟩
        · cases spot with
          | none => rfl
          | some s => simp at h1
        · rw [Array.getElem?_eq_some_iff] at heq; exact heq.1
      · cases h1
    obtain ⟨rfl, hbs⟩ := hsp
    have c0 : ∀ i j, i < len → j < z → w.cell? ⟨b, off + (i * z + j), none⟩ = (q i).2[j]? := by
      intro i j hi hj
      have := (hq i hi).2.2.2 j hj
      rw [WideShapes.add_plain, WideShapes.add_plain, Nat.add_assoc] at this
      exact this
    have dm : ∀ j, j < len * z → j / z < len ∧ j % z < z ∧ j / z * z + j % z = j := by
      intro j hj
      refine ⟨(Nat.div_lt_iff_lt_mul hz0).2 hj, Nat.mod_lt _ hz0, ?_⟩
      rw [Nat.mul_comm]; exact Nat.div_add_mod j z
    refine .rd z len _ b off cap (fun j => (q (j / z)).2.getD (j % z) undef) (fun h => h) hbs hl ?_ ?_ ?_ ?_
    · intro i hi; exact hz _
    · intro j hj
      obtain ⟨h1, h2, h3⟩ := dm j hj
      have := c0 (j / z) (j % z) h1 h2
      rw [h3, hsome _ _ h1 h2] at this
      exact this
    · intro j hj
      obtain ⟨h1, h2, h3⟩ := dm j hj
      have hs := (hq (j / z) h1).2.1
      have hlt : j % z < (encT τ (q (j / z)).1).length := by rw [hz]; exact h2
      exact (hs.2 (j % z) ((encT τ (q (j / z)).1)[j % z]) _ (List.getElem?_eq_getElem hlt) (hsome _ _ h1 h2)).2
    · intro i j y hi hy
      unfold fE at hy; rw [hg i hi] at hy
      have hj : j < z := by rw [← hz (q i).1]; exact (List.getElem?_eq_some_iff.1 hy).1
      have e1 : (i * z + j) / z = i := by rw [Nat.mul_comm, Nat.mul_add_div hz0, Nat.div_eq_of_lt hj, Nat.add_zero]
      have e2 : (i * z + j) % z = j := by rw [Nat.mul_comm, Nat.mul_add_mod, Nat.mod_eq_of_lt hj]
      simp only [e1, e2]
      exact ((hq i hi).2.1.2 j y _ hy (hsome i j hi hj)).1
theorem opn_arg {t : TypeId} {τ : Ty} {Inv : List (den τ) → Prop} {a : Option Addr} {len cap : Nat} {d : DataW H} {ps : List MemPlace}
    (he : Opn encH P w base spare held t (fun xs : List (den τ) => [CV.ls τ xs]) Inv) (h : DataW.Trod encH P w base spare held t (.slice a len cap) d ps) : ∃ xs : List (den τ), Inv xs ∧ SimV w (fun _ => none) (fun _ => False) (.one (.s (.c (.ls τ xs)))) (.slice a len cap) := by
  obtain ⟨n, hn⟩ := h
  obtain ⟨xs, hi, hs⟩ := he _ _ _ hn
  refine ⟨xs, hi, ?_⟩
  exact .c (hs.2 0 _ (.slice a len cap) rfl rfl).1
theorem wf_i64 {x : Int} (h : (Lit.int .i64 x).wf = true) : -9223372036854775808 ≤ x ∧ x < 9223372036854775808 := by
  simp only [Lit.wf, decide_eq_true_eq, Bool.and_eq_true] at h
  have e1 : IntKind.i64.min = -9223372036854775808 := by decide
  have e2 : IntKind.i64.max = 9223372036854775807 := by decide
  omega
theorem mx_none : MX (fun _ => False) (fun _ => none) [] = fun _ => False := by
  funext b
  simp only [MX, Mut]
  apply propext
  constructor
  · rintro (h | ⟨k, o, l, hk, _⟩)
    · exact h
    · simp at hk
  · exact fun h => h.elim
theorem CallA.law {P : Program} {f : FuncId} {args : List SV} {v : Value} (hA : CallA P f args [] (fun r' h' => r' = mkv v ∧ h' = [])) {w : World} {vs : List Value}
    (ha : All2 (SimV w (fun _ => none) (fun _ => False)) args vs) :
    Calls P f vs.toArray w fun e w' => e = .returned v ∧ w'.os = w.os ∧ w'.tape = w.tape ∧ w'.output = w.output ∧ w.heap.size ≤ w'.heap.size ∧ ∀ b, b < w.heap.size → w'.heap[b]? = w.heap[b]? := by
  have hH : HeapRel (fun _ => False) w (fun _ => none) [] := ⟨fun k o hk => by simp at hk, fun k k' o o' l l' b e1 => by simp at e1, fun _ _ => rfl, fun b hb => fun h => h, fun b h => h.elim⟩
  refine (hA (fun _ => False) w (fun _ => none) vs hH (by rw [mx_none]; exact ha)).mono (fun e w' he => ?_)
  obtain ⟨v', r', h', m', rfl, ⟨rfl, rfl⟩, H', hsim, hfr, hmt, hid⟩ := he
  have : v' = v := by cases hsim with | c h => cases h; rfl
  subst this
  exact ⟨rfl, hfr.os, hfr.tape, hfr.output.1, hfr.size, fun b hb => hfr.keep b hb (by rintro ⟨k, o, l, hk, _⟩; simp at hk)⟩
theorem CallA.below {P : Program} {f : FuncId} {args : List SV} {v : Value} (hA : CallA P f args [] (fun r' h' => r' = mkv v ∧ h' = [])) {w : World} {vs : List Value}
    (ha : All2 (SimV w (fun _ => none) (fun _ => False)) args vs) : Calls P f vs.toArray w fun e w' => e = .returned v ∧ Below w.heap.size w w' :=
  (CallA.law hA ha).mono fun e w' ⟨h1, h2, h3, h4, h5, h6⟩ => ⟨h1, ⟨h2, h3, h4, h5, h6⟩⟩
end
theorem FnOk.below {P : Program} {S : TSpec} (h : FnOk P S) (v : S.ps.V) {r : S.β} (hF : S.F v = some r) (h0 : eOs S.ps.objs v.2 = []) (h1 : eOs S.rs.objs (S.g r).2 = []) {y : Value} (hy : packR (eSs S.rs.slots (S.g r).1) = mkv y) {w : World} {vs : List Value}
    (ha : All2 (SimV w (fun _ => none) (fun _ => False)) ((eSs S.ps.slots v.1).map (·.2)) vs) : Calls P S.f vs.toArray w fun e w' => e = .returned y ∧ Below w.heap.size w w' := by
  have := h.2 v r hF
  rw [h0, h1, hy] at this
  exact this.below ha
end Go.AM
