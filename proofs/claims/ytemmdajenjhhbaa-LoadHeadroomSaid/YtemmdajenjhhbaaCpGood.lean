/- States stay as they should be. -/
import Derived.Test.YtemmdajenjhhbaaCpApply3
namespace Go.CP
open Go
set_option linter.unusedSimpArgs false
set_option linter.unusedVariables false
def Good (c : ApiConfig) (r : ApiState × Int) : Prop := r.2 = 0 → VS c r.1
section
variable {c : ApiConfig} {s : ApiState} {e : ApiEntry}
theorem Good.bif {b : Bool} {x y : ApiState × Int} (hx : b = true → Good c x) (hy : b = false → Good c y) : Good c (bif b then x else y) := by
  cases b with
  | true => exact hx rfl
  | false => exact hy rfl
theorem Good.no {k : Int} (h : k ≠ 0) : Good c (noS k) := fun q => absurd q h
theorem Good.ok (h : VS c s) : Good c (s, 0) := fun _ => h
theorem Good.fit (h : VS c s) : Good c (fitS c s) := Good.bif (fun _ => Good.no (by decide)) (fun _ => Good.ok h)
theorem toNat_ofInt64 {a : Int} (h0 : 0 ≤ a) (h1 : a < 18446744073709551616) : (BitVec.ofInt 64 a).toNat = a.toNat := by
  rw [BitVec.toNat_ofInt]
  have : a % ((2 : Nat) ^ 64 : Nat) = a := Int.emod_eq_of_lt h0 (by simpa using h1)
  rw [this]
theorem shl_pow {n : Int} (h : 0 ≤ n ∧ n < 62) : shlK .i64 1 (IntKind.u64.wrap n) = 2 ^ n.toNat := by
  rw [u64_eq h.1 (by omega)]
  unfold shlK
  rw [show min n.toNat IntKind.i64.bits = n.toNat from Nat.min_eq_left (by show _ ≤ 64; omega), Int.one_mul]
  have hp : (0 : Int) < 2 ^ n.toNat := Int.pow_pos (by decide)
  have hlt : (2 : Int) ^ n.toNat < 9223372036854775808 := by
    have hh : (2 : Nat) ^ n.toNat ≤ 2 ^ 62 := Nat.pow_le_pow_right (by decide) (by omega)
    have e1 : ((2 : Int) ^ n.toNat) = ((2 ^ n.toNat : Nat) : Int) := by simp
    rw [e1]
    have : (2 : Nat) ^ 62 = 4611686018427387904 := rfl
    omega
  exact w64_eq (by omega) hlt
theorem or_bound {a n : Int} (ha : 0 ≤ a ∧ a < 1073741824) (hn : 0 ≤ n ∧ n < 30) : 0 ≤ orK .i64 a (shlK .i64 1 (IntKind.u64.wrap n)) ∧ orK .i64 a (shlK .i64 1 (IntKind.u64.wrap n)) < 1073741824 := by
  rw [shl_pow ⟨hn.1, by omega⟩]
  have hpn : (2 : Nat) ^ n.toNat < 2 ^ 30 := Nat.pow_lt_pow_right (by decide) (by omega)
  obtain ⟨q, hq⟩ : ∃ q : Nat, q = 2 ^ n.toNat := ⟨_, rfl⟩
  rw [← hq] at hpn
  have e1 : ((2 : Int) ^ n.toNat) = (q : Int) := by rw [hq]; simp
  have h30 : (2 : Nat) ^ 30 = 1073741824 := rfl
  rw [e1]
  unfold orK
  have e2 : (BitVec.ofInt IntKind.i64.bits a ||| BitVec.ofInt IntKind.i64.bits (q : Int)).toNat = a.toNat ||| q := by
    show (BitVec.ofInt 64 a ||| BitVec.ofInt 64 (q : Int)).toNat = _
    rw [BitVec.toNat_or, toNat_ofInt64 ha.1 (by omega), toNat_ofInt64 (by omega) (by omega), Int.toNat_natCast]
  rw [e2]
  have hlt : a.toNat ||| q < 2 ^ 30 := Nat.or_lt_two_pow (by omega) hpn
  generalize a.toNat ||| q = z at hlt ⊢
  have hw : IntKind.i64.wrap (z : Int) = (z : Int) := w64_eq (by omega) (by omega)
  rw [hw]
  omega
theorem xor_bound {a n : Int} (ha : 0 ≤ a ∧ a < 8) (hn : 0 ≤ n ∧ n < 3) : 0 ≤ xorK .i64 a (shlK .i64 1 (IntKind.u64.wrap n)) ∧ xorK .i64 a (shlK .i64 1 (IntKind.u64.wrap n)) < 8 := by
  have h1 : a = 0 ∨ a = 1 ∨ a = 2 ∨ a = 3 ∨ a = 4 ∨ a = 5 ∨ a = 6 ∨ a = 7 := by omega
  have h2 : n = 0 ∨ n = 1 ∨ n = 2 := by omega
  rcases h1 with rfl | rfl | rfl | rfl | rfl | rfl | rfl | rfl <;> rcases h2 with rfl | rfl | rfl <;> decide
theorem cut_w {w : ApiWindow} {tick : Int} (h : 0 ≤ w.From ∧ w.From ≤ w.Until ∧ w.Until ≤ 1073741824) (ht : 0 ≤ tick) : 0 ≤ (cutW w tick).From ∧ (cutW w tick).From ≤ (cutW w tick).Until ∧ (cutW w tick).Until ≤ 1073741824 := by
  unfold cutW minE
  simp only
  (repeat' split) <;> omega
theorem kind_good (h : VC c) (hv : VS c s) (hk : 0 ≤ e.Tick ∧ e.Tick ≤ 1073741824) (hkind : KindP c e) : Good c (kindS c s e) := by
  unfold kindS
  have hcl := hv.cl
  have hvl := h.vl
  cases hkind with
  | place k t ce o w n =>
    rw [k]
    show Good c (placeS c s e)
    unfold placeS
    have hT := ts_at hv (tlen hv t)
    unfold cOk at ce
    refine Good.bif (fun _ => Good.no (by decide)) (fun _ => Good.bif (fun _ => Good.no (by decide)) (fun _ => Good.bif (fun _ => Good.no (by decide)) (fun _ => Good.bif (fun _ => Good.no (by decide)) (fun _ => Good.fit (hv.setT ?_)))))
    exact ⟨⟨by show _ ≤ e.Cell; omega, ce.2⟩, ⟨o.1, o.2.1⟩, hT.nx, hT.tg, hT.wc, fun _ => ce.1, fun _ => rfl, hT.ep, hT.we, hT.wv, hT.wf⟩
  | grant k t ce o ep w n =>
    rw [k]
    show Good c (grantS c s e)
    unfold grantS
    have hT := ts_at hv (tlen hv t)
    unfold cOk at ce
    unfold vOk at n
    refine Good.bif (fun _ => Good.no (by decide)) (fun hpl => Good.bif (fun _ => Good.no (by decide)) (fun _ => Good.bif (fun hg => Good.no (by simpa using hg)) (fun hg => Good.fit (hv.setT ?_))))
    have hg0 : grantedS c s e = 0 := by simpa using hg
    have hwin : e.From < e.Until := by
      unfold grantedS at hg0
      simp only at hg0
      revert hg0
      cases ((cAt s e.Cell).Mode == 3 || (cAt s e.Cell).Mode == 2 && !(e.Cell == (tAt s e.Tenant).Home)) with
      | true => intro q; cases q
      | false =>
        cases (((e.Cell == (tAt s e.Tenant).Home) && (e.Epoch != (tAt s e.Tenant).Epoch)) && (e.Epoch != (tAt s e.Tenant).Epoch + 1)) || ((!(e.Cell == (tAt s e.Tenant).Home)) && (e.Epoch != (tAt s e.Tenant).Epoch + 1)) with
        | true => intro q; cases q
        | false =>
          cases ((e.N != (cAt s e.Cell).Running) || ((cAt s e.Cell).Running != (cAt s e.Cell).Wanted)) with
          | true => intro q; cases q
          | false =>
            simp only [cond_false]
            by_cases hu : e.Until ≤ e.From
            · rw [decide_eq_true hu]; simp
            · intro _; omega
    have hpl' : (tAt s e.Tenant).Placed = true := by
      cases hp : (tAt s e.Tenant).Placed with
      | true => rfl
      | false => rw [hp] at hpl; cases hpl
    unfold afterGrant
    simp only
    have hW : 0 ≤ e.From ∧ e.From ≤ e.Until ∧ e.Until ≤ 1073741824 := by omega
    cases (e.Cell == (tAt s e.Tenant).Home) with
    | true => exact ⟨hT.home, hT.sb, hT.nx, hT.tg, ⟨by show _ ≤ e.Cell; omega, ce.2⟩, hT.pl, hT.sh, ⟨by show 0 ≤ e.Epoch; omega, ep.2⟩, ⟨by show 0 ≤ e.Epoch; omega, ep.2⟩, n, hW⟩
    | false =>
      cases (e.Cell == (tAt s e.Tenant).Standby) with
      | true => exact ⟨⟨by show _ ≤ e.Cell; omega, ce.2⟩, ⟨by show (-1 : Int) ≤ -1; decide, by show (-1 : Int) < _; omega⟩, ⟨by show (-1 : Int) ≤ -1; decide, by show (-1 : Int) < _; omega⟩, ⟨by show (-1 : Int) ≤ -1; decide, by show (-1 : Int) < _; omega⟩, ⟨by show _ ≤ e.Cell; omega, ce.2⟩, fun _ => ce.1, (fun q => by cases q), ⟨by show 0 ≤ e.Epoch; omega, ep.2⟩, ⟨by show 0 ≤ e.Epoch; omega, ep.2⟩, n, hW⟩
      | false => exact ⟨⟨by show _ ≤ e.Cell; omega, ce.2⟩, hT.sb, hT.nx, ⟨by show (-1 : Int) ≤ -1; decide, by show (-1 : Int) < _; omega⟩, ⟨by show _ ≤ e.Cell; omega, ce.2⟩, fun _ => ce.1, hT.sh, ⟨by show 0 ≤ e.Epoch; omega, ep.2⟩, ⟨by show 0 ≤ e.Epoch; omega, ep.2⟩, n, hW⟩
  | cut k t ce o ep w n =>
    rw [k]
    show Good c (cutS s e)
    unfold cutS
    have hT := ts_at hv (tlen hv t)
    refine Good.bif (fun _ => Good.no (by decide)) (fun _ => Good.bif (fun _ => Good.no (by decide)) (fun _ => Good.ok (hv.setT ?_)))
    exact ⟨hT.home, hT.sb, hT.nx, hT.tg, hT.wc, hT.pl, hT.sh, hT.ep, hT.we, hT.wv, cut_w hT.wf hk.1⟩
  | standby k t ce o w n =>
    rw [k]
    show Good c (standbyS c s e)
    unfold standbyS
    have hT := ts_at hv (tlen hv t)
    have hok : Good c (fitS c (CP.setT s e.Tenant { tAt s e.Tenant with Next := e.Cell })) := Good.fit (hv.setT ⟨hT.home, hT.sb, ce, hT.tg, hT.wc, hT.pl, hT.sh, hT.ep, hT.we, hT.wv, hT.wf⟩)
    exact Good.bif (fun _ => Good.no (by decide)) (fun _ => Good.bif (fun _ => hok) (fun _ => Good.bif (fun _ => Good.no (by decide)) (fun _ => Good.bif (fun _ => Good.no (by decide)) (fun _ => Good.bif (fun _ => Good.no (by decide)) (fun _ => Good.bif (fun _ => Good.no (by decide)) (fun _ => hok))))))
  | ready k t ce o w n =>
    rw [k]
    show Good c (readyS s e)
    unfold readyS
    have hT := ts_at hv (tlen hv t)
    unfold cOk at ce
    refine Good.bif (fun _ => Good.no (by decide)) (fun _ => Good.bif (fun _ => Good.no (by decide)) (fun _ => Good.bif (fun _ => Good.no (by decide)) (fun _ => Good.ok (hv.setT ?_))))
    exact ⟨hT.home, ⟨by show _ ≤ e.Cell; omega, ce.2⟩, ⟨by show (-1 : Int) ≤ -1; decide, by show (-1 : Int) < _; omega⟩, hT.tg, hT.wc, hT.pl, hT.sh, hT.ep, hT.we, hT.wv, hT.wf⟩
  | migrate k t ce o w n =>
    rw [k]
    show Good c (migrateS c s e)
    unfold migrateS
    have hT := ts_at hv (tlen hv t)
    unfold cOk at ce
    refine Good.bif (fun _ => Good.no (by decide)) (fun _ => Good.bif (fun _ => Good.no (by decide)) (fun _ => Good.bif (fun _ => Good.no (by decide)) (fun _ => Good.bif (fun _ => Good.no (by decide)) (fun _ => Good.bif (fun _ => Good.no (by decide)) (fun _ => Good.fit (hv.setT ?_))))))
    exact ⟨hT.home, hT.sb, hT.nx, ⟨by show _ ≤ e.Cell; omega, ce.2⟩, hT.wc, hT.pl, hT.sh, hT.ep, hT.we, hT.wv, hT.wf⟩
  | abandon k t ce o w n =>
    rw [k]
    show Good c (abandonS s e)
    unfold abandonS
    have hT := ts_at hv (tlen hv t)
    have := h.cl
    refine Good.bif (fun _ => Good.no (by decide)) (fun _ => Good.ok (hv.setT ?_))
    exact ⟨hT.home, hT.sb, hT.nx, ⟨by show (-1 : Int) ≤ -1; decide, by show (-1 : Int) < _; omega⟩, hT.wc, hT.pl, hT.sh, hT.ep, hT.we, hT.wv, hT.wf⟩
  | shed k t ce o w n =>
    rw [k]
    show Good c (shedS c s e)
    unfold shedS
    have hT := ts_at hv (tlen hv t)
    have := h.cl
    refine Good.bif (fun _ => Good.bif (fun _ => Good.no (by decide)) (fun hp => Good.bif (fun _ => Good.no (by decide)) (fun _ => Good.ok (hv.setT ?_)))) (fun _ => Good.bif (fun _ => Good.no (by decide)) (fun _ => Good.bif (fun _ => Good.no (by decide)) (fun _ => Good.fit (hv.setT ?_))))
    · have hpl : (tAt s e.Tenant).Placed = true := by
        cases hq : (tAt s e.Tenant).Placed with
        | true => rfl
        | false => rw [hq] at hp; cases hp
      exact ⟨hT.home, hT.sb, hT.nx, ⟨by show (-1 : Int) ≤ -1; decide, by show (-1 : Int) < _; omega⟩, hT.wc, hT.pl, fun _ => hpl, hT.ep, hT.we, hT.wv, hT.wf⟩
    · exact ⟨hT.home, hT.sb, hT.nx, hT.tg, hT.wc, hT.pl, fun q => (by cases q), hT.ep, hT.we, hT.wv, hT.wf⟩
  | mode k t ce o w n =>
    rw [k]
    show Good c (modeS s e)
    unfold modeS
    have hC := cs_at hv (clen hv ce)
    exact Good.bif (fun _ => Good.no (by decide)) (fun _ => Good.ok (hv.setC ⟨n, hC.run, hC.wan, hk⟩))
  | want k t ce o w n =>
    rw [k]
    show Good c (wantS c s e)
    unfold wantS
    have hC := cs_at hv (clen hv ce)
    exact Good.bif (fun _ => Good.no (by decide)) (fun _ => Good.bif (fun _ => Good.no (by decide)) (fun _ => Good.bif (fun _ => Good.no (by decide)) (fun _ => Good.bif (fun _ => Good.no (by decide)) (fun _ => Good.ok (hv.setC ⟨hC.mode, hC.run, n, hC.sin⟩)))))
  | runs k t ce o w n =>
    rw [k]
    show Good c (runsS s e)
    unfold runsS
    have hC := cs_at hv (clen hv ce)
    exact Good.bif (fun _ => Good.no (by decide)) (fun _ => Good.bif (fun _ => Good.no (by decide)) (fun _ => Good.bif (fun _ => Good.no (by decide)) (fun _ => Good.ok (hv.setC ⟨hC.mode, n, hC.wan, hk⟩))))
  | prove k t ce o w n =>
    rw [k]
    show Good c (proveS c s e)
    unfold proveS
    unfold vOk at n
    have hb := or_bound hv.prov ⟨n.1, by omega⟩
    exact Good.bif (fun _ => Good.no (by decide)) (fun _ => Good.bif (fun _ => Good.ok ⟨hv.tl, hv.cl, hv.t, hv.cel, hv.tick, hv.cnt, hb, hv.evac, hv.lh⟩) (fun _ => Good.no (by decide)))
  | evac k t ce o w n =>
    rw [k]
    show Good c (evacS s e)
    unfold evacS
    have hreg := h.reg
    have hb := xor_bound hv.evac ⟨o.1, by omega⟩
    exact Good.bif (fun _ => Good.no (by decide)) (fun _ => Good.ok ⟨hv.tl, hv.cl, hv.t, hv.cel, hv.tick, hv.cnt, hv.prov, hb, hv.lh⟩)
  | expand k t ce o w n =>
    rw [k]
    show Good c (expandS c s)
    unfold expandS
    have hlh := hv.lh
    refine Good.bif (fun _ => Good.no (by decide)) (fun h1 => Good.bif (fun _ => Good.no (by decide)) (fun h2 => Good.bif (fun _ => Good.no (by decide)) (fun _ => Good.ok ⟨hv.tl, hv.cl, hv.t, hv.cel, hv.tick, hv.cnt, hv.prov, hv.evac, ?_⟩)))
    have h2 := of_decide_eq_false h2
    exact ⟨hlh.1, by show s.Low ≤ s.High + 1; omega, by show s.High + 1 ≤ 30; omega⟩
  | contract k t ce o w n =>
    rw [k]
    show Good c (contractS s)
    unfold contractS
    have hlh := hv.lh
    exact Good.bif (fun _ => Good.no (by decide)) (fun _ => Good.ok ⟨hv.tl, hv.cl, hv.t, hv.cel, hv.tick, hv.cnt, hv.prov, hv.evac, by show 0 ≤ s.High; omega, Int.le_refl _, hlh.2.2⟩)
  | note k t ce o w n => rw [k]; exact Good.ok hv
theorem apply_good (h : VC c) (hv : VS c s) : Good c (applyS c s e) := by
  unfold applyS
  refine Good.bif (fun _ => Good.no (by decide)) (fun hb => Good.bif (fun _ => Good.no (by decide)) (fun h4 => Good.bif (fun _ => Good.no (by decide)) (fun _ => ?_)))
  have hV := ((valid_eq (e := e) h).2).1 (by simpa using hb)
  have h4 := of_decide_eq_false h4
  exact kind_good h (hv.bump hV.1 (by omega)) hV.1 hV.2
theorem apply_ok (h : VC c) (hv : VS c s) : Ok (ref12_Apply c s e) (fun r => r = applyS c s e ∧ (r.2 = 0 → VS c r.1)) :=
  ⟨_, apply_eq h hv, rfl, apply_good h hv⟩
end
end Go.CP
