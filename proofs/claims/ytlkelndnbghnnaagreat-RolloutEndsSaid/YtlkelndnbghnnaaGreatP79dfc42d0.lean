/- cellplaneref37.Make: its contract. -/
import Derived.Test.YtlkelndnbghnnaaGreatProg
import Derived.Test.YtlkelndnbghnnaaGreatP6e0516d89
namespace Go.Proofs
open Go Go.AM Go.CP Go.RowKit
set_option linter.unusedVariables false
set_option linter.unusedSimpArgs false
set_option maxRecDepth 100000
def mkE : TSpec := { f := 92, ps := ⟨[(0, .st .ApiConfig), (1, .c (.ty (.i .i64)))], []⟩, rs := ⟨[(0, .c (.ty .b))], []⟩, β := Bool, F := fun v => ref37_exists v.1.1 v.1.2.1, g := (fun r => ((r, ()), ())), d := fun _ => default }
def mkN [Fuel] : TSpec := { f := 93, ps := ⟨[(0, .c (.ty (.l (.i .i64)))), (1, .c (.ty (.i .i64)))], []⟩, rs := ⟨[(0, .c (.ty (.i .i64)))], []⟩, β := Int, F := fun v => ref37_count v.1.1 v.1.2.1, g := (fun r => ((r, ()), ())), d := fun _ => default }
def mkT [Fuel] : TSpec := { f := 94, ps := ⟨[(0, .st .ApiConfig), (1, .st .ApiState), (2, .c (.ty (.l (.i .i64)))), (3, .c (.ty (.i .i64)))], []⟩, rs := ⟨[(0, .c (.ty .b))], []⟩, β := Bool, F := fun v => ref37_takes v.1.1 v.1.2.1 v.1.2.2.1 v.1.2.2.2.1, g := (fun r => ((r, ()), ())), d := fun _ => default }
def mkS [Fuel] : TSpec := { f := 39, ps := ⟨[(0, .st .ApiConfig), (1, .st .ApiState), (2, .c (.ty (.l (.i .i64))))], []⟩, rs := ⟨[(0, .c (.own 0)), (1, .c (.ty (.i .i64)))], [.ar (.l (.i .i64))]⟩, β := ((List (List Int)) × Int), F := fun v => ref37_Make v.1.1 v.1.2.1 v.1.2.2.1, g := (fun r => (((), (r.2, ())), (r.1, ()))), d := fun _ => default }
def mkCx [Fuel] (P : Program) : Cx := ⟨P, 78, [(22, .i .i64), (26, .n .ApiCell), (37, .l (.i .i64))], [mkE, mkN, mkT], []⟩
def regO (id : Nat) : Code → Option (Array Oper)
 | .region j ops _ => bif Nat.beq j id then some ops else none
 | .seq x y => match regO id x with
  | some o => some o
  | none => regO id y
 | .cond _ x y => match regO id x with
  | some o => some o
  | none => regO id y
 | .block _ c => regO id c
 | .loop c => regO id c
 | _ => none
def mkB (f : Func) : Code := f.body.getD .skip
def mR (f : Func) (id : Nat) : Array Oper := (regO id (mkB f)).getD #[]
def cL4 (f : Func) : Code := .seq (.seq (.region 13 (mR f 13) true) (.cond (.tmp 54) .skip (.exit 4))) (.block 5 (.region 14 (mR f 14) false))
def cB3 (f : Func) : Code := .seq (.region 10 (mR f 10) false) (.seq (.seq (.region 11 (mR f 11) false) (.cond (.tmp 39) (.exit 3) .skip)) (.seq (.region 12 (mR f 12) false) (.seq (.block 4 (.loop (cL4 f))) (.seq (.region 15 (mR f 15) false) (.cond (.tmp 60) (.region 16 (mR f 16) false) (.region 17 (mR f 17) false))))))
def cL2 (f : Func) : Code := .seq (.region 9 (mR f 9) false) (.seq (.cond (.tmp 34) .skip (.exit 2)) (.seq (.block 3 (cB3 f)) (.region 18 (mR f 18) false)))
def cL0 (f : Func) : Code := .seq (.region 2 (mR f 2) false) (.seq (.cond (.tmp 16) .skip (.exit 0)) (.seq (.block 1 (.seq (.region 3 (mR f 3) false) (.seq (.region 4 (mR f 4) false) (.cond (.tmp 28) (.seq (.region 5 (mR f 5) false) .ret) .skip)))) (.region 6 (mR f 6) false)))
def cC (f : Func) : Code := .seq (.region 7 (mR f 7) false) (.seq (.seq (.region 8 (mR f 8) false) (.block 2 (.loop (cL2 f)))) (.seq (.region 19 (mR f 19) false) .ret))
def cAll (f : Func) : Code := .seq (.region 0 (mR f 0) false) (.seq (.seq (.region 1 (mR f 1) false) (.block 0 (.loop (cL0 f)))) (cC f))
def sh3 : Shape := ⟨[(2, .c (.ty (.l (.i .i64)))), (3, .c (.rp (.n .ApiConfig))), (4, .c (.rp (.n .ApiState)))], []⟩
def shA : Shape := ⟨[(2, .c (.ty (.l (.i .i64)))), (3, .c (.rp (.n .ApiConfig))), (4, .c (.rp (.n .ApiState))), (13, .c (.ty (.l (.i .i64)))), (14, .c (.ty (.i .i64))), (15, .c (.ty (.i .i64)))], []⟩
def kI (t : Nat) : Nat × SK := (t, .c (.ty (.i .i64)))
def kB (t : Nat) : Nat × SK := (t, .c (.ty .b))
def mu [Fuel] : mkS.rs.V → mkS.β := fun v => (v.2.1, v.1.2.1)
def mk0 [Fuel] : Exit → TS → Option mkS.β
 | .normal, ts => decK 0 sh3 (fun u => ref37_Make u.1.2.1 u.1.2.2.1 u.1.1) ts
 | _, _ => none
def mk1 [Fuel] (P : Program) : Exit → TS → Option mkS.β
 | .normal, ts => decK 0 sh3 (fun u => ref37_Make_l2 u.1.2.1 u.1.2.2.1 u.1.1 fuel [] 0) ts
 | e, ts => retT P 0 mkS.rs [.tmp 6, .tmp 7] mu e ts
theorem mkA [Fuel] (hT : ∀ S ∈ (mkCx Tryz.prog).T, FnOk (mkCx Tryz.prog).P S) {v : mkS.ps.V} {r : mkS.β} (h : mkS.F v = some r) {Q : Exit → St → Prop}
  (hQ : ∀ u : sh3.V, ref37_Make u.1.2.1 u.1.2.2.1 u.1.1 = some r → ∀ st, Le 0 st (enc sh3 u).er → Q .normal st) : wpA (mkCx Tryz.prog).P 78 0 (.region 0 (mR Tryz.f39 0) false) Q (enc mkS.ps v).er := by
 refine wpA_mono (exec_ok (C := (mkCx Tryz.prog)) (p := 0) hT (.region 0 (mR Tryz.f39 0) false) (an := .z) (ts := enc mkS.ps v) (k := mk0) (res := r) vZ (enc_ok _ v) (Eq.trans (by kernel_rfl) h)) (fun e st hp => ?_)
 obtain ⟨ts', h1, h2, h3⟩ := hp
 cases e with
 | normal =>
  obtain ⟨u, h4, h5⟩ := decK_some (p := 0) h2 h1
  exact hQ u h5 st (h3.trans h4)
 | _ => cases h1
theorem mkB1 [Fuel] (hT : ∀ S ∈ (mkCx Tryz.prog).T, FnOk (mkCx Tryz.prog).P S) {u : sh3.V} {r : mkS.β} (h : ref37_Make u.1.2.1 u.1.2.2.1 u.1.1 = some r) {Q : Exit → St → Prop}
  (hQ : ∀ u : sh3.V, ref37_Make_l2 u.1.2.1 u.1.2.2.1 u.1.1 fuel [] 0 = some r → ∀ st, Le 0 st (enc sh3 u).er → Q .normal st)
  (hR : ∀ e st, e ≠ .normal → Post 0 (retT (mkCx Tryz.prog).P 0 mkS.rs [.tmp 6, .tmp 7] mu) r e st → Q e st) : wpA (mkCx Tryz.prog).P 78 0 (.seq (.region 1 (mR Tryz.f39 1) false) (.block 0 (.loop (cL0 Tryz.f39)))) Q (enc sh3 u).er := by
 refine wpA_mono (exec_ok (C := (mkCx Tryz.prog)) (p := 0) hT (.seq (.region 1 (mR Tryz.f39 1) false) (.block 0 (.loop (cL0 Tryz.f39))))
  (an := .two .z (.one (.lp shA (fun n v => ref37_Make_l3 v.1.2.1 v.1.2.2.1 v.1.1 v.1.2.2.2.1 v.1.2.2.2.2.1 n v.1.2.2.2.2.2.1) fun rc => .z))) (ts := enc sh3 u) (k := mk1 Tryz.prog) (res := r) (vS vZ (vB (vL fun _ => vZ))) (enc_ok _ u) (Eq.trans (by kernel_rfl) h)) (fun e st hp => ?_)
 obtain ⟨ts', h1, h2, h3⟩ := hp
 cases e with
 | normal =>
  obtain ⟨u, h4, h5⟩ := decK_some (p := 0) h2 h1
  exact hQ u h5 st (h3.trans h4)
 | _ => exact hR _ st (fun h => by cases h) ⟨ts', h1, h2, h3⟩
def iV (x : Int) : Value := .int .i64 x
def bsL (p1 : ApiConfig) (p2 : ApiState) (p3 : List Int) : List (Nat × SV) := eSs sh3.slots (p3, (p1, (p2, ())))
structure Core (X : Mu) (sz : Nat) (w0 : World) (M0 : Mu) (bs : List (Nat × SV)) (L : AM.Loc) (ls : List AM.Loc) (x : List (List Int)) (a : Act) (w : World) : Prop where
 dfr : a.defers = []
 frm : FrameW w0 M0 w
 xlt : ∀ b, X b → b < sz
 sz0 : w0.heap.size ≤ sz
 szw : sz ≤ w.heap.size
 nest : Nest sz w L ls x
 out : a.tmps[10]? = some (slV L)
 base : Slots w m0L (fun b => X b ∨ NB L ls b) 78 bs a
theorem FrameW.same [Fuel] {w0 w w' : World} {M0 : Mu} (h : FrameW w0 M0 w) (k : WSame w w') : FrameW w0 M0 w' :=
 ⟨k.os.trans h.os, k.tape.trans h.tape, h.output.trans k.output, Nat.le_trans h.size k.size, fun b hb hM => (k.keep b (Nat.lt_of_lt_of_le hb h.size)).trans (h.keep b hb hM)⟩
section
variable {X : Mu} {sz : Nat} {w0 : World} {M0 : Mu} {p1 : ApiConfig} {p2 : ApiState} {p3 : List Int} {L : AM.Loc} {ls : List AM.Loc} {x : List (List Int)} {a : Act} {w : World}
theorem Core.xw [Fuel] (c : Core X sz w0 M0 (bsL p1 p2 p3) L ls x a w) : ∀ b, X b → b < w.heap.size := fun b hb => Nat.lt_of_lt_of_le (c.xlt b hb) c.szw
theorem Core.nx [Fuel] (c : Core X sz w0 M0 (bsL p1 p2 p3) L ls x a w) : ∀ b, NB L ls b → ¬ X b := fun b hb hX => by
 have := c.nest.fresh b hb
 have := c.xlt b hX
 omega
theorem bs_look [Fuel] {t : Nat} {s : SV} (h : AM.look (bsL p1 p2 p3) t = some s) : t = 2 ∨ t = 3 ∨ t = 4 := by
 have e : bsL p1 p2 p3 = [(2, .one (.s (.c (.ls (.i .i64) p3)))), (3, .one (.s (.rp (encT (.n .ApiConfig) p1)))), (4, .one (.s (.rp (encT (.n .ApiState) p2))))] := rfl
 rw [e] at h
 simp only [AM.look] at h
 cases h2 : Nat.beq 2 t with
 | true => exact .inl (Nat.eq_of_beq_eq_true h2).symm
 | false =>
  rw [h2] at h
  cases h3 : Nat.beq 3 t with
  | true => exact .inr (.inl (Nat.eq_of_beq_eq_true h3).symm)
  | false =>
   rw [h3] at h
   cases h4 : Nat.beq 4 t with
   | true => exact .inr (.inr (Nat.eq_of_beq_eq_true h4).symm)
   | false => rw [h4] at h; cases h
theorem Core.bx [Fuel] (c : Core X sz w0 M0 (bsL p1 p2 p3) L ls x a w) : Slots w m0L X 78 (bsL p1 p2 p3) a :=
 c.base.move c.base.1 (fun _ _ _ => rfl) (fun b _ h hX => h (.inl hX)) (fun _ _ _ => rfl) (Nat.le_refl _)
theorem Core.nil [Fuel] (c : Core X sz w0 M0 (bsL p1 p2 p3) L ls x a w) : Slots w m0L X 78 [] a := ⟨c.base.1, fun x s h => by cases h⟩
theorem Core.reg [Fuel] (hT : ∀ S ∈ (mkCx Tryz.prog).T, FnOk (mkCx Tryz.prog).P S) (c : Core X sz w0 M0 (bsL p1 p2 p3) L ls x a w) {id : Nat} {ops : Array Oper} {any : Bool} {sh sh' : Shape} {v : sh.V} {res : sh'.V} (h0 : sh.objs = []) (h1 : sh'.objs = [])
  (e : tReg (mkCx Tryz.prog) id ops any (enc sh v) (decK 0 sh' some) = some res) (hs : Slots w m0L X 78 (eSs sh.slots v.1) a) (hf : (freeB ops 10 && freeB ops 2 && freeB ops 3 && freeB ops 4) = true)
  {Q : Exit → Act → World → Prop} (hQ : ∀ a' w', Core X sz w0 M0 (bsL p1 p2 p3) L ls x a' w' → (∃ m, Slots w' m X 78 (eSs sh'.slots res.1) a') → (∀ t, freeB ops t = true → a'.tmps[t]? = a.tmps[t]?) → Q .normal a' w') : (Code.region id ops any).wp Tryz.prog Q a w := by
 simp only [Bool.and_eq_true] at hf
 refine tReg_kept (C := mkCx Tryz.prog) hT h0 h1 e c.xw c.dfr hs (fun a' w' hd hW hS hk => hQ a' w' ?_ hS hk)
 obtain ⟨m, hS⟩ := hS
 exact ⟨hd, FrameW.same c.frm hW, c.xlt, c.sz0, Nat.le_trans c.szw hW.size, c.nest.same hW, by rw [hk 10 hf.1.1.1]; exact c.out,
  c.base.move hS.1 (fun t s ht => hk t (by rcases bs_look ht with rfl | rfl | rfl; exact hf.1.1.2; exact hf.1.2; exact hf.2)) (fun _ _ h => h) (fun b hb _ => hW.keep b hb) hW.size⟩
end
theorem ev_tmp [Fuel] {a : Act} {t : Nat} {v : Value} (h : a.tmps[t]? = some v) : a.eval (.tmp t) = v := by simp [Act.eval, h]
theorem svv [Fuel] {w : World} {m : AM.Locs} {M : Mu} {v : Value} : SimV w m M (mkv v) v := SimS.c (.val _)
theorem svo [Fuel] {w : World} {m : AM.Locs} {M : Mu} {k : Nat} {l : AM.Loc} (h : m k = some l) : SimV w m M (.one (.s (.own k))) (slV l) := SimS.own k l h
theorem sv_int [Fuel] {w : World} {M : Mu} {i : Int} : SimV w m0L M (.one (.s (.c (.val (.int .i64 i))))) (iV i) := SimS.c (.val _)
section
variable {X : Mu} {sz : Nat} {w0 : World} {M0 : Mu} {p1 : ApiConfig} {p2 : ApiState} {p3 : List Int} {L : AM.Loc} {ls : List AM.Loc} {x : List (List Int)} {a : Act} {w : World}
theorem r8 [Fuel] (hT : ∀ S ∈ (mkCx Tryz.prog).T, FnOk (mkCx Tryz.prog).P S) (c : Core X sz w0 M0 (bsL p1 p2 p3) L ls x a w) {Q : Exit → Act → World → Prop}
  (hQ : ∀ a' w', Core X sz w0 M0 (bsL p1 p2 p3) L ls x a' w' → a'.tmps[32]? = some (iV ((p1.Cells.length : Nat) : Int)) → a'.tmps[33]? = some (iV 0) → Q .normal a' w') : (Code.region 8 (mR Tryz.f39 8) false).wp Tryz.prog Q a w :=
 c.reg hT (sh := sh3) (sh' := ⟨[kI 32, kI 33], []⟩) (v := ((p3, (p1, (p2, ()))), ())) (res := ((((p1.Cells.length : Nat) : Int), ((0 : Int), ())), ())) rfl rfl (by kernel_rfl) c.bx (by kernel_rfl)
  (fun a' w' hc hS _ => by obtain ⟨m, hS⟩ := hS; exact hQ a' w' hc (hS.val rfl) (hS.val rfl))
theorem r9 [Fuel] (hT : ∀ S ∈ (mkCx Tryz.prog).T, FnOk (mkCx Tryz.prog).P S) (c : Core X sz w0 M0 (bsL p1 p2 p3) L ls x a w) {n k : Int} (h32 : a.tmps[32]? = some (iV n)) (h33 : a.tmps[33]? = some (iV k)) {Q : Exit → Act → World → Prop}
  (hQ : ∀ a' w', Core X sz w0 M0 (bsL p1 p2 p3) L ls x a' w' → a'.tmps[32]? = some (iV n) → a'.tmps[33]? = some (iV k) → a'.tmps[34]? = some (.bool (decide (k < n))) → Q .normal a' w') : (Code.region 9 (mR Tryz.f39 9) false).wp Tryz.prog Q a w :=
 c.reg hT (sh := ⟨[kI 32, kI 33], []⟩) (sh' := ⟨[kB 34], []⟩) (v := ((n, (k, ())), ())) (res := ((decide (k < n), ()), ())) rfl rfl (by kernel_rfl) ((c.nil.cons h33 sv_int).cons h32 sv_int) (by kernel_rfl)
  (fun a' w' hc hS hk => by obtain ⟨m, hS⟩ := hS; exact hQ a' w' hc (by rw [hk 32 (by kernel_rfl)]; exact h32) (by rw [hk 33 (by kernel_rfl)]; exact h33) (hS.val rfl))
theorem r10 [Fuel] (hT : ∀ S ∈ (mkCx Tryz.prog).T, FnOk (mkCx Tryz.prog).P S) (c : Core X sz w0 M0 (bsL p1 p2 p3) L ls x a w) {n k : Int} (h32 : a.tmps[32]? = some (iV n)) (h33 : a.tmps[33]? = some (iV k)) {Q : Exit → Act → World → Prop}
  (hQ : ∀ a' w', Core X sz w0 M0 (bsL p1 p2 p3) L ls x a' w' → a'.tmps[32]? = some (iV n) → a'.tmps[33]? = some (iV k) → a'.tmps[11]? = some (iV k) → Q .normal a' w') : (Code.region 10 (mR Tryz.f39 10) false).wp Tryz.prog Q a w :=
 c.reg hT (sh := ⟨[kI 33], []⟩) (sh' := ⟨[kI 11], []⟩) (v := ((k, ()), ())) (res := ((k, ()), ())) rfl rfl (by kernel_rfl) (c.nil.cons h33 sv_int) (by kernel_rfl)
  (fun a' w' hc hS hk => by obtain ⟨m, hS⟩ := hS; exact hQ a' w' hc (by rw [hk 32 (by kernel_rfl)]; exact h32) (by rw [hk 33 (by kernel_rfl)]; exact h33) (hS.val rfl))
theorem r11 [Fuel] (hT : ∀ S ∈ (mkCx Tryz.prog).T, FnOk (mkCx Tryz.prog).P S) (c : Core X sz w0 M0 (bsL p1 p2 p3) L ls x a w) {n k q : Int} (h32 : a.tmps[32]? = some (iV n)) (h33 : a.tmps[33]? = some (iV k)) (h11 : a.tmps[11]? = some (iV k)) (hq : ref37_count p3 k = some q) {Q : Exit → Act → World → Prop}
  (hQ : ∀ a' w', Core X sz w0 M0 (bsL p1 p2 p3) L ls x a' w' → a'.tmps[32]? = some (iV n) → a'.tmps[33]? = some (iV k) → a'.tmps[11]? = some (iV k) → a'.tmps[39]? = some (.bool (q == 0)) → Q .normal a' w') : (Code.region 11 (mR Tryz.f39 11) false).wp Tryz.prog Q a w :=
 c.reg hT (sh := ⟨kI 11 :: sh3.slots, []⟩) (sh' := ⟨[kB 39], []⟩) (v := ((k, (p3, (p1, (p2, ())))), ())) (res := ((q == 0, ()), ())) rfl rfl (Eq.trans (b := (ref37_count p3 k).bind fun q => some (((q == 0, ()), ()) : (⟨[kB 39], []⟩ : Shape).V)) (by kernel_rfl) (by rw [hq]; rfl)) (c.bx.cons h11 sv_int) (by kernel_rfl)
  (fun a' w' hc hS hk => by obtain ⟨m, hS⟩ := hS; exact hQ a' w' hc (by rw [hk 32 (by kernel_rfl)]; exact h32) (by rw [hk 33 (by kernel_rfl)]; exact h33) (by rw [hk 11 (by kernel_rfl)]; exact h11) (hS.val rfl))
theorem r12 [Fuel] (hT : ∀ S ∈ (mkCx Tryz.prog).T, FnOk (mkCx Tryz.prog).P S) (c : Core X sz w0 M0 (bsL p1 p2 p3) L ls x a w) {n k : Int} (h32 : a.tmps[32]? = some (iV n)) (h33 : a.tmps[33]? = some (iV k)) (h11 : a.tmps[11]? = some (iV k)) {Q : Exit → Act → World → Prop}
  (hQ : ∀ a' w', Core X sz w0 M0 (bsL p1 p2 p3) L ls x a' w' → a'.tmps[32]? = some (iV n) → a'.tmps[33]? = some (iV k) → a'.tmps[11]? = some (iV k) → a'.tmps[12]? = some (iV 1) → Q .normal a' w') : (Code.region 12 (mR Tryz.f39 12) false).wp Tryz.prog Q a w :=
 c.reg hT (sh := ⟨[], []⟩) (sh' := ⟨[kI 12], []⟩) (v := ((), ())) (res := (((1 : Int), ()), ())) rfl rfl (by kernel_rfl) c.nil (by kernel_rfl)
  (fun a' w' hc hS hk => by obtain ⟨m, hS⟩ := hS; exact hQ a' w' hc (by rw [hk 32 (by kernel_rfl)]; exact h32) (by rw [hk 33 (by kernel_rfl)]; exact h33) (by rw [hk 11 (by kernel_rfl)]; exact h11) (hS.val rfl))
theorem r14 [Fuel] (hT : ∀ S ∈ (mkCx Tryz.prog).T, FnOk (mkCx Tryz.prog).P S) (c : Core X sz w0 M0 (bsL p1 p2 p3) L ls x a w) {n k i : Int} (h32 : a.tmps[32]? = some (iV n)) (h33 : a.tmps[33]? = some (iV k)) (h11 : a.tmps[11]? = some (iV k)) (h12 : a.tmps[12]? = some (iV i)) {Q : Exit → Act → World → Prop}
  (hQ : ∀ a' w', Core X sz w0 M0 (bsL p1 p2 p3) L ls x a' w' → a'.tmps[32]? = some (iV n) → a'.tmps[33]? = some (iV k) → a'.tmps[11]? = some (iV k) → a'.tmps[12]? = some (iV (w64 (i + 1))) → Q .normal a' w') : (Code.region 14 (mR Tryz.f39 14) false).wp Tryz.prog Q a w :=
 c.reg hT (sh := ⟨[kI 12], []⟩) (sh' := ⟨[kI 12], []⟩) (v := ((i, ()), ())) (res := ((w64 (i + 1), ()), ())) rfl rfl (by kernel_rfl) (c.nil.cons h12 sv_int) (by kernel_rfl)
  (fun a' w' hc hS hk => by obtain ⟨m, hS⟩ := hS; exact hQ a' w' hc (by rw [hk 32 (by kernel_rfl)]; exact h32) (by rw [hk 33 (by kernel_rfl)]; exact h33) (by rw [hk 11 (by kernel_rfl)]; exact h11) (hS.val rfl))
theorem r18 [Fuel] (hT : ∀ S ∈ (mkCx Tryz.prog).T, FnOk (mkCx Tryz.prog).P S) (c : Core X sz w0 M0 (bsL p1 p2 p3) L ls x a w) {n k : Int} (h32 : a.tmps[32]? = some (iV n)) (h33 : a.tmps[33]? = some (iV k)) {Q : Exit → Act → World → Prop}
  (hQ : ∀ a' w', Core X sz w0 M0 (bsL p1 p2 p3) L ls x a' w' → a'.tmps[32]? = some (iV n) → a'.tmps[33]? = some (iV (w64 (k + 1))) → Q .normal a' w') : (Code.region 18 (mR Tryz.f39 18) false).wp Tryz.prog Q a w :=
 c.reg hT (sh := ⟨[kI 33], []⟩) (sh' := ⟨[kI 33], []⟩) (v := ((k, ()), ())) (res := ((w64 (k + 1), ()), ())) rfl rfl (by kernel_rfl) (c.nil.cons h33 sv_int) (by kernel_rfl)
  (fun a' w' hc hS hk => by obtain ⟨m, hS⟩ := hS; exact hQ a' w' hc (by rw [hk 32 (by kernel_rfl)]; exact h32) (hS.val rfl))
def kL (t : Nat) : Nat × SK := (t, .c (.ty (.l (.l (.i .i64)))))
theorem r13 [Fuel] (hT : ∀ S ∈ (mkCx Tryz.prog).T, FnOk (mkCx Tryz.prog).P S) (c : Core X sz w0 M0 (bsL p1 p2 p3) L ls x a w) {n k i : Int} (h32 : a.tmps[32]? = some (iV n)) (h33 : a.tmps[33]? = some (iV k)) (h11 : a.tmps[11]? = some (iV k)) (h12 : a.tmps[12]? = some (iV i)) {t : Bool}
  (ht : (ixG (decide (i < ((x.length : Nat) : Int))) x i fun w => (bif (decide (i < ((x.length : Nat) : Int))) then ref37_takes p1 p2 w k else some default)) = some t) {Q : Exit → Act → World → Prop}
  (hQ : ∀ a' w', Core X sz w0 M0 (bsL p1 p2 p3) L ls x a' w' → a'.tmps[32]? = some (iV n) → a'.tmps[33]? = some (iV k) → a'.tmps[11]? = some (iV k) → a'.tmps[12]? = some (iV i) → a'.tmps[54]? = some (.bool ((decide (i < ((x.length : Nat) : Int))) && (!t))) → Q .normal a' w') : (Code.region 13 (mR Tryz.f39 13) true).wp Tryz.prog Q a w := by
 refine c.reg hT (sh := ⟨kL 10 :: kI 11 :: kI 12 :: sh3.slots, []⟩) (sh' := ⟨[kB 54], []⟩) (v := ((x, (k, (i, (p3, (p1, (p2, ())))))), ())) (res := (((decide (i < ((x.length : Nat) : Int))) && (!t), ()), ())) rfl rfl
  (Eq.trans (b := ixG (decide (i < ((x.length : Nat) : Int))) x i fun w => ((bif (decide (i < ((x.length : Nat) : Int))) then ref37_takes p1 p2 w k else some default)).bind fun t => some ((((decide (i < ((x.length : Nat) : Int))) && (!t), ()), ()) : (⟨[kB 54], []⟩ : Shape).V)) (by kernel_rfl) ?_)
  (((c.bx.cons h12 sv_int).cons h11 sv_int).cons c.out (.c (c.nest.lst (fun b hb hX => c.nx b hb hX)))) (by kernel_rfl)
  (fun a' w' hc hS hk => by obtain ⟨m, hS⟩ := hS; exact hQ a' w' hc (by rw [hk 32 (by kernel_rfl)]; exact h32) (by rw [hk 33 (by kernel_rfl)]; exact h33) (by rw [hk 11 (by kernel_rfl)]; exact h11) (by rw [hk 12 (by kernel_rfl)]; exact h12) (hS.val rfl))
 unfold ixG at ht ⊢
 obtain ⟨e1, e2⟩ := chk_elim ht
 rw [e1]
 have e2 : (bif (decide (i < ((x.length : Nat) : Int))) then ref37_takes p1 p2 (x.getD i.toNat default) k else some default) = some t := e2
 exact (congrArg (fun o => Option.bind o _) e2).trans rfl
theorem r15 [Fuel] (hT : ∀ S ∈ (mkCx Tryz.prog).T, FnOk (mkCx Tryz.prog).P S) (c : Core X sz w0 M0 (bsL p1 p2 p3) L ls x a w) {n k i : Int} (h32 : a.tmps[32]? = some (iV n)) (h33 : a.tmps[33]? = some (iV k)) (h11 : a.tmps[11]? = some (iV k)) (h12 : a.tmps[12]? = some (iV i)) {Q : Exit → Act → World → Prop}
  (hQ : ∀ a' w', Core X sz w0 M0 (bsL p1 p2 p3) L ls x a' w' → a'.tmps[32]? = some (iV n) → a'.tmps[33]? = some (iV k) → a'.tmps[11]? = some (iV k) → a'.tmps[12]? = some (iV i) → a'.tmps[60]? = some (.bool (decide (i < ((x.length : Nat) : Int)))) → Q .normal a' w') : (Code.region 15 (mR Tryz.f39 15) false).wp Tryz.prog Q a w :=
 c.reg hT (sh := ⟨[kL 10, kI 12], []⟩) (sh' := ⟨[kB 60], []⟩) (v := ((x, (i, ())), ())) (res := ((decide (i < ((x.length : Nat) : Int)), ()), ())) rfl rfl (by kernel_rfl)
  ((c.nil.cons h12 sv_int).cons c.out (.c (c.nest.lst (fun b hb hX => c.nx b hb hX)))) (by kernel_rfl)
  (fun a' w' hc hS hk => by obtain ⟨m, hS⟩ := hS; exact hQ a' w' hc (by rw [hk 32 (by kernel_rfl)]; exact h32) (by rw [hk 33 (by kernel_rfl)]; exact h33) (by rw [hk 11 (by kernel_rfl)]; exact h11) (by rw [hk 12 (by kernel_rfl)]; exact h12) (hS.val rfl))
theorem rIn [Fuel] (hT : ∀ S ∈ (mkCx Tryz.prog).T, FnOk (mkCx Tryz.prog).P S) (c : Core X sz w0 M0 (bsL p1 p2 p3) L ls x a w) {n k : Int} (h32 : a.tmps[32]? = some (iV n)) (h33 : a.tmps[33]? = some (iV k)) (h11 : a.tmps[11]? = some (iV k)) (h12 : a.tmps[12]? = some (iV 1))
  {rc : Int → Option (List (List Int) × Int)} {r : List (List Int) × Int} (hr : ref37_Make_l1 p1 p2 k x rc fuel 1 = some r) {Q : Exit → Act → World → Prop}
  (hQ : ∀ a' w' i, Core X sz w0 M0 (bsL p1 p2 p3) L ls x a' w' → a'.tmps[32]? = some (iV n) → a'.tmps[33]? = some (iV k) → a'.tmps[11]? = some (iV k) → a'.tmps[12]? = some (iV i) → (i < ((x.length : Nat) : Int) → 0 ≤ i) → rc i = some r → Q .normal a' w') : (Code.block 4 (.loop (cL4 Tryz.f39))).wp Tryz.prog Q a w := by
 refine wp_block (wp_loopN (n := fuel) (I := fun m a w => ∃ i, ref37_Make_l1 p1 p2 k x rc m i = some r ∧ Core X sz w0 M0 (bsL p1 p2 p3) L ls x a w ∧ a.tmps[32]? = some (iV n) ∧ a.tmps[33]? = some (iV k) ∧ a.tmps[11]? = some (iV k) ∧ a.tmps[12]? = some (iV i))
  ⟨1, hr, c, h32, h33, h11, h12⟩ (fun m a w hI => ?_))
 obtain ⟨i, hr, c, h32, h33, h11, h12⟩ := hI
 cases m with
 | zero => cases hr
 | succ m =>
  rw [ref37_Make_l1] at hr
  have ht : (i < ((x.length : Nat) : Int) → 0 ≤ i) ∧ ∃ t, (ixG (decide (i < ((x.length : Nat) : Int))) x i fun w => (bif (decide (i < ((x.length : Nat) : Int))) then ref37_takes p1 p2 w k else some default)) = some t ∧
    (bif ((decide (i < ((x.length : Nat) : Int))) && (!t)) then ref37_Make_l1 p1 p2 k x rc m (w64 (i + 1)) else rc i) = some r := by
   unfold ixG at hr ⊢
   obtain ⟨e1, e2⟩ := chk_elim hr
   obtain ⟨t, e3, e4⟩ := bind_elim e2
   exact ⟨fun hlt => (gDT e1 (decide_eq_true hlt)).1, t, by rw [e1]; exact e3, e4⟩
  obtain ⟨hnn, t, ht, hr⟩ := ht
  unfold cL4
  refine wp_seq (wp_seq (r13 hT c h32 h33 h11 h12 ht (fun a' w' c h32 h33 h11 h12 h54 => ?_)))
  show (Code.cond (.tmp 54) .skip (.exit 4)).wp Tryz.prog _ a' w'
  refine wp_cond_split (ev_tmp h54) (fun hb => ?_) (fun hb => ?_)
  ·rw [hb, cond_true] at hr
   refine wp_skip ?_
   show (Code.block 5 (.region 14 (mR Tryz.f39 14) false)).wp Tryz.prog _ a' w'
   refine wp_block (r14 hT c h32 h33 h11 h12 (fun a2 w2 c h32 h33 h11 h12 => ?_))
   exact ⟨m, Nat.lt_succ_self m, w64 (i + 1), hr, c, h32, h33, h11, h12⟩
  ·rw [hb, cond_false] at hr
   refine wp_exit ?_
   show (if 4 = 4 then Q .normal a' w' else Q (.exit 4) a' w')
   rw [if_pos rfl]
   exact hQ a' w' i c h32 h33 h11 h12 hnn hr
def oF (ls : List AM.Loc) : Nat → List CV := fun j => [.val (ouV ls j)]
def rF (r : List Int) : Nat → List CV := fun j => [.val (rwV r j)]
def oneF (v : Value) : Nat → List CV := fun j => (([CV.val v]).drop (j * 1)).take 1
def h16 (n len : Nat) (f g : Nat → List CV) : List AObj := [.arr 1 n f, .arr 1 len g] ++ List.replicate 88 .dead
def s16a (k i : Int) : List (Nat × SV) := [(10, .one (.s (.own 0))), (11, mkv (iV k)), (12, mkv (iV i))]
def s16b (k i : Int) (v : Value) : List (Nat × SV) := putD (putD (putD (putD (putD (putD (s16a k i) (some 61) (.one (.s (.own 0)))) (some 62) (mkv (iV i))) (some 63) (.one (.s (.own 0)))) (some 64) (mkv (iV i))) (some 65) (.one (.s (.pe 0 i.toNat 0)))) (some 66) (mkv v)
theorem run16a [Fuel] (n len : Nat) (ls : List AM.Loc) (g : Nat → List CV) (k i : Int) : runL Tryz.prog 78 (mR Tryz.f39 16) [] 2 ((mR Tryz.f39 16).toList.take 6) 0 (s16a k i) (h16 n len (oF ls) g) =
  some (s16b k i (ouV ls i.toNat), h16 n len (oF ls) g, [(decide (0 ≤ i ∧ i < (n : Int))) = true]) := by kernel_rfl
def s16c (k i : Int) : List (Nat × SV) := [(61, .one (.s (.own 0))), (62, mkv (iV i)), (66, .one (.s (.own 1))), (11, mkv (iV k))]
def h16b (n len : Nat) (f g : Nat → List CV) (k : Int) : List AObj := applyWs (applyWs (h16 n len f g) [(58, .arr 1 1 (oneF (iV k)))]) [(1, .dead), (66, .arr 1 (len + 1) (app len g (oneF (iV k))))]
def s16d (k i : Int) : List (Nat × SV) := putD (putD (putD (s16c k i) (some 67) (mkv (iV k))) (some 68) (.one (.s (.own 58)))) (some 69) (.one (.s (.own 66)))
theorem run16b [Fuel] (n len : Nat) (f g : Nat → List CV) (k i : Int) : runL Tryz.prog 78 (mR Tryz.f39 16) [] 2 (((mR Tryz.f39 16).toList.drop 6).take 3) 6 (s16c k i) (h16 n len f g) =
  some (s16d k i, h16b n len f g k, [(decide ((len + 1) * 8 ≤ 140737488355328)) = true]) := by kernel_rfl
def s16e (i : Int) (v : Value) : List (Nat × SV) := [(61, .one (.s (.own 0))), (62, mkv (iV i)), (69, mkv v)]
def h16c (n len : Nat) (f g : Nat → List CV) (k : Int) (i : Nat) (v : Value) : List AObj := applyWs (h16b n len f g k) [(0, .arr 1 n (upd f i (splice (f i) 0 [.val v])))]
def s16f (i : Int) (v : Value) : List (Nat × SV) := putD (s16e i v) (some 70) (.one (.s (.pe 0 i.toNat 0)))
theorem run16c [Fuel] (n len : Nat) (f g : Nat → List CV) (k i : Int) (l : AM.Loc) : runL Tryz.prog 78 (mR Tryz.f39 16) [] 2 (((mR Tryz.f39 16).toList.drop 6).drop 3) 9 (s16e i (slV l)) (h16b n len f g k) =
  some (s16f i (slV l), h16c n len f g k i.toNat (slV l), [(decide (0 ≤ i ∧ i < (n : Int))) = true]) := by kernel_rfl
def h17 (n : Nat) (f g : Nat → List CV) : List AObj := [.arr 1 n f, .arr 1 0 g] ++ List.replicate 48 .dead
def s17a (k : Int) : List (Nat × SV) := [(10, .one (.s (.own 0))), (11, mkv (iV k))]
def s17b (k : Int) : List (Nat × SV) := putD (putD (putD (s17a k) (some 71) (.one (.s (.own 0)))) (some 72) (mkv (iV k))) (some 73) (.one (.s (.own 18)))
def h17b (n : Nat) (f g : Nat → List CV) (k : Int) : List AObj := applyWs (h17 n f g) [(18, .arr 1 1 (oneF (iV k)))]
theorem run17a [Fuel] (n : Nat) (f g : Nat → List CV) (k : Int) : runL Tryz.prog 78 (mR Tryz.f39 17) [] 2 ((mR Tryz.f39 17).toList.take 3) 0 (s17a k) (h17 n f g) = some (s17b k, h17b n f g k, []) := by kernel_rfl
def s17c (v : Value) : List (Nat × SV) := [(71, .one (.s (.own 0))), (73, mkv v)]
def s17d (v : Value) : List (Nat × SV) := putD (putD (putD (s17c v) (some 74) (.one (.s (.own 26)))) (some 75) (.one (.s (.own 34)))) (some 10) (.one (.s (.own 34)))
def h17c (n : Nat) (f g : Nat → List CV) (k : Int) (v : Value) : List AObj := applyWs (applyWs (h17b n f g k) [(26, .arr 1 1 (oneF v))]) [(0, .dead), (34, .arr 1 (n + 1) (app n f (oneF v)))]
theorem run17b [Fuel] (n : Nat) (f g : Nat → List CV) (k : Int) (l : AM.Loc) : runL Tryz.prog 78 (mR Tryz.f39 17) [] 2 ((mR Tryz.f39 17).toList.drop 3) 3 (s17c (slV l)) (h17b n f g k) =
  some (s17d (slV l), h17c n f g k (slV l), [(decide ((n + 1) * 24 ≤ 140737488355328)) = true]) := by kernel_rfl
theorem kept_of [Fuel] {ops : Array Oper} {t : Nat} (h : freeB ops t = true) {l : List Oper} (hl : ∀ o ∈ l, o ∈ ops.toList) : ∀ o ∈ l, o.dst ≠ some t := fun o ho => (freeB_spec h).1 o (hl o ho)
theorem one_row [Fuel] (k : Int) : ∀ j, j < 1 → oneF (iV k) j = [.val (rwV [k] j)] := fun j hj => by
 obtain rfl : j = 0 := by omega
 rfl
theorem app_row [Fuel] {len : Nat} {row : List Int} (hl : row.length = len) (k : Int) : ∀ j, j < len + 1 → app len (rF row) (oneF (iV k)) j = [.val (rwV (row ++ [k]) j)] := fun j hj => by
 unfold app
 by_cases q : j < len
 ·rw [if_pos q]
  unfold rF rwV
  rw [getD_app_l (by omega)]
 ·obtain rfl : j = len := by omega
  rw [if_neg q, Nat.sub_self]
  unfold rwV
  rw [← hl, getD_app_e]; rfl
theorem upd_out [Fuel] {ls : List AM.Loc} {i : Nat} {l : AM.Loc} (hi : i < ls.length) : ∀ j, upd (oF ls) i (splice (oF ls i) 0 [.val (slV l)]) j = [.val (ouV (ls.set i l) j)] := fun j => by
 unfold upd
 by_cases q : j = i
 ·subst q
  rw [if_pos rfl]
  unfold ouV
  rw [AM.getD_set_self hi]; rfl
 ·rw [if_neg q]
  unfold oF ouV
  rw [AM.getD_set_ne (fun e => q e.symm)]
theorem app_out [Fuel] {ls : List AM.Loc} {n : Nat} {l : AM.Loc} (hn : ls.length = n) : ∀ j, j < n + 1 → app n (oF ls) (oneF (slV l)) j = [.val (ouV (ls ++ [l]) j)] := fun j hj => by
 unfold app
 by_cases q : j < n
 ·rw [if_pos q]
  unfold oF ouV
  rw [getD_app_l (by omega)]
 ·obtain rfl : j = n := by omega
  rw [if_neg q, Nat.sub_self]
  unfold ouV
  rw [← hn, getD_app_e]; rfl
theorem own_at [Fuel] {w : World} {m : AM.Locs} {M : Mu} {nt : Nat} {σ : List (Nat × SV)} {a : Act} (hs : Slots w m M nt σ a) {t k : Nat} (h : AM.look σ t = some (.one (.s (.own k)))) : ∃ l, m k = some l ∧ a.tmps[t]? = some (slV l) := by
 obtain ⟨v, h1, h2⟩ := hs.2 t _ h
 have h2 : SimS w m M (.own k) v := h2
 cases h2 with
 | own _ l hk => exact ⟨l, hk, h1⟩
theorem fresh_two [Fuel] {L l : AM.Loc} {n len : Nat} {f g : Nat → List CV} {N : Nat} : ∀ k, 2 ≤ k → k < 2 + N → ([AObj.arr 1 n f, AObj.arr 1 len g] ++ List.replicate N AObj.dead)[k]? = some .dead ∧ loc2 L l k = none := fun k h1 h2 => by
 refine ⟨?_, ?_⟩
 ·rw [List.getElem?_append_right (by simpa using h1), List.getElem?_replicate, if_pos (by show k - 2 < N; omega)]
 ·unfold loc2
  rw [if_neg (by omega), if_neg (by omega)]
theorem mut_two [Fuel] {L l : AM.Loc} {n len : Nat} {f g : Nat → List CV} {N b : Nat} (h : Mut (loc2 L l) ([AObj.arr 1 n f, AObj.arr 1 len g] ++ List.replicate N AObj.dead) b) : L.blk = some b ∨ l.blk = some b := by
 obtain ⟨k, o, lk, hk, ho, hm, hb⟩ := h
 unfold loc2 at hm
 by_cases h0 : k = 0
 ·rw [if_pos h0] at hm; cases hm; exact .inl hb
 ·rw [if_neg h0] at hm
  by_cases h1 : k = 1
  ·rw [if_pos h1] at hm; cases hm; exact .inr hb
  ·rw [if_neg h1] at hm; cases hm
theorem r16 [Fuel] (c : Core X sz w0 M0 (bsL p1 p2 p3) L ls x a w) {n k i : Int} (h32 : a.tmps[32]? = some (iV n)) (h33 : a.tmps[33]? = some (iV k)) (h11 : a.tmps[11]? = some (iV k)) (h12 : a.tmps[12]? = some (iV i)) (hi : 0 ≤ i ∧ i < ((x.length : Nat) : Int))
  (hroom : ((x.getD i.toNat default).length + 1) * 8 ≤ room) {Q : Exit → Act → World → Prop}
  (hQ : ∀ a' w' ls', Core X sz w0 M0 (bsL p1 p2 p3) L ls' (x.set i.toNat (x.getD i.toNat default ++ [k])) a' w' → a'.tmps[32]? = some (iV n) → a'.tmps[33]? = some (iV k) → Q .normal a' w') : (Code.region 16 (mR Tryz.f39 16) false).wp Tryz.prog Q a w := by
 have hii : i.toNat < x.length := by omega
 have hil : i.toNat < ls.length := by rw [c.nest.len]; exact hii
 obtain ⟨row, erow⟩ : ∃ row, row = x.getD i.toNat default := ⟨_, rfl⟩
 rw [← erow] at hroom
 have hrowV := c.nest.rows i.toNat hii
 rw [← erow] at hrowV
 obtain ⟨li, eli⟩ : ∃ li, li = ls.getD i.toNat l0 := ⟨_, rfl⟩
 rw [← eli] at hrowV
 obtain ⟨X6, eX⟩ : ∃ X6 : Mu, X6 = fun b => X b ∨ ∃ j, j < x.length ∧ j ≠ i.toNat ∧ (ls.getD j l0).blk = some b := ⟨_, rfl⟩
 have nbj : ∀ j b, j < x.length → (ls.getD j l0).blk = some b → NB L ls b := fun j b hj hb => .inr ⟨j, by rw [c.nest.len]; exact hj, hb⟩
 have nbi : ∀ b, li.blk = some b → NB L ls b := fun b hb => nbj i.toNat b hii (by rw [← eli]; exact hb)
 have H0 : HeapRel X6 w (loc2 L li) [.arr 1 x.length (oF ls), .arr 1 row.length (rF row)] := by
  refine heap_two c.nest.outer hrowV (fun b hb => ?_) (fun b hb hX => ?_) (fun b hb hX => ?_) (fun b hb hL => c.nest.sep i.toNat b hii (by rw [← eli]; exact hb) hL) (fun _ _ => rfl) (fun _ _ => rfl)
  ·rw [eX] at hb
   rcases hb with hb | ⟨j, hj, _, hb⟩
   ·exact c.xw b hb
   ·exact c.nest.lt (nbj j b hj hb)
  ·rw [eX] at hX
   rcases hX with hX | ⟨j, hj, _, hb'⟩
   ·exact c.nx b (.inl hb) hX
   ·exact c.nest.sep j b hj hb' hb
  ·rw [eX] at hX
   rcases hX with hX | ⟨j, hj, hne, hb'⟩
   ·exact c.nx b (nbi b hb) hX
   ·exact hne (c.nest.inj j i.toNat b hj hii hb' (by rw [← eli]; exact hb))
 have H1 : HeapRel X6 w (loc2 L li) (h16 x.length row.length (oF ls) (rF row)) := heap_more H0 88
 have f1 := fresh_two (L := L) (l := li) (n := x.length) (len := row.length) (f := oF ls) (g := rF row) (N := 88)
 have hs1 : Slots w (loc2 L li) (MX X6 (loc2 L li) (h16 x.length row.length (oF ls) (rF row))) 78 (s16a k i) a :=
  (((slots0 c.base.1).cons h12 svv).cons h11 svv).cons c.out (svo rfl)
 refine wp_region_list ?_
 rw [← List.take_append_drop 6 (mR Tryz.f39 16).toList]
 refine runL_cont 11 _ _ 0 _ _ _ w (loc2 L li) a (by decide) (run16a x.length row.length ls (rF row) k i) (fun q hq => ?_) H1 hs1 (fun k h1 h2 => f1 k (by omega) (by omega)) (fun a1 w1 m1 F1 S1 K1 D1 => ?_)
 ·rw [List.mem_singleton] at hq; subst hq; exact decide_eq_true hi
 have e66 : a1.tmps[66]? = some (slV li) := by
  have := S1.val (t := 66) (v := ouV ls i.toNat) rfl
  rw [this, eli]; rfl
 have S2 : Slots w1 m1 (MX X6 m1 (h16 x.length row.length (oF ls) (rF row))) 78 (s16c k i) a1 := by
  obtain ⟨l61, b1, b2⟩ := own_at S1 (t := 61) (k := 0) rfl
  exact (((S1.none.cons (S1.val (t := 11) (v := iV k) rfl) svv).cons e66 (svo (F1.later.ext _ _ rfl))).cons (S1.val (t := 62) (v := iV i) rfl) svv).cons b2 (svo b1)
 rw [← List.take_append_drop 3 ((mR Tryz.f39 16).toList.drop 6)]
 refine runL_cont 11 _ _ 6 _ _ _ w1 m1 a1 (by decide) (run16b x.length row.length (oF ls) (rF row) k i) (fun q hq => ?_) F1.rel S2 D1 (fun a2 w2 m2 F2 S3 K2 D2 => ?_)
 ·rw [List.mem_singleton] at hq; subst hq; exact decide_eq_true hroom
 obtain ⟨l3, el3, e69⟩ := own_at S3 (t := 69) (k := 66) rfl
 have S4 : Slots w2 m2 (MX X6 m2 (h16b x.length row.length (oF ls) (rF row) k)) 78 (s16e i (slV l3)) a2 := by
  obtain ⟨l61, b1, b2⟩ := own_at S3 (t := 61) (k := 0) rfl
  exact ((S3.none.cons e69 svv).cons (S3.val (t := 62) (v := iV i) rfl) svv).cons b2 (svo b1)
 rw [← List.append_nil (((mR Tryz.f39 16).toList.drop 6).drop 3)]
 refine runL_cont 11 [] _ 9 _ _ _ w2 m2 a2 (by decide) (run16c x.length row.length (oF ls) (rF row) k i l3) (fun q hq => ?_) F2.rel S4 D2 (fun a3 w3 m3 F3 S5 K3 D3 => wpList_nil ?_)
 ·rw [List.mem_singleton] at hq; subst hq; exact decide_eq_true hi
 have F : Far X6 w (loc2 L li) (h16 x.length row.length (oF ls) (rF row)) w3 m3 (h16c x.length row.length (oF ls) (rF row) k i.toNat (slV l3)) := (F1.trans F2).trans F3
 have hm0 : m3 0 = some L := F.later.ext 0 L rfl
 have hm66 : m3 66 = some l3 := F3.later.ext 66 l3 el3
 have o0 : (h16c x.length row.length (oF ls) (rF row) k i.toNat (slV l3))[0]? = some (.arr 1 x.length (upd (oF ls) i.toNat (splice (oF ls i.toNat) 0 [.val (slV l3)]))) := rfl
 have o66 : (h16c x.length row.length (oF ls) (rF row) k i.toNat (slV l3))[66]? = some (.arr 1 (row.length + 1) (app row.length (rF row) (oneF (iV k)))) := rfl
 obtain ⟨L', eL', AL⟩ := ArrV.of (F.rel.obj 0 _ o0) (n := x.length) (u := ouV (ls.set i.toNat l3)) (fun j _ => upd_out hil j)
 rw [hm0] at eL'; cases eL'
 obtain ⟨l3', el3', AR⟩ := ArrV.of (F.rel.obj 66 _ o66) (n := row.length + 1) (u := rwV (row ++ [k])) (app_row rfl k)
 rw [hm66] at el3'; cases el3'
 have blk3 : ∀ b, l3.blk = some b → (ls.getD i.toNat l0).blk = some b ∨ w.heap.size ≤ b := fun b hb => by
  rcases F.mt b ⟨66, _, l3, o66, trivial, hm66, hb⟩ with q | q
  ·rcases mut_two q with q | q
   ·have := F.rel.inj 0 66 _ _ L l3 b o0 o66 trivial trivial hm0 hm66 q hb
    cases this
   ·exact .inl (by rw [← eli]; exact q)
  ·exact .inr q
 have sep3 : ∀ b, l3.blk = some b → L.blk = some b → False := fun b hb hL => by
  have := F.rel.inj 0 66 _ _ L l3 b o0 o66 trivial trivial hm0 hm66 hL hb
  cases this
 have kp : ∀ b, b < w.heap.size → ¬ NB L ls b → w3.heap[b]? = w.heap[b]? := fun b hb hN => F.keep b hb (fun hM => by
  rcases mut_two hM with q | q
  ·exact hN (.inl q)
  ·exact hN (nbi b q))
 have kpj : ∀ j b, j < x.length → j ≠ i.toNat → (ls.getD j l0).blk = some b → w3.heap[b]? = w.heap[b]? := fun j b hj hne hb => F.keep b (c.nest.lt (nbj j b hj hb)) (fun hM => by
  rcases mut_two hM with q | q
  ·exact c.nest.sep j b hj hb q
  ·exact hne (c.nest.inj j i.toNat b hj hii hb (by rw [← eli]; exact q)))
 have kt : ∀ t, freeB (mR Tryz.f39 16) t = true → a3.tmps[t]? = a.tmps[t]? := fun t ht => by
  rw [K3.2 t (kept_of ht (fun o ho => List.mem_of_mem_drop (List.mem_of_mem_drop ho))), K2.2 t (kept_of ht (fun o ho => List.mem_of_mem_drop (List.mem_of_mem_take ho))), K1.2 t (kept_of ht (fun o ho => List.mem_of_mem_take ho))]
 have hnest : Nest sz w3 L (ls.set i.toNat l3) (x.set i.toNat (row ++ [k])) :=
  c.nest.setR c.szw hii (by exact AL) (by rw [List.length_append]; exact AR) kpj blk3 sep3
 refine hQ a3 w3 (ls.set i.toNat l3) ?_ (by rw [kt 32 (by kernel_rfl)]; exact h32) (by rw [kt 33 (by kernel_rfl)]; exact h33)
 rw [← erow]
 refine ⟨by rw [K3.1, K2.1, K1.1]; exact c.dfr, ?_, c.xlt, c.sz0, Nat.le_trans c.szw F.later.size, hnest, by rw [kt 10 (by kernel_rfl)]; exact c.out, ?_⟩
 ·refine ⟨F.os.trans c.frm.os, F.tape.trans c.frm.tape, c.frm.output.trans F.output, Nat.le_trans c.frm.size F.later.size, fun b hb hM => ?_⟩
  rw [kp b (Nat.lt_of_lt_of_le hb c.frm.size) (fun hN => by have := c.nest.fresh b hN; have := c.sz0; omega)]
  exact c.frm.keep b hb hM
 ·refine c.base.move S5.1 (fun t s ht => kt t (by rcases bs_look ht with rfl | rfl | rfl <;> kernel_rfl)) (fun b hb hM hM' => ?_) (fun b hb hM => kp b hb (fun hN => hM (.inr hN))) F.later.size
  rcases hM' with q | q
  ·exact hM (.inl q)
  ·rcases q with q | ⟨j, hj, q⟩
   ·exact hM (.inr (.inl q))
   ·rw [List.length_set, c.nest.len] at hj
    by_cases e : i.toNat = j
    ·subst e
     rw [AM.getD_set_self hil] at q
     rcases blk3 b q with q | q
     ·exact hM (.inr (nbj _ b hii q))
     ·omega
    ·rw [AM.getD_set_ne e] at q
     exact hM (.inr (nbj j b hj q))
theorem r17 [Fuel] (c : Core X sz w0 M0 (bsL p1 p2 p3) L ls x a w) {n k : Int} (h32 : a.tmps[32]? = some (iV n)) (h33 : a.tmps[33]? = some (iV k)) (h11 : a.tmps[11]? = some (iV k))
  (hroom : (x.length + 1) * 24 ≤ room) {Q : Exit → Act → World → Prop}
  (hQ : ∀ a' w' L' ls', Core X sz w0 M0 (bsL p1 p2 p3) L' ls' (x ++ [[k]]) a' w' → a'.tmps[32]? = some (iV n) → a'.tmps[33]? = some (iV k) → Q .normal a' w') : (Code.region 17 (mR Tryz.f39 17) false).wp Tryz.prog Q a w := by
 obtain ⟨X6, eX⟩ : ∃ X6 : Mu, X6 = fun b => X b ∨ ∃ j, j < x.length ∧ (ls.getD j l0).blk = some b := ⟨_, rfl⟩
 have nbj : ∀ j b, j < x.length → (ls.getD j l0).blk = some b → NB L ls b := fun j b hj hb => .inr ⟨j, by rw [c.nest.len]; exact hj, hb⟩
 have H0 : HeapRel X6 w (loc2 L l0) [.arr 1 x.length (oF ls), .arr 1 0 (rF [])] := by
  refine heap_two c.nest.outer (arr0 w (rwV [])) (fun b hb => ?_) (fun b hb hX => ?_) (fun b hb => by cases hb) (fun b hb => by cases hb) (fun _ _ => rfl) (fun _ _ => rfl)
  ·rw [eX] at hb
   rcases hb with hb | ⟨j, hj, hb⟩
   ·exact c.xw b hb
   ·exact c.nest.lt (nbj j b hj hb)
  ·rw [eX] at hX
   rcases hX with hX | ⟨j, hj, hb'⟩
   ·exact c.nx b (.inl hb) hX
   ·exact c.nest.sep j b hj hb' hb
 have H1 : HeapRel X6 w (loc2 L l0) (h17 x.length (oF ls) (rF [])) := heap_more H0 48
 have f1 := fresh_two (L := L) (l := l0) (n := x.length) (len := 0) (f := oF ls) (g := rF []) (N := 48)
 have hs1 : Slots w (loc2 L l0) (MX X6 (loc2 L l0) (h17 x.length (oF ls) (rF []))) 78 (s17a k) a :=
  ((slots0 c.base.1).cons h11 svv).cons c.out (svo rfl)
 refine wp_region_list ?_
 rw [← List.take_append_drop 3 (mR Tryz.f39 17).toList]
 refine runL_cont 6 _ _ 0 _ _ _ w (loc2 L l0) a (by decide) (run17a x.length (oF ls) (rF []) k) (fun q hq => absurd hq List.not_mem_nil) H1 hs1 (fun k h1 h2 => f1 k (by omega) (by omega)) (fun a1 w1 m1 F1 S1 K1 D1 => ?_)
 obtain ⟨l3, el3, e73⟩ := own_at S1 (t := 73) (k := 18) rfl
 have S2 : Slots w1 m1 (MX X6 m1 (h17b x.length (oF ls) (rF []) k)) 78 (s17c (slV l3)) a1 := by
  obtain ⟨l71, b1, b2⟩ := own_at S1 (t := 71) (k := 0) rfl
  exact (S1.none.cons e73 svv).cons b2 (svo b1)
 rw [← List.append_nil ((mR Tryz.f39 17).toList.drop 3)]
 refine runL_cont 6 [] _ 3 _ _ _ w1 m1 a1 (by decide) (run17b x.length (oF ls) (rF []) k l3) (fun q hq => ?_) F1.rel S2 D1 (fun a2 w2 m2 F2 S3 K2 D2 => wpList_nil ?_)
 ·rw [List.mem_singleton] at hq; subst hq; exact decide_eq_true hroom
 have F : Far X6 w (loc2 L l0) (h17 x.length (oF ls) (rF [])) w2 m2 (h17c x.length (oF ls) (rF []) k (slV l3)) := F1.trans F2
 obtain ⟨L', eL', e10⟩ := own_at S3 (t := 10) (k := 34) rfl
 have hm18 : m2 18 = some l3 := F2.later.ext 18 l3 el3
 have hm0 : m1 0 = some L := F1.later.ext 0 L rfl
 have o0 : (h17b x.length (oF ls) (rF []) k)[0]? = some (.arr 1 x.length (oF ls)) := rfl
 have o18' : (h17b x.length (oF ls) (rF []) k)[18]? = some (.arr 1 1 (oneF (iV k))) := rfl
 have o18 : (h17c x.length (oF ls) (rF []) k (slV l3))[18]? = some (.arr 1 1 (oneF (iV k))) := rfl
 have o34 : (h17c x.length (oF ls) (rF []) k (slV l3))[34]? = some (.arr 1 (x.length + 1) (app x.length (oF ls) (oneF (slV l3)))) := rfl
 obtain ⟨L2, eL2, AL⟩ := ArrV.of (F.rel.obj 34 _ o34) (n := x.length + 1) (u := ouV (ls ++ [l3])) (app_out c.nest.len)
 rw [eL'] at eL2; cases eL2
 obtain ⟨l3', el3', AR⟩ := ArrV.of (F.rel.obj 18 _ o18) (n := 1) (u := rwV [k]) (one_row k)
 rw [hm18] at el3'; cases el3'
 have blk3 : ∀ b, l3.blk = some b → w.heap.size ≤ b := fun b hb => by
  rcases F1.mt b ⟨18, _, l3, o18', trivial, el3, hb⟩ with q | q
  ·rcases mut_two q with q | q
   ·have := F1.rel.inj 0 18 _ _ L l3 b o0 o18' trivial trivial hm0 el3 q hb
    cases this
   ·cases q
  ·exact q
 have blkL : ∀ b, L'.blk = some b → L.blk = some b ∨ w.heap.size ≤ b := fun b hb => by
  rcases F.mt b ⟨34, _, L', o34, trivial, eL', hb⟩ with q | q
  ·rcases mut_two q with q | q
   ·exact .inl q
   ·cases q
  ·exact .inr q
 have sep3 : ∀ b, l3.blk = some b → L'.blk = some b → False := fun b hb hL => by
  have := F.rel.inj 18 34 _ _ l3 L' b o18 o34 trivial trivial hm18 eL' hb hL
  cases this
 have kp : ∀ b, b < w.heap.size → ¬ NB L ls b → w2.heap[b]? = w.heap[b]? := fun b hb hN => F.keep b hb (fun hM => by
  rcases mut_two hM with q | q
  ·exact hN (.inl q)
  ·cases q)
 have kpj : ∀ j b, j < x.length → (ls.getD j l0).blk = some b → w2.heap[b]? = w.heap[b]? := fun j b hj hb => F.keep b (c.nest.lt (nbj j b hj hb)) (fun hM => by
  rcases mut_two hM with q | q
  ·exact c.nest.sep j b hj hb q
  ·cases q)
 have kt : ∀ t, freeB (mR Tryz.f39 17) t = true → a2.tmps[t]? = a.tmps[t]? := fun t ht => by
  rw [K2.2 t (kept_of ht (fun o ho => List.mem_of_mem_drop ho)), K1.2 t (kept_of ht (fun o ho => List.mem_of_mem_take ho))]
 have hnest : Nest sz w2 L' (ls ++ [l3]) (x ++ [[k]]) := c.nest.push c.szw AL AR kpj blk3 blkL sep3
 refine hQ a2 w2 L' (ls ++ [l3]) ?_ (by rw [kt 32 (by kernel_rfl)]; exact h32) (by rw [kt 33 (by kernel_rfl)]; exact h33)
 refine ⟨by rw [K2.1, K1.1]; exact c.dfr, ?_, c.xlt, c.sz0, Nat.le_trans c.szw F.later.size, hnest, e10, ?_⟩
 ·refine ⟨F.os.trans c.frm.os, F.tape.trans c.frm.tape, c.frm.output.trans F.output, Nat.le_trans c.frm.size F.later.size, fun b hb hM => ?_⟩
  rw [kp b (Nat.lt_of_lt_of_le hb c.frm.size) (fun hN => by have := c.nest.fresh b hN; have := c.sz0; omega)]
  exact c.frm.keep b hb hM
 ·refine c.base.move S3.1 (fun t s ht => kt t (by rcases bs_look ht with rfl | rfl | rfl <;> kernel_rfl)) (fun b hb hM hM' => ?_) (fun b hb hM => kp b hb (fun hN => hM (.inr hN))) F.later.size
  rcases hM' with q | q
  ·exact hM (.inl q)
  ·rcases q with q | ⟨j, hj, q⟩
   ·rcases blkL b q with q | q
    ·exact hM (.inr (.inl q))
    ·omega
   ·rw [List.length_append, List.length_singleton, c.nest.len] at hj
    by_cases e : j < x.length
    ·rw [getD_app_l (by rw [c.nest.len]; exact e)] at q
     exact hM (.inr (nbj j b e q))
    ·obtain rfl : j = x.length := by omega
     rw [← c.nest.len, getD_app_e] at q
     have := blk3 b q
     omega
theorem rOut [Fuel] (hT : ∀ S ∈ (mkCx Tryz.prog).T, FnOk (mkCx Tryz.prog).P S) (c : Core X sz w0 M0 (bsL p1 p2 p3) L ls x a w) {k : Int} (h32 : a.tmps[32]? = some (iV ((p1.Cells.length : Nat) : Int))) (h33 : a.tmps[33]? = some (iV k))
  {r : List (List Int) × Int} (hr : ref37_Make_l2 p1 p2 p3 fuel x k = some r) {Q : Exit → Act → World → Prop}
  (hQ : ∀ a' w' L' ls' x', Core X sz w0 M0 (bsL p1 p2 p3) L' ls' x' a' w' → r = (x', 0) → Q .normal a' w') : (Code.block 2 (.loop (cL2 Tryz.f39))).wp Tryz.prog Q a w := by
 refine wp_block (wp_loopN (n := fuel) (I := fun m a w => ∃ k x L ls, ref37_Make_l2 p1 p2 p3 m x k = some r ∧ Core X sz w0 M0 (bsL p1 p2 p3) L ls x a w ∧ a.tmps[32]? = some (iV ((p1.Cells.length : Nat) : Int)) ∧ a.tmps[33]? = some (iV k))
  ⟨k, x, L, ls, hr, c, h32, h33⟩ (fun m a w hI => ?_))
 obtain ⟨k, x, L, ls, hr, c, h32, h33⟩ := hI
 cases m with
 | zero => cases hr
 | succ m =>
  rw [ref37_Make_l2] at hr
  unfold cL2
  refine wp_seq (r9 hT c h32 h33 (fun a w c h32 h33 h34 => ?_))
  show (Code.seq (.cond (.tmp 34) .skip (.exit 2)) (.seq (.block 3 (cB3 Tryz.f39)) (.region 18 (mR Tryz.f39 18) false))).wp Tryz.prog _ a w
  refine wp_seq (wp_cond_split (ev_tmp h34) (fun hb => ?_) (fun hb => ?_))
  ·rw [hb, cond_true] at hr
   obtain ⟨q, hq, hr⟩ := bind_elim hr
   refine wp_skip ?_
   show (Code.seq (.block 3 (cB3 Tryz.f39)) (.region 18 (mR Tryz.f39 18) false)).wp Tryz.prog _ a w
   -- behind the block
   have fin : ∀ a' w' L' ls' x', Core X sz w0 M0 (bsL p1 p2 p3) L' ls' x' a' w' → a'.tmps[32]? = some (iV ((p1.Cells.length : Nat) : Int)) → a'.tmps[33]? = some (iV k) → ref37_Make_l2 p1 p2 p3 m x' (w64 (k + 1)) = some r →
     (Code.region 18 (mR Tryz.f39 18) false).wp Tryz.prog (Exit.then (fun a' w' => ∃ n', n' < m + 1 ∧ ∃ k x L ls, ref37_Make_l2 p1 p2 p3 n' x k = some r ∧ Core X sz w0 M0 (bsL p1 p2 p3) L ls x a' w' ∧ a'.tmps[32]? = some (iV ((p1.Cells.length : Nat) : Int)) ∧ a'.tmps[33]? = some (iV k)) (Exit.inBlock 2 Q)) a' w' :=
    fun a' w' L' ls' x' c h32 h33 hr => r18 hT c h32 h33 (fun a2 w2 c h32 h33 => ⟨m, Nat.lt_succ_self m, w64 (k + 1), x', L', ls', hr, c, h32, h33⟩)
   refine wp_seq (wp_block ?_)
   unfold cB3
   refine wp_seq (r10 hT c h32 h33 (fun a w c h32 h33 h11 => ?_))
   refine wp_seq (wp_seq (r11 hT c h32 h33 h11 hq (fun a w c h32 h33 h11 h39 => ?_)))
   show (Code.cond (.tmp 39) (.exit 3) .skip).wp Tryz.prog _ a w
   refine wp_cond_split (ev_tmp h39) (fun hb2 => ?_) (fun hb2 => ?_)
   ·rw [hb2, cond_true] at hr
    refine wp_exit ?_
    exact fin a w L ls x c h32 h33 hr
   ·rw [hb2, cond_false] at hr
    refine wp_skip ?_
    refine wp_seq (r12 hT c h32 h33 h11 (fun a w c h32 h33 h11 h12 => ?_))
    refine wp_seq (rIn hT c h32 h33 h11 h12 hr (fun a w i c h32 h33 h11 h12 hnn hr => ?_))
    refine wp_seq (r15 hT c h32 h33 h11 h12 (fun a w c h32 h33 h11 h12 h60 => ?_))
    show (Code.cond (.tmp 60) (.region 16 (mR Tryz.f39 16) false) (.region 17 (mR Tryz.f39 17) false)).wp Tryz.prog _ a w
    refine wp_cond_split (ev_tmp h60) (fun hb3 => ?_) (fun hb3 => ?_)
    ·rw [hb3, cond_true] at hr
     obtain ⟨hroom, hr⟩ := chkD hr
     exact r16 c h32 h33 h11 h12 ⟨hnn (of_decide_eq_true hb3), of_decide_eq_true hb3⟩ hroom (fun a' w' ls' c h32 h33 => fin a' w' L ls' _ c h32 h33 hr)
    ·rw [hb3, cond_false] at hr
     obtain ⟨hroom, hr⟩ := chkD hr
     exact r17 c h32 h33 h11 hroom (fun a' w' L' ls' c h32 h33 => fin a' w' L' ls' _ c h32 h33 hr)
  ·rw [hb, cond_false] at hr
   refine wp_exit ?_
   show (if 2 = 2 then Q .normal a w else Q (.exit 2) a w)
   rw [if_pos rfl]
   exact hQ a w L ls x c (Option.some.inj hr).symm
def loc1 (L : AM.Loc) : AM.Locs := fun k => if k = 0 then some L else none
def tsE (x : List (List Int)) : TS := ⟨[(10, .one (.s (.own 0)))], [(0, .arr (.l (.i .i64)) x)], 1⟩
theorem Core.fin [Fuel] (c : Core X sz w0 M0 (bsL p1 p2 p3) L ls x a w) (m0 : AM.Locs) : Rel X w0 M0 m0 0 78 (tsE x).er a w := by
 have hm : ∀ {k : Nat} {o : AObj} {l : AM.Loc}, ([AObj.arr 1 x.length (fE (.l (.i .i64)) x)])[k]? = some o → loc1 L k = some l → k = 0 ∧ l = L := fun {k o l} h1 h2 => by
  unfold loc1 at h2
  by_cases q : k = 0
  ·rw [if_pos q] at h2; cases h2; exact ⟨q, rfl⟩
  ·rw [if_neg q] at h2; cases h2
 have hmut : ∀ b, Mut (loc1 L) [AObj.arr 1 x.length (fE (.l (.i .i64)) x)] b → L.blk = some b := by
  rintro b ⟨k, o, l, h1, _, h2, h3⟩
  obtain ⟨_, rfl⟩ := hm h1 h2
  exact h3
 have H : HeapRel X w (loc1 L) [AObj.arr 1 x.length (fE (.l (.i .i64)) x)] := by
  refine ⟨fun k o hk => ?_, fun k k' o o' l1 l2 b hk hk' _ _ q1 q2 _ _ => ?_, fun k hk => ?_, fun b hb hX => c.nx b (.inl (hmut b hb)) hX, c.xw⟩
  ·match k, hk with
   | 0, hk =>
    cases hk
    refine c.nest.outer.obj2 rfl (fun i hi => ⟨.ls (.i .i64) (x.getD i default), rfl, ?_⟩)
    refine .ls _ _ _ ((c.nest.rows i hi).rd (fun b hb hM => ?_) (fun j hj => ⟨.val (.int .i64 ((x.getD i default).getD j default)), rfl, .val _⟩))
    rcases hM with hM | hM
    ·exact c.nx b (.inr ⟨i, by rw [c.nest.len]; exact hi, hb⟩) hM
    ·exact c.nest.sep i b hi hb (hmut b hM)
   | k + 1, hk => simp at hk
  ·rw [(hm hk q1).1, (hm hk' q2).1]
  ·have hk : 1 ≤ k := hk
   unfold loc1
   rw [if_neg (by omega)]
 exact ⟨c.dfr, c.frm, loc1 L, H, (slots0 c.base.1).cons c.out (svo rfl), fun b hb => .inr (Nat.le_trans c.sz0 (c.nest.fresh b (.inl (hmut b hb)))), fun j l hj => absurd hj (Nat.not_lt_zero _)⟩
end
theorem mkC1 [Fuel] (hT : ∀ S ∈ (mkCx Tryz.prog).T, FnOk (mkCx Tryz.prog).P S) {u : sh3.V} {r : mkS.β} (h : ref37_Make_l2 u.1.2.1 u.1.2.2.1 u.1.1 fuel [] 0 = some r) :
  wpA Tryz.prog 78 0 (cC Tryz.f39) (Post 0 (retT Tryz.prog 0 mkS.rs [.tmp 6, .tmp 7] mu) r) (enc sh3 u).er := by
 obtain ⟨⟨p3, p1, p2, ⟨⟩⟩, ⟨⟩⟩ := u
 intro X w0 M0 m0 a w R
 obtain ⟨m, H, hs, hm, hj⟩ := R.ex
 have er : (enc sh3 (((p3, (p1, (p2, ()))), ()) : sh3.V)).er = ⟨bsL p1 p2 p3, []⟩ := by rw [enc_er]; rfl
 rw [er] at H hs
 obtain rfl : m = m0L := funext fun k => H.used k (Nat.zero_le _)
 rw [MX_nil] at hs
 unfold cC
 refine wp_seq (tReg_kept (C := mkCx Tryz.prog) hT (sh := ⟨[], []⟩) (sh' := ⟨[(10, .c .nl)], []⟩) (v := ((), ())) (res := (((), ()), ())) rfl rfl (by kernel_rfl) H.xlt R.defers (slots0 hs.1) (fun a' w' hd hW hS hk => ?_))
 obtain ⟨m', hS⟩ := hS
 have c : Core X w.heap.size w0 M0 (bsL p1 p2 p3) l0 [] [] a' w' := by
  refine ⟨hd, FrameW.same R.frame hW, H.xlt, R.frame.size, hW.size, Nest.nil _ _, hS.val rfl, ?_⟩
  refine hs.move hS.1 (fun t s ht => hk t (by rcases bs_look ht with rfl | rfl | rfl <;> kernel_rfl)) (fun b hb hM hM' => ?_) (fun b hb _ => hW.keep b hb) hW.size
  rcases hM' with q | q
  ·exact hM q
  ·rcases q with q | ⟨j, hj, _⟩
   ·cases q
   ·exact absurd hj (Nat.not_lt_zero _)
 show (Code.seq (.seq (.region 8 (mR Tryz.f39 8) false) (.block 2 (.loop (cL2 Tryz.f39)))) (.seq (.region 19 (mR Tryz.f39 19) false) .ret)).wp Tryz.prog _ a' w'
 refine wp_seq (wp_seq (r8 hT c (fun a w c h32 h33 => ?_)))
 refine rOut hT c h32 h33 h (fun a w L ls x c er => ?_)
 subst er
 have key : wpA Tryz.prog 78 0 (.seq (.region 19 (mR Tryz.f39 19) false) .ret) (Post 0 (retT Tryz.prog 0 mkS.rs [.tmp 6, .tmp 7] mu) (x, 0)) (tsE x).er :=
  exec_ok (C := mkCx Tryz.prog) (p := 0) hT (.seq (.region 19 (mR Tryz.f39 19) false) .ret) (an := .z) (ts := tsE x) (k := retT Tryz.prog 0 mkS.rs [.tmp 6, .tmp 7] mu) (res := (x, 0)) vZ (fun k hk => by
   show lookO [(0, TO.arr (.l (.i .i64)) x)] k = .dead
   have hk : 1 ≤ k := hk
   cases k with
   | zero => omega
   | succ k => rfl) (by kernel_rfl)
 exact key X w0 M0 m0 a w (c.fin m0)
theorem make37_ok [Fuel] (h1 : FnOk Tryz.prog mkE) (h2 : FnOk Tryz.prog mkN) (h3 : FnOk Tryz.prog mkT) : FnOk Tryz.prog mkS := by
 have hT : ∀ S ∈ (mkCx Tryz.prog).T, FnOk (mkCx Tryz.prog).P S := okC h1 (okC h2 (okC h3 ok0))
 refine fn_core (C := mkCx Tryz.prog) (S := mkS) (fn := Tryz.f39) (c := cAll Tryz.f39) (u := mu) (by intro vs w; rfl) Tryz.func39 (by kernel_rfl) (by kernel_rfl) (by intro v; exact ⟨by kernel_rfl, by kernel_rfl⟩) (fun v r hF => ?_)
 have e : Tryz.f39.results.toList = [.tmp 6, .tmp 7] := by kernel_rfl
 rw [e]
 unfold cAll
 refine wpA_seq (mkA hT hF (fun u hu st hle => ?_))
 refine wpA_le hle ?_
 refine wpA_seq (mkB1 hT hu (fun u hu st hle => wpA_le hle (mkC1 hT hu)) (fun e st he hp => ?_))
 cases e with
 | normal => exact absurd rfl he
 | _ => exact hp
end Go.Proofs
