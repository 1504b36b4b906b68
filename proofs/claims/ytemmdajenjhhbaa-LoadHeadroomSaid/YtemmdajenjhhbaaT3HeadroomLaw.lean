/- The claim: Ytemmdajenjhhbaa.LoadHeadroom (cellplane/cellplanelaw11.LoadHeadroom): for every input the call returns true and each argument reads as it did. By the walk of the code and the plain law. -/
import Derived.Test.YtemmdajenjhhbaaRows
import Derived.Test.YtemmdajenjhhbaaT3HeadroomWalk8
import Derived.Test.YtemmdajenjhhbaaCpLoadH
import Derived.Test.YtemmdajenjhhbaaAmBridge
import Derived.WalkKit
import Derived.ProofKit
import Derived.OpenShut
import Derived.ShutString
import Derived.ChangeOld
import Derived.Below
namespace Go.Proofs.Ytemmdajenjhhbaa.loadHeadroom
open Go.ChangeShapes Go.WideShapes Go.ChangeAt Go.RowKit Go.AM Go.CP
open Go.ChangeMaps (open_string shut_string)
set_option linter.unusedVariables false
theorem own : ownKnob Try.prog.godebug = none := by kernel_rfl
theorem laidOut : laidOutB Try.prog = true := by kernel_rfl
theorem c3 : Try.prog.cellsOf 3 = 1 := by kernel_rfl
theorem c4 : Try.prog.cellsOf 4 = 1 := by kernel_rfl
theorem c47 : Try.prog.cellsOf 47 = 5 := by kernel_rfl
theorem c49 : Try.prog.cellsOf 49 = 12 := by kernel_rfl
theorem c63 : Try.prog.cellsOf 63 = 4 := by kernel_rfl
def inv47 (s : CP.ApiWindow) : Prop := (Lit.int .i64 s.Cell).wf = true ∧ (Lit.int .i64 s.Epoch).wf = true ∧ (Lit.int .i64 s.Version).wf = true ∧ (Lit.int .i64 s.From).wf = true ∧ (Lit.int .i64 s.Until).wf = true ∧ True
theorem opn47 {H : Type} {encH : TypeId × Value → H} {w : World} {base : Nat} {spare : Nat → Bool} {held : Bool} : Opn encH Try.prog w base spare held 47 e_ApiWindow inv47 := by
  intro n cs x h
  obtain ⟨xs, k, _, _, hl, hxl, hf⟩ := DataW.trod_struct Try.underlying47 h
  rw [c47] at hl
  have hxl : xs.length = 5 := hxl
  obtain ⟨v0, cs0, rfl, hl0⟩ := list_cons hl
  obtain ⟨v1, cs1, rfl, hl1⟩ := list_cons hl0
  obtain ⟨v2, cs2, rfl, hl2⟩ := list_cons hl1
  obtain ⟨v3, cs3, rfl, hl3⟩ := list_cons hl2
  obtain ⟨v4, cs4, rfl, hl4⟩ := list_cons hl3
  obtain rfl := List.eq_nil_of_length_eq_zero hl4
  obtain ⟨y0, xs0, rfl, hxl0⟩ := list_cons hxl
  obtain ⟨y1, xs1, rfl, hxl1⟩ := list_cons hxl0
  obtain ⟨y2, xs2, rfl, hxl2⟩ := list_cons hxl1
  obtain ⟨y3, xs3, rfl, hxl3⟩ := list_cons hxl2
  obtain ⟨y4, xs4, rfl, hxl4⟩ := list_cons hxl3
  have g0 : DataW.trod encH Try.prog w base spare held k 3 (([v0, v1, v2, v3, v4].drop 0).take (Try.prog.cellsOf 3)) = some y0 := hf 0 _ rfl
  rw [c3] at g0
  obtain ⟨a0, i0, s0⟩ := (opn_int Try.underlying3) _ _ _ g0
  have g1 : DataW.trod encH Try.prog w base spare held k 3 (([v0, v1, v2, v3, v4].drop 1).take (Try.prog.cellsOf 3)) = some y1 := hf 1 _ rfl
  rw [c3] at g1
  obtain ⟨a1, i1, s1⟩ := (opn_int Try.underlying3) _ _ _ g1
  have g2 : DataW.trod encH Try.prog w base spare held k 3 (([v0, v1, v2, v3, v4].drop 2).take (Try.prog.cellsOf 3)) = some y2 := hf 2 _ rfl
  rw [c3] at g2
  obtain ⟨a2, i2, s2⟩ := (opn_int Try.underlying3) _ _ _ g2
  have g3 : DataW.trod encH Try.prog w base spare held k 3 (([v0, v1, v2, v3, v4].drop 3).take (Try.prog.cellsOf 3)) = some y3 := hf 3 _ rfl
  rw [c3] at g3
  obtain ⟨a3, i3, s3⟩ := (opn_int Try.underlying3) _ _ _ g3
  have g4 : DataW.trod encH Try.prog w base spare held k 3 (([v0, v1, v2, v3, v4].drop 4).take (Try.prog.cellsOf 3)) = some y4 := hf 4 _ rfl
  rw [c3] at g4
  obtain ⟨a4, i4, s4⟩ := (opn_int Try.underlying3) _ _ _ g4
  exact ⟨⟨a0, a1, a2, a3, a4⟩, ⟨i0, i1, i2, i3, i4, trivial⟩, (simCs_app s0 (simCs_app s1 (simCs_app s2 (simCs_app s3 s4))))⟩
def inv49 (s : CP.ApiTenantState) : Prop := True ∧ True ∧ (Lit.int .i64 s.Home).wf = true ∧ (Lit.int .i64 s.Standby).wf = true ∧ (Lit.int .i64 s.Next).wf = true ∧ (Lit.int .i64 s.Target).wf = true ∧ (Lit.int .i64 s.Epoch).wf = true ∧ inv47 s.Window ∧ True
theorem opn49 {H : Type} {encH : TypeId × Value → H} {w : World} {base : Nat} {spare : Nat → Bool} {held : Bool} : Opn encH Try.prog w base spare held 49 e_ApiTenantState inv49 := by
  intro n cs x h
  obtain ⟨xs, k, _, _, hl, hxl, hf⟩ := DataW.trod_struct Try.underlying49 h
  rw [c49] at hl
  have hxl : xs.length = 8 := hxl
  obtain ⟨v0, cs0, rfl, hl0⟩ := list_cons hl
  obtain ⟨v1, cs1, rfl, hl1⟩ := list_cons hl0
  obtain ⟨v2, cs2, rfl, hl2⟩ := list_cons hl1
  obtain ⟨v3, cs3, rfl, hl3⟩ := list_cons hl2
  obtain ⟨v4, cs4, rfl, hl4⟩ := list_cons hl3
  obtain ⟨v5, cs5, rfl, hl5⟩ := list_cons hl4
  obtain ⟨v6, cs6, rfl, hl6⟩ := list_cons hl5
  obtain ⟨v7, cs7, rfl, hl7⟩ := list_cons hl6
  obtain ⟨v8, cs8, rfl, hl8⟩ := list_cons hl7
  obtain ⟨v9, cs9, rfl, hl9⟩ := list_cons hl8
  obtain ⟨v10, cs10, rfl, hl10⟩ := list_cons hl9
  obtain ⟨v11, cs11, rfl, hl11⟩ := list_cons hl10
  obtain rfl := List.eq_nil_of_length_eq_zero hl11
  obtain ⟨y0, xs0, rfl, hxl0⟩ := list_cons hxl
  obtain ⟨y1, xs1, rfl, hxl1⟩ := list_cons hxl0
  obtain ⟨y2, xs2, rfl, hxl2⟩ := list_cons hxl1
  obtain ⟨y3, xs3, rfl, hxl3⟩ := list_cons hxl2
  obtain ⟨y4, xs4, rfl, hxl4⟩ := list_cons hxl3
  obtain ⟨y5, xs5, rfl, hxl5⟩ := list_cons hxl4
  obtain ⟨y6, xs6, rfl, hxl6⟩ := list_cons hxl5
  obtain ⟨y7, xs7, rfl, hxl7⟩ := list_cons hxl6
  have g0 : DataW.trod encH Try.prog w base spare held k 4 (([v0, v1, v2, v3, v4, v5, v6, v7, v8, v9, v10, v11].drop 0).take (Try.prog.cellsOf 4)) = some y0 := hf 0 _ rfl
  rw [c4] at g0
  obtain ⟨a0, i0, s0⟩ := (opn_bool Try.underlying4) _ _ _ g0
  have g1 : DataW.trod encH Try.prog w base spare held k 4 (([v0, v1, v2, v3, v4, v5, v6, v7, v8, v9, v10, v11].drop 1).take (Try.prog.cellsOf 4)) = some y1 := hf 1 _ rfl
  rw [c4] at g1
  obtain ⟨a1, i1, s1⟩ := (opn_bool Try.underlying4) _ _ _ g1
  have g2 : DataW.trod encH Try.prog w base spare held k 3 (([v0, v1, v2, v3, v4, v5, v6, v7, v8, v9, v10, v11].drop 2).take (Try.prog.cellsOf 3)) = some y2 := hf 2 _ rfl
  rw [c3] at g2
  obtain ⟨a2, i2, s2⟩ := (opn_int Try.underlying3) _ _ _ g2
  have g3 : DataW.trod encH Try.prog w base spare held k 3 (([v0, v1, v2, v3, v4, v5, v6, v7, v8, v9, v10, v11].drop 3).take (Try.prog.cellsOf 3)) = some y3 := hf 3 _ rfl
  rw [c3] at g3
  obtain ⟨a3, i3, s3⟩ := (opn_int Try.underlying3) _ _ _ g3
  have g4 : DataW.trod encH Try.prog w base spare held k 3 (([v0, v1, v2, v3, v4, v5, v6, v7, v8, v9, v10, v11].drop 4).take (Try.prog.cellsOf 3)) = some y4 := hf 4 _ rfl
  rw [c3] at g4
  obtain ⟨a4, i4, s4⟩ := (opn_int Try.underlying3) _ _ _ g4
  have g5 : DataW.trod encH Try.prog w base spare held k 3 (([v0, v1, v2, v3, v4, v5, v6, v7, v8, v9, v10, v11].drop 5).take (Try.prog.cellsOf 3)) = some y5 := hf 5 _ rfl
  rw [c3] at g5
  obtain ⟨a5, i5, s5⟩ := (opn_int Try.underlying3) _ _ _ g5
  have g6 : DataW.trod encH Try.prog w base spare held k 3 (([v0, v1, v2, v3, v4, v5, v6, v7, v8, v9, v10, v11].drop 6).take (Try.prog.cellsOf 3)) = some y6 := hf 6 _ rfl
  rw [c3] at g6
  obtain ⟨a6, i6, s6⟩ := (opn_int Try.underlying3) _ _ _ g6
  have g7 : DataW.trod encH Try.prog w base spare held k 47 (([v0, v1, v2, v3, v4, v5, v6, v7, v8, v9, v10, v11].drop 7).take (Try.prog.cellsOf 47)) = some y7 := hf 7 _ rfl
  rw [c47] at g7
  obtain ⟨a7, i7, s7⟩ := opn47 _ _ _ g7
  exact ⟨⟨a0, a1, a2, a3, a4, a5, a6, a7⟩, ⟨i0, i1, i2, i3, i4, i5, i6, i7, trivial⟩, (simCs_app s0 (simCs_app s1 (simCs_app s2 (simCs_app s3 (simCs_app s4 (simCs_app s5 (simCs_app s6 s7)))))))⟩
def inv63 (s : CP.ApiCellState) : Prop := (Lit.int .i64 s.Mode).wf = true ∧ (Lit.int .i64 s.Running).wf = true ∧ (Lit.int .i64 s.Wanted).wf = true ∧ (Lit.int .i64 s.Since).wf = true ∧ True
theorem opn63 {H : Type} {encH : TypeId × Value → H} {w : World} {base : Nat} {spare : Nat → Bool} {held : Bool} : Opn encH Try.prog w base spare held 63 e_ApiCellState inv63 := by
  intro n cs x h
  obtain ⟨xs, k, _, _, hl, hxl, hf⟩ := DataW.trod_struct Try.underlying63 h
  rw [c63] at hl
  have hxl : xs.length = 4 := hxl
  obtain ⟨v0, cs0, rfl, hl0⟩ := list_cons hl
  obtain ⟨v1, cs1, rfl, hl1⟩ := list_cons hl0
  obtain ⟨v2, cs2, rfl, hl2⟩ := list_cons hl1
  obtain ⟨v3, cs3, rfl, hl3⟩ := list_cons hl2
  obtain rfl := List.eq_nil_of_length_eq_zero hl3
  obtain ⟨y0, xs0, rfl, hxl0⟩ := list_cons hxl
  obtain ⟨y1, xs1, rfl, hxl1⟩ := list_cons hxl0
  obtain ⟨y2, xs2, rfl, hxl2⟩ := list_cons hxl1
  obtain ⟨y3, xs3, rfl, hxl3⟩ := list_cons hxl2
  have g0 : DataW.trod encH Try.prog w base spare held k 3 (([v0, v1, v2, v3].drop 0).take (Try.prog.cellsOf 3)) = some y0 := hf 0 _ rfl
  rw [c3] at g0
  obtain ⟨a0, i0, s0⟩ := (opn_int Try.underlying3) _ _ _ g0
  have g1 : DataW.trod encH Try.prog w base spare held k 3 (([v0, v1, v2, v3].drop 1).take (Try.prog.cellsOf 3)) = some y1 := hf 1 _ rfl
  rw [c3] at g1
  obtain ⟨a1, i1, s1⟩ := (opn_int Try.underlying3) _ _ _ g1
  have g2 : DataW.trod encH Try.prog w base spare held k 3 (([v0, v1, v2, v3].drop 2).take (Try.prog.cellsOf 3)) = some y2 := hf 2 _ rfl
  rw [c3] at g2
  obtain ⟨a2, i2, s2⟩ := (opn_int Try.underlying3) _ _ _ g2
  have g3 : DataW.trod encH Try.prog w base spare held k 3 (([v0, v1, v2, v3].drop 3).take (Try.prog.cellsOf 3)) = some y3 := hf 3 _ rfl
  rw [c3] at g3
  obtain ⟨a3, i3, s3⟩ := (opn_int Try.underlying3) _ _ _ g3
  exact ⟨⟨a0, a1, a2, a3⟩, ⟨i0, i1, i2, i3, trivial⟩, (simCs_app s0 (simCs_app s1 (simCs_app s2 s3)))⟩
theorem ti {x : CP.ApiTenantState} (h : inv49 x) : TI x := ⟨wf_i64 h.2.2.1, wf_i64 h.2.2.2.1, wf_i64 h.2.2.2.2.1, wf_i64 h.2.2.2.2.2.1, wf_i64 h.2.2.2.2.2.2.2.1.1⟩
theorem walk (w : World) (a0 : Option Addr) (len0 cap0 : Nat) (xs0 : List Int) (i0 : ∀ y ∈ xs0, (Lit.int .i64 y).wf = true) (s0 : SimV w (fun _ => none) (fun _ => False) (oS (r1 1 (e_int .i64) xs0)) (.slice a0 len0 cap0)) (a1 : Option Addr) (len1 cap1 : Nat) (xs1 : List CP.ApiTenantState) (i1 : ∀ y ∈ xs1, inv49 y) (s1 : SimV w (fun _ => none) (fun _ => False) (oS (r1 12 e_ApiTenantState xs1)) (.slice a1 len1 cap1)) (a2 : Option Addr) (len2 cap2 : Nat) (xs2 : List CP.ApiCellState) (i2 : ∀ y ∈ xs2, inv63 y) (s2 : SimV w (fun _ => none) (fun _ => False) (oS (r1 4 e_ApiCellState xs2)) (.slice a2 len2 cap2)) (a3 : Bool) (a4 : Int) (i4 : (Lit.int .i64 a4).wf = true) (a5 : Int) (i5 : (Lit.int .i64 a5).wf = true) :
    Calls Try.prog 4 #[.slice a0 len0 cap0, .slice a1 len1 cap1, .slice a2 len2 cap2, .bool a3, .int .i64 a4, .int .i64 a5] w fun e w' => e = .returned (.bool true) ∧ Below w.heap.size w w' :=
  (law11_LoadHeadroom_ok xs0 xs1 xs2 a3 a4 a5 true (LoadHeadroom_true (fun x hx => wf_i64 (i0 x hx)) (fun x hx => ti (i1 x hx)) (fun x hx => wf_i64 (i2 x hx).1) (wf_i64 i4) (wf_i64 i5))).below (.cons s0 (.cons s1 (.cons s2 (.cons (.c (.val _)) (.cons (.c (.val _)) (.cons (.c (.val _)) .nil))))))
set_option maxRecDepth 100000 in
theorem lifted (os : Os) (started : os.Started) (H : Type) (enc : TypeId × Value → H) :
    ReturnsInHanded {} Try.checked os 4 .any (Rows.loadHeadroomSpec.pre6 enc Try.prog Try.f4 Rows.loadHeadroomRow.domain false) (Rows.loadHeadroomSpec.post enc Try.prog Try.f4 false true false false) := by
  refine returnsInHanded_of_change (C := Try.checked) own started (by kernel_rfl) Try.func4
    (ChangeSpec.witness6 (enc := enc) (C := Try.checked) false ⟨#[], #[.slice none 0 0, .slice none 0 0, .slice none 0 0, .bool false, .int .i64 0, .int .i64 0], []⟩ 8 (by kernel_rfl) (by kernel_rfl) (by kernel_rfl) (by kernel_rfl)) ?_
  intro W base args ds gs before hval0 hW hcnd _
  have hval : ∀ (j : Nat) t v, Try.f4.params[j]? = some t → args[j]? = some v → Value.okWide Try.prog W .any base t v := hval0
  have hW' := hW
  obtain ⟨p, q, hA0, hV, rfl, hfz, hnd⟩ := hW
  have hA : DataW.TrodAll enc Try.prog W 0 (fun _ => true) true Try.f4.params.toList args.toList ds p := hA0
  rw [Try.params4] at hA hval
  obtain ⟨v0, vs0, d0, ds0, p0, q0, hargs, rfl, rfl, h0, r0⟩ := trodAll_cons hA
  obtain ⟨v1, vs1, d1, ds1, p1, q1, rfl, rfl, rfl, h1, r1⟩ := trodAll_cons r0
  obtain ⟨v2, vs2, d2, ds2, p2, q2, rfl, rfl, rfl, h2, r2⟩ := trodAll_cons r1
  obtain ⟨v3, vs3, d3, ds3, p3, q3, rfl, rfl, rfl, h3, r3⟩ := trodAll_cons r2
  obtain ⟨v4, vs4, d4, ds4, p4, q4, rfl, rfl, rfl, h4, r4⟩ := trodAll_cons r3
  obtain ⟨v5, vs5, d5, ds5, p5, q5, rfl, rfl, rfl, h5, r5⟩ := trodAll_cons r4
  obtain ⟨rfl, rfl, rfl⟩ := trodAll_nil r5
  obtain rfl : args = #[v0, v1, v2, v3, v4, v5] := by cases args; simp_all
  obtain ⟨rfl, rfl⟩ := trodVars_none hV
  obtain ⟨a0, len0, cap0, rfl⟩ := okWide_slice Try.underlying22 (hval 0 22 v0 rfl rfl)
  have lt0 : ∀ x ∈ p0, x.block < W.heap.size := by obtain ⟨m, hm⟩ := h0; exact DataW.trod_lt m _ _ _ hm
  obtain ⟨xs0, i0, s0⟩ := opn_arg (opn_slice Try.underlying22 c3 (by decide) (fun _ => rfl) (opn_int Try.underlying3)) h0
  obtain ⟨a1, len1, cap1, rfl⟩ := okWide_slice Try.underlying23 (hval 1 23 v1 rfl rfl)
  have lt1 : ∀ x ∈ p1, x.block < W.heap.size := by obtain ⟨m, hm⟩ := h1; exact DataW.trod_lt m _ _ _ hm
  obtain ⟨xs1, i1, s1⟩ := opn_arg (opn_slice Try.underlying23 c49 (by decide) (fun _ => rfl) opn49) h1
  obtain ⟨a2, len2, cap2, rfl⟩ := okWide_slice Try.underlying24 (hval 2 24 v2 rfl rfl)
  have lt2 : ∀ x ∈ p2, x.block < W.heap.size := by obtain ⟨m, hm⟩ := h2; exact DataW.trod_lt m _ _ _ hm
  obtain ⟨xs2, i2, s2⟩ := opn_arg (opn_slice Try.underlying24 c63 (by decide) (fun _ => rfl) opn63) h2
  obtain ⟨a3, rfl, rfl, rfl⟩ := open_bool Try.underlying4 (hval 3 4 v3 rfl rfl) h3
  obtain ⟨a4, rfl, rfl, rfl, i4⟩ := open_int Try.underlying3 (hval 4 3 v4 rfl rfl) h4
  obtain ⟨a5, rfl, rfl, rfl, i5⟩ := open_int Try.underlying3 (hval 5 3 v5 rfl rfl) h5
  clear hA0 hval0
  refine (walk W a0 len0 cap0 xs0 i0 s0 a1 len1 cap1 xs1 i1 s1 a2 len2 cap2 xs2 i2 s2 a3 a4 i4 a5 i5).mono fun e W' ⟨he, bel⟩ => ?_
  subst he
  exact ⟨_, rfl, _, _, _, [], _, [], hW', trodAll_mk1 (shut_bool Try.underlying4 _), (trodAll_cons_mk (Below.trod laidOut (by kernel_rfl) (of_decide_eq_true (by kernel_rfl)) h0 bel lt0) (trodAll_cons_mk (Below.trod laidOut (by kernel_rfl) (of_decide_eq_true (by kernel_rfl)) h1 bel lt1) (trodAll_cons_mk (Below.trod laidOut (by kernel_rfl) (of_decide_eq_true (by kernel_rfl)) h2 bel lt2) (trodAll_cons_mk (shut_bool Try.underlying4 _) (trodAll_cons_mk (shut_int Try.underlying3 i4) (trodAll_cons_mk (shut_int Try.underlying3 i5) trodAll_mk0)))))), rfl, bel.frame _, fun h => by cases h⟩
theorem over : Rows.loadHeadroomRow.holds Try.pinned (OpenSpec.ofChange Rows.loadHeadroomSpec) :=
  OpenClaim.holds_of_wide 4 Try.f4 rfl rfl rfl rfl rfl rfl rfl ⟨rfl, rfl, rfl, rfl, rfl⟩ rfl rfl rfl rfl rfl (by kernel_rfl) Try.func4 (by kernel_rfl)
    (of_decide_eq_true (by kernel_rfl)) (by unfold Func.isWrapper; first | (rw [if_pos (by decide +kernel)]; kernel_rfl) | (rw [if_neg (by decide +kernel)]; exact ⟨rfl, rfl⟩))
    (fun os started H enc _ => lifted os started H enc)
theorem proved : Rows.LoadHeadroomSaid := over
end Go.Proofs.Ytemmdajenjhhbaa.loadHeadroom
