/- The claim: YtcobljijioaflaaGreat.EvacplanBounds (cellplane/cellplanelaw34.EvacplanBounds): for every input the call returns true and each argument reads as it did. By the walk of the code and the plain law. -/
import Derived.Test.YtcobljijioaflaaGreatRows
import Derived.WalkKit
import Derived.ProofKit
import Derived.OpenShut
import Derived.ShutString
import Derived.ChangeOld
import Derived.Below
import Derived.Test.YtcobljijioaflaaGreatP11e260a6c2
namespace Go.Proofs.YtcobljijioaflaaGreat.evacplanBounds
open Go.ChangeShapes Go.WideShapes Go.ChangeAt Go.RowKit Go.AM Go.CP
open Go.ChangeMaps (open_string shut_string)
set_option linter.unusedVariables false
theorem own : ownKnob Tryz.prog.godebug = none := by kernel_rfl
theorem laidOut : laidOutB Tryz.prog = true := by kernel_rfl
theorem c3 : Tryz.prog.cellsOf 3 = 1 := by kernel_rfl
theorem c51 : Tryz.prog.cellsOf 51 = 3 := by kernel_rfl
def inv51 (s : CP.ApiStep) : Prop := (Lit.int .i64 s.Kind).wf = true ∧ (Lit.int .i64 s.Tenant).wf = true ∧ (Lit.int .i64 s.Cell).wf = true ∧ True
theorem opn51 {H : Type} {encH : TypeId × Value → H} {w : World} {base : Nat} {spare : Nat → Bool} {held : Bool} : Opn encH Tryz.prog w base spare held 51 e_ApiStep inv51 := by
  intro n cs x h
  obtain ⟨xs, k, _, _, hl, hxl, hf⟩ := DataW.trod_struct Tryz.underlying51 h
  rw [c51] at hl
  have hxl : xs.length = 3 := hxl
  obtain ⟨v0, cs0, rfl, hl0⟩ := list_cons hl
  obtain ⟨v1, cs1, rfl, hl1⟩ := list_cons hl0
  obtain ⟨v2, cs2, rfl, hl2⟩ := list_cons hl1
  obtain rfl := List.eq_nil_of_length_eq_zero hl2
  obtain ⟨y0, xs0, rfl, hxl0⟩ := list_cons hxl
  obtain ⟨y1, xs1, rfl, hxl1⟩ := list_cons hxl0
  obtain ⟨y2, xs2, rfl, hxl2⟩ := list_cons hxl1
  have g0 : DataW.trod encH Tryz.prog w base spare held k 3 (([v0, v1, v2].drop 0).take (Tryz.prog.cellsOf 3)) = some y0 := hf 0 _ rfl
  rw [c3] at g0
  obtain ⟨a0, i0, s0⟩ := (opn_int Tryz.underlying3) _ _ _ g0
  have g1 : DataW.trod encH Tryz.prog w base spare held k 3 (([v0, v1, v2].drop 1).take (Tryz.prog.cellsOf 3)) = some y1 := hf 1 _ rfl
  rw [c3] at g1
  obtain ⟨a1, i1, s1⟩ := (opn_int Tryz.underlying3) _ _ _ g1
  have g2 : DataW.trod encH Tryz.prog w base spare held k 3 (([v0, v1, v2].drop 2).take (Tryz.prog.cellsOf 3)) = some y2 := hf 2 _ rfl
  rw [c3] at g2
  obtain ⟨a2, i2, s2⟩ := (opn_int Tryz.underlying3) _ _ _ g2
  exact ⟨⟨a0, a1, a2⟩, ⟨i0, i1, i2, trivial⟩, (simCs_app s0 (simCs_app s1 s2))⟩
theorem walk0 [Fuel] (w : World) (a0 : Option Addr) (len0 cap0 : Nat) (xs0 : List Int) (i0 : ∀ y ∈ xs0, (Lit.int .i64 y).wf = true) (s0 : SimV w (fun _ => none) (fun _ => False) (.one (.s (.c (.ls (.i .i64) xs0)))) (.slice a0 len0 cap0)) (a1 : Option Addr) (len1 cap1 : Nat) (xs1 : List Int) (i1 : ∀ y ∈ xs1, (Lit.int .i64 y).wf = true) (s1 : SimV w (fun _ => none) (fun _ => False) (.one (.s (.c (.ls (.i .i64) xs1)))) (.slice a1 len1 cap1)) (a2 : Bool) (a3 : Int) (i3 : (Lit.int .i64 a3).wf = true) (a4 : Int) (i4 : (Lit.int .i64 a4).wf = true) (a5 : Option Addr) (len5 cap5 : Nat) (xs5 : List CP.ApiStep) (i5 : ∀ y ∈ xs5, inv51 y) (s5 : SimV w (fun _ => none) (fun _ => False) (.one (.s (.c (.ls (.n .ApiStep) xs5)))) (.slice a5 len5 cap5)) :
    Calls Tryz.prog 8 #[.slice a0 len0 cap0, .slice a1 len1 cap1, .bool a2, .int .i64 a3, .int .i64 a4, .slice a5 len5 cap5] w fun e w' => e = .returned (.bool true) ∧ Below w.heap.size w w' :=
  FnOk.below law34_EvacplanBounds_ok ((xs0, xs1, a2, a3, a4, xs5, ()), ()) (r := true) (EvacplanBounds_true (fun x hx => wf_i64 (i0 x hx)) (fun x hx => wf_i64 (i1 x hx)) (wf_i64 i3) (wf_i64 i4)) rfl rfl rfl (.cons s0 (.cons s1 (.cons (.c (.val _)) (.cons (.c (.val _)) (.cons (.c (.val _)) (.cons s5 .nil))))))
set_option maxRecDepth 100000 in
theorem lifted (os : Os) (started : os.Started) (H : Type) (enc : TypeId × Value → H) :
    ReturnsInHanded {} Tryz.checked os 8 .any (Rows.evacplanBoundsSpec.pre6 enc Tryz.prog Tryz.f8 Rows.evacplanBoundsRow.domain false) (Rows.evacplanBoundsSpec.post enc Tryz.prog Tryz.f8 false true false false) := by
  refine returnsInHanded_of_change (C := Tryz.checked) own started (by kernel_rfl) Tryz.func8
    (ChangeSpec.witness6 (enc := enc) (C := Tryz.checked) false ⟨#[], #[.slice none 0 0, .slice none 0 0, .bool false, .int .i64 0, .int .i64 0, .slice none 0 0], []⟩ 8 (by kernel_rfl) (by kernel_rfl) (by kernel_rfl) (by kernel_rfl)) ?_
  intro W base args ds gs before hval0 hW hcnd _
  have hval : ∀ (j : Nat) t v, Tryz.f8.params[j]? = some t → args[j]? = some v → Value.okWide Tryz.prog W .any base t v := hval0
  have hW' := hW
  obtain ⟨p, q, hA0, hV, rfl, hfz, hnd⟩ := hW
  have hA : DataW.TrodAll enc Tryz.prog W 0 (fun _ => true) true Tryz.f8.params.toList args.toList ds p := hA0
  rw [Tryz.params8] at hA hval
  obtain ⟨v0, vs0, d0, ds0, p0, q0, hargs, rfl, rfl, h0, r0⟩ := trodAll_cons hA
  obtain ⟨v1, vs1, d1, ds1, p1, q1, rfl, rfl, rfl, h1, r1⟩ := trodAll_cons r0
  obtain ⟨v2, vs2, d2, ds2, p2, q2, rfl, rfl, rfl, h2, r2⟩ := trodAll_cons r1
  obtain ⟨v3, vs3, d3, ds3, p3, q3, rfl, rfl, rfl, h3, r3⟩ := trodAll_cons r2
  obtain ⟨v4, vs4, d4, ds4, p4, q4, rfl, rfl, rfl, h4, r4⟩ := trodAll_cons r3
  obtain ⟨v5, vs5, d5, ds5, p5, q5, rfl, rfl, rfl, h5, r5⟩ := trodAll_cons r4
  obtain ⟨rfl, rfl, rfl⟩ := trodAll_nil r5
  obtain rfl : args = #[v0, v1, v2, v3, v4, v5] := by cases args; simp_all
  obtain ⟨rfl, rfl⟩ := trodVars_none hV
  obtain ⟨a0, len0, cap0, rfl⟩ := okWide_slice Tryz.underlying22 (hval 0 22 v0 rfl rfl)
  have lt0 : ∀ x ∈ p0, x.block < W.heap.size := by obtain ⟨m, hm⟩ := h0; exact DataW.trod_lt m _ _ _ hm
  obtain ⟨xs0, i0, s0⟩ := opn_arg (opn_slice (τ := (.i .i64)) Tryz.underlying22 c3 (by decide) rfl (fun n cs x h => (opn_int Tryz.underlying3) n cs x h)) h0
  obtain ⟨a1, len1, cap1, rfl⟩ := okWide_slice Tryz.underlying22 (hval 1 22 v1 rfl rfl)
  have lt1 : ∀ x ∈ p1, x.block < W.heap.size := by obtain ⟨m, hm⟩ := h1; exact DataW.trod_lt m _ _ _ hm
  obtain ⟨xs1, i1, s1⟩ := opn_arg (opn_slice (τ := (.i .i64)) Tryz.underlying22 c3 (by decide) rfl (fun n cs x h => (opn_int Tryz.underlying3) n cs x h)) h1
  obtain ⟨a2, rfl, rfl, rfl⟩ := open_bool Tryz.underlying4 (hval 2 4 v2 rfl rfl) h2
  obtain ⟨a3, rfl, rfl, rfl, i3⟩ := open_int Tryz.underlying3 (hval 3 3 v3 rfl rfl) h3
  obtain ⟨a4, rfl, rfl, rfl, i4⟩ := open_int Tryz.underlying3 (hval 4 3 v4 rfl rfl) h4
  obtain ⟨a5, len5, cap5, rfl⟩ := okWide_slice Tryz.underlying23 (hval 5 23 v5 rfl rfl)
  have lt5 : ∀ x ∈ p5, x.block < W.heap.size := by obtain ⟨m, hm⟩ := h5; exact DataW.trod_lt m _ _ _ hm
  obtain ⟨xs5, i5, s5⟩ := opn_arg (opn_slice (τ := (.n .ApiStep)) Tryz.underlying23 c51 (by decide) rfl (fun n cs x h => opn51 n cs x h)) h5
  clear hA0 hval0
  refine (@walk0 ⟨⟨_, rfl⟩⟩ W a0 len0 cap0 xs0 i0 s0 a1 len1 cap1 xs1 i1 s1 a2 a3 i3 a4 i4 a5 len5 cap5 xs5 i5 s5).mono fun e W' ⟨he, bel⟩ => ?_
  subst he
  exact ⟨_, rfl, _, _, _, [], _, [], hW', trodAll_mk1 (shut_bool Tryz.underlying4 _), (trodAll_cons_mk (Below.trod laidOut (by kernel_rfl) (of_decide_eq_true (by kernel_rfl)) h0 bel lt0) (trodAll_cons_mk (Below.trod laidOut (by kernel_rfl) (of_decide_eq_true (by kernel_rfl)) h1 bel lt1) (trodAll_cons_mk (shut_bool Tryz.underlying4 _) (trodAll_cons_mk (shut_int Tryz.underlying3 i3) (trodAll_cons_mk (shut_int Tryz.underlying3 i4) (trodAll_cons_mk (Below.trod laidOut (by kernel_rfl) (of_decide_eq_true (by kernel_rfl)) h5 bel lt5) trodAll_mk0)))))), rfl, bel.frame _, fun h => by cases h⟩
theorem over : Rows.evacplanBoundsRow.holds Tryz.pinned (OpenSpec.ofChange Rows.evacplanBoundsSpec) :=
  OpenClaim.holds_of_wide 8 Tryz.f8 rfl rfl rfl rfl rfl rfl rfl ⟨rfl, rfl, rfl, rfl, rfl⟩ rfl rfl rfl rfl rfl (by kernel_rfl) Tryz.func8 (by kernel_rfl)
    (of_decide_eq_true (by kernel_rfl)) (by unfold Func.isWrapper; first | (rw [if_pos (by decide +kernel)]; kernel_rfl) | (rw [if_neg (by decide +kernel)]; exact ⟨rfl, rfl⟩))
    (fun os started H enc _ => lifted os started H enc)
theorem proved : Rows.EvacplanBoundsSaid := over
end Go.Proofs.YtcobljijioaflaaGreat.evacplanBounds
