/- What the models are written with: computations that may fail, Go's integers, lists. No program in sight. -/
import Derived.WalkKit
import Derived.Orders
import Derived.KernelRfl
import Derived.MapKept
namespace Go
def lookM (z : Int) : List (Int × Int) → Int → Int
 | [], _ => z
 | (a, b) :: r, n => bif decide (a = n) then b else lookM z r n
def putM : List (Int × Int) → Int → Int → List (Int × Int)
 | [], n, u => [(n, u)]
 | (a, b) :: r, n, u => bif decide (a = n) then (n, u) :: r else (a, b) :: putM r n u
end Go
namespace Go.CP
open Go
def chk {α : Type} (b : Bool) (k : Option α) : Option α := bif b then k else none
structure FuelT where
 n : Nat
 eq : n = 18446744073709551616
abbrev Fuel : Type := Inhabited FuelT
def fuel [F : Fuel] : Nat := F.default.n
theorem fuel_eq [F : Fuel] : fuel = 18446744073709551616 := F.default.eq
def idx {α : Type} [Inhabited α] (xs : List α) (i : Int) : Option α := bif decide (0 ≤ i ∧ i < (xs.length : Int)) then some (xs.getD i.toNat default) else none
def ixL {α β : Type} [Inhabited α] (xs : List α) (i : Int) (k : α → Option β) : Option β := chk (decide (0 ≤ i ∧ i < (xs.length : Int))) (k (xs.getD i.toNat default))
def ixG {α β : Type} [Inhabited α] (g : Bool) (xs : List α) (i : Int) (k : α → Option β) : Option β := chk (!g || decide (0 ≤ i ∧ i < (xs.length : Int))) (k (xs.getD i.toNat default))
def letD {α β : Type} (a : α) (k : α → β) : β := k a
abbrev w64 (x : Int) : Int := IntKind.i64.wrap x
def shlK (k : IntKind) (a b : Int) : Int := k.wrap (a * 2 ^ (min b.toNat k.bits))
def shrK (k : IntKind) (a b : Int) : Int := a.fdiv (2 ^ (min b.toNat k.bits))
def andK (k : IntKind) (a b : Int) : Int := k.wrap ((BitVec.ofInt k.bits a &&& BitVec.ofInt k.bits b).toNat)
def orK (k : IntKind) (a b : Int) : Int := k.wrap ((BitVec.ofInt k.bits a ||| BitVec.ofInt k.bits b).toNat)
def xorK (k : IntKind) (a b : Int) : Int := k.wrap ((BitVec.ofInt k.bits a ^^^ BitVec.ofInt k.bits b).toNat)
def andNotK (k : IntKind) (a b : Int) : Int := k.wrap ((BitVec.ofInt k.bits a &&& ~~~ BitVec.ofInt k.bits b).toNat)
def maxE (a b : Int) : Int := if a < b then b else a
def minE (a b : Int) : Int := if b < a then b else a
def byteAt (s : ByteArray) (n : Int) : Int := (((s.data.toList.getD n.toNat 0).toNat : Nat) : Int)
def lsp {α β : Type} (xs : List α) (k0 : Option β) (k1 : α → List α → Option β) : Option β :=
 match xs with
 | [] => k0
 | x :: r => k1 x r
theorem lsp_elim {α β : Type} {xs : List α} {k0 : Option β} {k1 : α → List α → Option β} {r : β} (h : lsp xs k0 k1 = some r) : (xs = [] ∧ k0 = some r) ∨ ∃ x l, xs = x :: l ∧ k1 x l = some r := by
 cases xs with
 | nil => exact .inl ⟨rfl, h⟩
 | cons x l => exact .inr ⟨x, l, rfl, h⟩
abbrev room : Nat := 140737488355328
def cpyL {α : Type} (lo len : Nat) (xs ys : List α) : List α := xs.take lo ++ (ys.take len ++ xs.drop (lo + min ys.length len))
theorem chk_elim {α : Type} {b : Bool} {k : Option α} {r : α} (h : chk b k = some r) : b = true ∧ k = some r := by
 cases b with
 | true => exact ⟨rfl, h⟩
 | false => cases h
theorem chkD {α : Type} {q : Prop} [Decidable q] {k : Option α} {r : α} (h : chk (decide q) k = some r) : q ∧ k = some r :=
 let ⟨a, b⟩ := chk_elim h; ⟨of_decide_eq_true a, b⟩
theorem gDT {g : Bool} {q : Prop} [Decidable q] (h : (!g || decide q) = true) (hg : g = true) : q := by
 subst hg; exact of_decide_eq_true (by simpa using h)
theorem bind_elim {α β : Type} {x : Option α} {k : α → Option β} {r : β} (h : x.bind k = some r) : ∃ a, x = some a ∧ k a = some r := by
 cases x with
 | none => cases h
 | some a => exact ⟨a, rfl, h⟩
structure SWOn {α : Type} (lt : α → α → Bool) (xs : List α) : Prop where
 irr : ∀ x ∈ xs, lt x x = false
 tr : ∀ x ∈ xs, ∀ y ∈ xs, ∀ z ∈ xs, lt x y = true → lt y z = true → lt x z = true
 nt : ∀ x ∈ xs, ∀ y ∈ xs, ∀ z ∈ xs, lt x y = false → lt y z = false → lt x z = false
 tot : ∀ x ∈ xs, ∀ y ∈ xs, lt x y = false → lt y x = false → x = y
def compF (xs : List Int) : Nat → List Int
 | 0 => []
 | m + 1 => compF xs m ++ (bif Nat.beq m 0 || (xs.getD m default != xs.getD (m - 1) default) then [xs.getD m default] else [])
def compM (xs : List Int) : List Int := compF xs xs.length
theorem compF_len (xs : List Int) : ∀ m, (compF xs m).length ≤ m
 | 0 => Nat.le_refl 0
 | m + 1 => by
  have := compF_len xs m
  rw [compF]
  cases (Nat.beq m 0 || (xs.getD m default != xs.getD (m - 1) default)) <;> simp <;> omega
end Go.CP
namespace Go.CP
open Go
structure ApiZone where
 Region : Int
 deriving Inhabited
structure ApiCell where
 Zone : Int
 Capacity : Int
 deriving Inhabited
structure ApiTenant where
 Load : Int
 Shadow : Int
 Priority : Int
 Lag : Int
 Allowed : Int
 Group : Int
 Noisy : Bool
 deriving Inhabited
structure ApiVersion where
 Low : Int
 High : Int
 deriving Inhabited
structure ApiConfig where
 Regions : Int
 Zones : (List ApiZone)
 Cells : (List ApiCell)
 Tenants : (List ApiTenant)
 Versions : (List ApiVersion)
 Replicas : (List Int)
 Observers : (List Int)
 Blast : Int
 Lease : Int
 Bake : Int
 deriving Inhabited
structure MakeTape where
 L : (List Int)
 At : Int
 deriving Inhabited
structure ApiWindow where
 Cell : Int
 Epoch : Int
 Version : Int
 From : Int
 Until : Int
 deriving Inhabited
structure ApiTenantState where
 Placed : Bool
 Shed : Bool
 Home : Int
 Standby : Int
 Next : Int
 Target : Int
 Epoch : Int
 Window : ApiWindow
 deriving Inhabited
structure ApiCellState where
 Mode : Int
 Running : Int
 Wanted : Int
 Since : Int
 deriving Inhabited
structure ApiState where
 Tick : Int
 Count : Int
 Tenants : (List ApiTenantState)
 Cells : (List ApiCellState)
 Proven : Int
 Evacuating : Int
 Low : Int
 High : Int
 deriving Inhabited
structure ApiRollout where
 Version : Int
 Back : Int
 Waves : (List (List Int))
 deriving Inhabited
structure ApiEntry where
 Kind : Int
 Tick : Int
 Tenant : Int
 Cell : Int
 Other : Int
 Epoch : Int
 From : Int
 Until : Int
 N : Int
 deriving Inhabited
structure EntryBounds where
 tenants : Int
 cells : Int
 regions : Int
 versions : Int
 deriving Inhabited
structure EntrySpan where
 low : Int
 high : Int
 deriving Inhabited
structure EntryForm where
 tenant : EntrySpan
 cell : EntrySpan
 other : EntrySpan
 epoch : EntrySpan
 ticks : EntrySpan
 n : EntrySpan
 deriving Inhabited
structure MillTape where
 L : (List Int)
 At : Int
 deriving Inhabited
inductive N where
 | ApiZone
 | ApiCell
 | ApiTenant
 | ApiVersion
 | ApiConfig
 | MakeTape
 | ApiWindow
 | ApiTenantState
 | ApiCellState
 | ApiState
 | ApiRollout
 | ApiEntry
 | EntryBounds
 | EntrySpan
 | EntryForm
 | MillTape
 deriving DecidableEq
def T : N → Type
 | .ApiZone => ApiZone
 | .ApiCell => ApiCell
 | .ApiTenant => ApiTenant
 | .ApiVersion => ApiVersion
 | .ApiConfig => ApiConfig
 | .MakeTape => MakeTape
 | .ApiWindow => ApiWindow
 | .ApiTenantState => ApiTenantState
 | .ApiCellState => ApiCellState
 | .ApiState => ApiState
 | .ApiRollout => ApiRollout
 | .ApiEntry => ApiEntry
 | .EntryBounds => EntryBounds
 | .EntrySpan => EntrySpan
 | .EntryForm => EntryForm
 | .MillTape => MillTape
instance inhT : (k : N) → Inhabited (T k)
 | .ApiZone => (inferInstance : Inhabited ApiZone)
 | .ApiCell => (inferInstance : Inhabited ApiCell)
 | .ApiTenant => (inferInstance : Inhabited ApiTenant)
 | .ApiVersion => (inferInstance : Inhabited ApiVersion)
 | .ApiConfig => (inferInstance : Inhabited ApiConfig)
 | .MakeTape => (inferInstance : Inhabited MakeTape)
 | .ApiWindow => (inferInstance : Inhabited ApiWindow)
 | .ApiTenantState => (inferInstance : Inhabited ApiTenantState)
 | .ApiCellState => (inferInstance : Inhabited ApiCellState)
 | .ApiState => (inferInstance : Inhabited ApiState)
 | .ApiRollout => (inferInstance : Inhabited ApiRollout)
 | .ApiEntry => (inferInstance : Inhabited ApiEntry)
 | .EntryBounds => (inferInstance : Inhabited EntryBounds)
 | .EntrySpan => (inferInstance : Inhabited EntrySpan)
 | .EntryForm => (inferInstance : Inhabited EntryForm)
 | .MillTape => (inferInstance : Inhabited MillTape)
inductive Ty where
 | i (k : IntKind)
 | b
 | s
 | n (k : N)
 | l (t : Ty)
 deriving DecidableEq
def den : Ty → Type
 | .i _ => Int
 | .b => Bool
 | .s => ByteArray
 | .n k => T k
 | .l t => List (den t)
instance inhD : (t : Ty) → Inhabited (den t)
 | .i _ => (inferInstance : Inhabited Int)
 | .b => (inferInstance : Inhabited Bool)
 | .s => (inferInstance : Inhabited ByteArray)
 | .n k => inhT k
 | .l t => ⟨([] : List (den t))⟩
end Go.CP
namespace Go.AM
open Go Go.RowKit Go.CP
inductive CV where
 | val (v : Value)
 | e0
 | rd (z n : Nat) (f : Nat → List CV)
 | ls (t : Ty) (xs : List (den t))
 | lsn (t : Ty) (xs : List (den t))
def e_int (k : IntKind) (x : Int) : List CV := [.val (.int k x)]
def e_bool (x : Bool) : List CV := [.val (.bool x)]
def e_str (x : ByteArray) : List CV := [.val (.string x)]
def leafE : (t : Ty) → den t → CV
 | .i k, x => .val (.int k x)
 | .b, x => .val (.bool x)
 | .s, x => .val (.string x)
 | .n _, _ => .e0
 | .l t, xs => .ls t xs
def TupL : List Ty → Type
 | [] => Unit
 | t :: r => den t × TupL r
def encL : (ts : List Ty) → TupL ts → List CV
 | [], _ => []
 | t :: r, v => leafE t v.1 :: encL r v.2
end Go.AM
namespace Go.CP
open Go Go.AM
def e_ApiZone (s : ApiZone) : List CV := [.val (.int .i64 s.Region)]
def e_ApiCell (s : ApiCell) : List CV := [.val (.int .i64 s.Zone), .val (.int .i64 s.Capacity)]
def e_ApiTenant (s : ApiTenant) : List CV := [.val (.int .i64 s.Load), .val (.int .i64 s.Shadow), .val (.int .i64 s.Priority), .val (.int .i64 s.Lag), .val (.int .i64 s.Allowed), .val (.int .i64 s.Group), .val (.bool s.Noisy)]
def e_ApiVersion (s : ApiVersion) : List CV := [.val (.int .i64 s.Low), .val (.int .i64 s.High)]
def e_ApiConfig (s : ApiConfig) : List CV := [.val (.int .i64 s.Regions), .ls (.n .ApiZone) s.Zones, .ls (.n .ApiCell) s.Cells, .ls (.n .ApiTenant) s.Tenants, .ls (.n .ApiVersion) s.Versions, .ls (.i .i64) s.Replicas, .ls (.i .i64) s.Observers, .val (.int .i64 s.Blast), .val (.int .i64 s.Lease), .val (.int .i64 s.Bake)]
def e_MakeTape (s : MakeTape) : List CV := [.ls (.i .i64) s.L, .val (.int .i64 s.At)]
def e_ApiWindow (s : ApiWindow) : List CV := [.val (.int .i64 s.Cell), .val (.int .i64 s.Epoch), .val (.int .i64 s.Version), .val (.int .i64 s.From), .val (.int .i64 s.Until)]
def e_ApiTenantState (s : ApiTenantState) : List CV := [.val (.bool s.Placed), .val (.bool s.Shed), .val (.int .i64 s.Home), .val (.int .i64 s.Standby), .val (.int .i64 s.Next), .val (.int .i64 s.Target), .val (.int .i64 s.Epoch), .val (.int .i64 s.Window.Cell), .val (.int .i64 s.Window.Epoch), .val (.int .i64 s.Window.Version), .val (.int .i64 s.Window.From), .val (.int .i64 s.Window.Until)]
def e_ApiCellState (s : ApiCellState) : List CV := [.val (.int .i64 s.Mode), .val (.int .i64 s.Running), .val (.int .i64 s.Wanted), .val (.int .i64 s.Since)]
def e_ApiState (s : ApiState) : List CV := [.val (.int .i64 s.Tick), .val (.int .i64 s.Count), .ls (.n .ApiTenantState) s.Tenants, .ls (.n .ApiCellState) s.Cells, .val (.int .i64 s.Proven), .val (.int .i64 s.Evacuating), .val (.int .i64 s.Low), .val (.int .i64 s.High)]
def e_ApiRollout (s : ApiRollout) : List CV := [.val (.int .i64 s.Version), .val (.int .i64 s.Back), .ls (.l (.i .i64)) s.Waves]
def e_ApiEntry (s : ApiEntry) : List CV := [.val (.int .i64 s.Kind), .val (.int .i64 s.Tick), .val (.int .i64 s.Tenant), .val (.int .i64 s.Cell), .val (.int .i64 s.Other), .val (.int .i64 s.Epoch), .val (.int .i64 s.From), .val (.int .i64 s.Until), .val (.int .i64 s.N)]
def e_EntryBounds (s : EntryBounds) : List CV := [.val (.int .i64 s.tenants), .val (.int .i64 s.cells), .val (.int .i64 s.regions), .val (.int .i64 s.versions)]
def e_EntrySpan (s : EntrySpan) : List CV := [.val (.int .i64 s.low), .val (.int .i64 s.high)]
def e_EntryForm (s : EntryForm) : List CV := [.val (.int .i64 s.tenant.low), .val (.int .i64 s.tenant.high), .val (.int .i64 s.cell.low), .val (.int .i64 s.cell.high), .val (.int .i64 s.other.low), .val (.int .i64 s.other.high), .val (.int .i64 s.epoch.low), .val (.int .i64 s.epoch.high), .val (.int .i64 s.ticks.low), .val (.int .i64 s.ticks.high), .val (.int .i64 s.n.low), .val (.int .i64 s.n.high)]
def e_MillTape (s : MillTape) : List CV := [.ls (.i .i64) s.L, .val (.int .i64 s.At)]
def wdN : N → Nat
 | .ApiZone => 1
 | .ApiCell => 2
 | .ApiTenant => 7
 | .ApiVersion => 2
 | .ApiConfig => 10
 | .MakeTape => 2
 | .ApiWindow => 5
 | .ApiTenantState => 12
 | .ApiCellState => 4
 | .ApiState => 8
 | .ApiRollout => 3
 | .ApiEntry => 9
 | .EntryBounds => 4
 | .EntrySpan => 2
 | .EntryForm => 12
 | .MillTape => 2
def encN : (k : N) → T k → List CV
 | .ApiZone => e_ApiZone
 | .ApiCell => e_ApiCell
 | .ApiTenant => e_ApiTenant
 | .ApiVersion => e_ApiVersion
 | .ApiConfig => e_ApiConfig
 | .MakeTape => e_MakeTape
 | .ApiWindow => e_ApiWindow
 | .ApiTenantState => e_ApiTenantState
 | .ApiCellState => e_ApiCellState
 | .ApiState => e_ApiState
 | .ApiRollout => e_ApiRollout
 | .ApiEntry => e_ApiEntry
 | .EntryBounds => e_EntryBounds
 | .EntrySpan => e_EntrySpan
 | .EntryForm => e_EntryForm
 | .MillTape => e_MillTape
theorem encN_len : (k : N) → (x : T k) → (encN k x).length = wdN k
 | .ApiZone, _ => rfl
 | .ApiCell, _ => rfl
 | .ApiTenant, _ => rfl
 | .ApiVersion, _ => rfl
 | .ApiConfig, _ => rfl
 | .MakeTape, _ => rfl
 | .ApiWindow, _ => rfl
 | .ApiTenantState, _ => rfl
 | .ApiCellState, _ => rfl
 | .ApiState, _ => rfl
 | .ApiRollout, _ => rfl
 | .ApiEntry, _ => rfl
 | .EntryBounds, _ => rfl
 | .EntrySpan, _ => rfl
 | .EntryForm, _ => rfl
 | .MillTape, _ => rfl
def lvN : N → List Ty
 | .ApiZone => [(.i .i64)]
 | .ApiCell => [(.i .i64), (.i .i64)]
 | .ApiTenant => [(.i .i64), (.i .i64), (.i .i64), (.i .i64), (.i .i64), (.i .i64), .b]
 | .ApiVersion => [(.i .i64), (.i .i64)]
 | .ApiConfig => [(.i .i64), (.l (.n .ApiZone)), (.l (.n .ApiCell)), (.l (.n .ApiTenant)), (.l (.n .ApiVersion)), (.l (.i .i64)), (.l (.i .i64)), (.i .i64), (.i .i64), (.i .i64)]
 | .MakeTape => [(.l (.i .i64)), (.i .i64)]
 | .ApiWindow => [(.i .i64), (.i .i64), (.i .i64), (.i .i64), (.i .i64)]
 | .ApiTenantState => [.b, .b, (.i .i64), (.i .i64), (.i .i64), (.i .i64), (.i .i64), (.i .i64), (.i .i64), (.i .i64), (.i .i64), (.i .i64)]
 | .ApiCellState => [(.i .i64), (.i .i64), (.i .i64), (.i .i64)]
 | .ApiState => [(.i .i64), (.i .i64), (.l (.n .ApiTenantState)), (.l (.n .ApiCellState)), (.i .i64), (.i .i64), (.i .i64), (.i .i64)]
 | .ApiRollout => [(.i .i64), (.i .i64), (.l (.l (.i .i64)))]
 | .ApiEntry => [(.i .i64), (.i .i64), (.i .i64), (.i .i64), (.i .i64), (.i .i64), (.i .i64), (.i .i64), (.i .i64)]
 | .EntryBounds => [(.i .i64), (.i .i64), (.i .i64), (.i .i64)]
 | .EntrySpan => [(.i .i64), (.i .i64)]
 | .EntryForm => [(.i .i64), (.i .i64), (.i .i64), (.i .i64), (.i .i64), (.i .i64), (.i .i64), (.i .i64), (.i .i64), (.i .i64), (.i .i64), (.i .i64)]
 | .MillTape => [(.l (.i .i64)), (.i .i64)]
def mkN : (k : N) → TupL (lvN k) → T k
 | .ApiZone => fun v => (⟨v.1⟩ : ApiZone)
 | .ApiCell => fun v => (⟨v.1, v.2.1⟩ : ApiCell)
 | .ApiTenant => fun v => (⟨v.1, v.2.1, v.2.2.1, v.2.2.2.1, v.2.2.2.2.1, v.2.2.2.2.2.1, v.2.2.2.2.2.2.1⟩ : ApiTenant)
 | .ApiVersion => fun v => (⟨v.1, v.2.1⟩ : ApiVersion)
 | .ApiConfig => fun v => (⟨v.1, v.2.1, v.2.2.1, v.2.2.2.1, v.2.2.2.2.1, v.2.2.2.2.2.1, v.2.2.2.2.2.2.1, v.2.2.2.2.2.2.2.1, v.2.2.2.2.2.2.2.2.1, v.2.2.2.2.2.2.2.2.2.1⟩ : ApiConfig)
 | .MakeTape => fun v => (⟨v.1, v.2.1⟩ : MakeTape)
 | .ApiWindow => fun v => (⟨v.1, v.2.1, v.2.2.1, v.2.2.2.1, v.2.2.2.2.1⟩ : ApiWindow)
 | .ApiTenantState => fun v => (⟨v.1, v.2.1, v.2.2.1, v.2.2.2.1, v.2.2.2.2.1, v.2.2.2.2.2.1, v.2.2.2.2.2.2.1, ⟨v.2.2.2.2.2.2.2.1, v.2.2.2.2.2.2.2.2.1, v.2.2.2.2.2.2.2.2.2.1, v.2.2.2.2.2.2.2.2.2.2.1, v.2.2.2.2.2.2.2.2.2.2.2.1⟩⟩ : ApiTenantState)
 | .ApiCellState => fun v => (⟨v.1, v.2.1, v.2.2.1, v.2.2.2.1⟩ : ApiCellState)
 | .ApiState => fun v => (⟨v.1, v.2.1, v.2.2.1, v.2.2.2.1, v.2.2.2.2.1, v.2.2.2.2.2.1, v.2.2.2.2.2.2.1, v.2.2.2.2.2.2.2.1⟩ : ApiState)
 | .ApiRollout => fun v => (⟨v.1, v.2.1, v.2.2.1⟩ : ApiRollout)
 | .ApiEntry => fun v => (⟨v.1, v.2.1, v.2.2.1, v.2.2.2.1, v.2.2.2.2.1, v.2.2.2.2.2.1, v.2.2.2.2.2.2.1, v.2.2.2.2.2.2.2.1, v.2.2.2.2.2.2.2.2.1⟩ : ApiEntry)
 | .EntryBounds => fun v => (⟨v.1, v.2.1, v.2.2.1, v.2.2.2.1⟩ : EntryBounds)
 | .EntrySpan => fun v => (⟨v.1, v.2.1⟩ : EntrySpan)
 | .EntryForm => fun v => (⟨⟨v.1, v.2.1⟩, ⟨v.2.2.1, v.2.2.2.1⟩, ⟨v.2.2.2.2.1, v.2.2.2.2.2.1⟩, ⟨v.2.2.2.2.2.2.1, v.2.2.2.2.2.2.2.1⟩, ⟨v.2.2.2.2.2.2.2.2.1, v.2.2.2.2.2.2.2.2.2.1⟩, ⟨v.2.2.2.2.2.2.2.2.2.2.1, v.2.2.2.2.2.2.2.2.2.2.2.1⟩⟩ : EntryForm)
 | .MillTape => fun v => (⟨v.1, v.2.1⟩ : MillTape)
theorem encN_mk : (k : N) → (v : TupL (lvN k)) → encN k (mkN k v) = encL (lvN k) v
 | .ApiZone, _ => rfl
 | .ApiCell, _ => rfl
 | .ApiTenant, _ => rfl
 | .ApiVersion, _ => rfl
 | .ApiConfig, _ => rfl
 | .MakeTape, _ => rfl
 | .ApiWindow, _ => rfl
 | .ApiTenantState, _ => rfl
 | .ApiCellState, _ => rfl
 | .ApiState, _ => rfl
 | .ApiRollout, _ => rfl
 | .ApiEntry, _ => rfl
 | .EntryBounds, _ => rfl
 | .EntrySpan, _ => rfl
 | .EntryForm, _ => rfl
 | .MillTape, _ => rfl
def ofN : (k : N) → T k → TupL (lvN k)
 | .ApiZone => fun (s : ApiZone) => (s.Region, ())
 | .ApiCell => fun (s : ApiCell) => (s.Zone, s.Capacity, ())
 | .ApiTenant => fun (s : ApiTenant) => (s.Load, s.Shadow, s.Priority, s.Lag, s.Allowed, s.Group, s.Noisy, ())
 | .ApiVersion => fun (s : ApiVersion) => (s.Low, s.High, ())
 | .ApiConfig => fun (s : ApiConfig) => (s.Regions, s.Zones, s.Cells, s.Tenants, s.Versions, s.Replicas, s.Observers, s.Blast, s.Lease, s.Bake, ())
 | .MakeTape => fun (s : MakeTape) => (s.L, s.At, ())
 | .ApiWindow => fun (s : ApiWindow) => (s.Cell, s.Epoch, s.Version, s.From, s.Until, ())
 | .ApiTenantState => fun (s : ApiTenantState) => (s.Placed, s.Shed, s.Home, s.Standby, s.Next, s.Target, s.Epoch, s.Window.Cell, s.Window.Epoch, s.Window.Version, s.Window.From, s.Window.Until, ())
 | .ApiCellState => fun (s : ApiCellState) => (s.Mode, s.Running, s.Wanted, s.Since, ())
 | .ApiState => fun (s : ApiState) => (s.Tick, s.Count, s.Tenants, s.Cells, s.Proven, s.Evacuating, s.Low, s.High, ())
 | .ApiRollout => fun (s : ApiRollout) => (s.Version, s.Back, s.Waves, ())
 | .ApiEntry => fun (s : ApiEntry) => (s.Kind, s.Tick, s.Tenant, s.Cell, s.Other, s.Epoch, s.From, s.Until, s.N, ())
 | .EntryBounds => fun (s : EntryBounds) => (s.tenants, s.cells, s.regions, s.versions, ())
 | .EntrySpan => fun (s : EntrySpan) => (s.low, s.high, ())
 | .EntryForm => fun (s : EntryForm) => (s.tenant.low, s.tenant.high, s.cell.low, s.cell.high, s.other.low, s.other.high, s.epoch.low, s.epoch.high, s.ticks.low, s.ticks.high, s.n.low, s.n.high, ())
 | .MillTape => fun (s : MillTape) => (s.L, s.At, ())
theorem mkN_of : (k : N) → (x : T k) → mkN k (ofN k x) = x
 | .ApiZone, _ => rfl
 | .ApiCell, _ => rfl
 | .ApiTenant, _ => rfl
 | .ApiVersion, _ => rfl
 | .ApiConfig, _ => rfl
 | .MakeTape, _ => rfl
 | .ApiWindow, _ => rfl
 | .ApiTenantState, _ => rfl
 | .ApiCellState, _ => rfl
 | .ApiState, _ => rfl
 | .ApiRollout, _ => rfl
 | .ApiEntry, _ => rfl
 | .EntryBounds, _ => rfl
 | .EntrySpan, _ => rfl
 | .EntryForm, _ => rfl
 | .MillTape, _ => rfl
end Go.CP
namespace Go.AM
open Go Go.RowKit Go.CP
def wd : Ty → Nat
  | .n k => wdN k
  | _ => 1
def encT : (t : Ty) → den t → List CV
  | .i k, x => e_int k x
  | .b, x => e_bool x
  | .s, x => e_str x
  | .n k, x => encN k x
  | .l t, xs => [.ls t xs]
theorem encT_len : (t : Ty) → (x : den t) → (encT t x).length = wd t
  | .i _, _ => rfl
  | .b, _ => rfl
  | .s, _ => rfl
  | .n k, x => encN_len k x
  | .l _, _ => rfl
def fE (t : Ty) (xs : List (den t)) : Nat → List CV := fun i => encT t (xs.getD i default)
inductive SC where
  | c (x : CV)
  | rp (cs : List CV)
  | own (k : Nat)
  | sl (k lo len : Nat)
  | pb (k off : Nat)
  | pe (k i off : Nat)
  | fn (f : FuncId) (caps : List Nat)
  | mp (k : Nat)
  | bot
inductive AV where
  | s (x : SC)
  | agg (cs : List SC)
inductive SV where
  | one (v : AV)
  | tup (vs : List AV)
inductive AObj where
  | box (cs : List SC)
  | arr (z n : Nat) (f : Nat → List CV)
  | mp (es : List (Int × Int))
  | dead
def AObj.live : AObj → Prop
  | .dead => False
  | _ => True
structure Loc where
  base : Option Addr
  cap : Nat
  z : Nat
  blk : Option Nat
  n : Nat
abbrev Mu := Nat → Prop
abbrev Locs := Nat → Option Loc
inductive SimC (w : World) (M : Mu) : CV → Value → Prop
  | val (v : Value) : SimC w M (.val v) v
  | e0 (a : Option Addr) : SimC w M .e0 (.slice a 0 0)
  | rd0 (z : Nat) (f : Nat → List CV) (a : Option Addr) (cap : Nat) : SimC w M (.rd z 0 f) (.slice a 0 cap)
  | rd (z n : Nat) (f : Nat → List CV) (b off cap : Nat) (c : Nat → Value) (hb : ¬ M b) (hs : b < w.heap.size) (hn : n ≤ cap)
      (hl : ∀ i, i < n → (f i).length = z) (hc : ∀ j, j < n * z → w.cell? ⟨b, off + j, none⟩ = some (c j)) (h1 : ∀ j, j < n * z → (c j).oneCell' = true)
      (h : ∀ i j x, i < n → (f i)[j]? = some x → SimC w M x (c (i * z + j))) : SimC w M (.rd z n f) (.slice (some ⟨b, off, none⟩) n cap)
  | ls (t : Ty) (xs : List (den t)) (v : Value) (h : SimC w M (.rd (wd t) xs.length (fE t xs)) v) : SimC w M (.ls t xs) v
  | lsn (t : Ty) (xs : List (den t)) (v : Value) (h : SimC w M (.rd (wd t) xs.length (fE t xs)) v) (hn : xs = [] → v = .slice none 0 0) : SimC w M (.lsn t xs) v
inductive SimS (w : World) (m : Locs) (M : Mu) : SC → Value → Prop
  | c {x : CV} {v : Value} (h : SimC w M x v) : SimS w m M (.c x) v
  | rp (cs : List CV) (b off : Nat) (c : Nat → Value) (hb : ¬ M b) (hs : b < w.heap.size) (hc : ∀ j, j < cs.length → w.cell? ⟨b, off + j, none⟩ = some (c j))
      (h : ∀ (j : Nat) x, cs[j]? = some x → SimC w M x (c j)) : SimS w m M (.rp cs) (.pointer (some ⟨b, off, none⟩))
  | own (k : Nat) (l : Loc) (hk : m k = some l) : SimS w m M (.own k) (.slice l.base l.n l.cap)
  | sl (k lo len : Nat) (l : Loc) (a : Option Addr) (c : Nat) (hk : m k = some l) (h0 : lo = 0 → a = l.base ∧ c = l.cap)
      (h1 : len ≠ 0 → ∃ b, l.blk = some b ∧ a = some ⟨b, lo * l.z, none⟩) (h2 : len ≤ c) (h3 : c + lo = l.cap) : SimS w m M (.sl k lo len) (.slice a len c)
  | pb (k off b : Nat) (l : Loc) (hk : m k = some l) (hb : l.blk = some b) : SimS w m M (.pb k off) (.pointer (some ⟨b, off, none⟩))
  | pe (k i off b : Nat) (l : Loc) (hk : m k = some l) (hb : l.blk = some b) (hi : i < l.n) : SimS w m M (.pe k i off) (.pointer (some ⟨b, i * l.z + off, none⟩))
  | fn (f : FuncId) (caps : List Nat) (vs : Array Value) (hs : vs.size = caps.length)
      (h : ∀ (i : Nat) k, caps[i]? = some k → ∃ l b, m k = some l ∧ l.blk = some b ∧ vs[i]? = some (.pointer (some ⟨b, 0, none⟩))) : SimS w m M (.fn f caps) (.func (.func f) #[] vs)
  | mp (k b : Nat) (l : Loc) (hk : m k = some l) (hb : l.blk = some b) : SimS w m M (.mp k) (.map (some b))
  | bot (v : Value) : SimS w m M .bot v
def SimL (w : World) (m : Locs) (M : Mu) (cs : List SC) (vs : Array Value) : Prop :=
  vs.size = cs.length ∧ ∀ (i : Nat) x, cs[i]? = some x → SimS w m M x (vs.getD i undef)
def SimA (w : World) (m : Locs) (M : Mu) : AV → Value → Prop
  | .s x, v => SimS w m M x v
  | .agg cs, v => ∃ vs, v = .agg vs ∧ SimL w m M cs vs
def SimV (w : World) (m : Locs) (M : Mu) : SV → Value → Prop
  | .one a, v => SimA w m M a v
  | .tup as', v => ∃ vs : Array Value, v = .tuple vs ∧ vs.size = as'.length ∧ ∀ (i : Nat) a, as'[i]? = some a → SimA w m M a (vs.getD i undef)
def Mut (m : Locs) (h : List AObj) : Mu := fun b => ∃ k o l, h[k]? = some o ∧ o.live ∧ m k = some l ∧ l.blk = some b
def MX (X : Mu) (m : Locs) (h : List AObj) : Mu := fun b => X b ∨ Mut m h b
def ObjAt (w : World) (m : Locs) (M : Mu) (k : Nat) : AObj → Prop
  | .dead => True
  | .box cs => ∃ l b T vs, m k = some l ∧ l.blk = some b ∧ w.heap[b]? = some (.cells vs T (0, 0)) ∧ SimL w m M cs vs ∧ ∀ i, i < vs.size → (vs.getD i undef).oneCell' = true
  | .arr z n f => ∃ l, m k = some l ∧ l.z = z ∧ (l.n = n ∧ n ≤ l.cap) ∧ (l.blk = none → l.cap = 0) ∧ ∀ b, l.blk = some b → l.base = some ⟨b, 0, none⟩ ∧
      ∃ T vs, w.heap[b]? = some (.cells vs T (0, 0)) ∧ vs.size = l.cap * z ∧ (∀ i, i < vs.size → (vs.getD i undef).oneCell' = true) ∧
        ∀ i, i < n → (f i).length = z ∧ ∀ (j : Nat) x, (f i)[j]? = some x → SimC w M x (vs.getD (i * z + j) undef)
  | .mp es => ∃ l b rows clock, m k = some l ∧ l.blk = some b ∧ w.heap[b]? = some (.map rows clock) ∧ rows.toList.map (fun e => (e.key, e.val)) = es.map (fun p => (Value.int .i64 p.1, Value.int .i64 p.2))
structure HeapRel (X : Mu) (w : World) (m : Locs) (h : List AObj) : Prop where
  obj : ∀ k o, h[k]? = some o → ObjAt w m (MX X m h) k o
  inj : ∀ k k' o o' l l' b, h[k]? = some o → h[k']? = some o' → o.live → o'.live → m k = some l → m k' = some l' → l.blk = some b → l'.blk = some b → k = k'
  used : ∀ k, h.length ≤ k → m k = none
  disj : ∀ b, Mut m h b → ¬ X b
  xlt : ∀ b, X b → b < w.heap.size
structure Later (w : World) (m : Locs) (M : Mu) (w' : World) (m' : Locs) (M' : Mu) : Prop where
  ext : ∀ k l, m k = some l → m' k = some l
  mu : ∀ b, b < w.heap.size → ¬ M b → ¬ M' b
  keep : ∀ b, b < w.heap.size → ¬ M b → w'.heap[b]? = w.heap[b]?
  size : w.heap.size ≤ w'.heap.size
section
variable {w w' w'' : World} {m m' m'' : Locs} {M M' M'' : Mu}
theorem Later.refl : Later w m M w m M := ⟨fun _ _ h => h, fun _ _ h => h, fun _ _ _ => rfl, Nat.le_refl _⟩
theorem Later.trans (h : Later w m M w' m' M') (k : Later w' m' M' w'' m'' M'') : Later w m M w'' m'' M'' :=
  ⟨fun x l e => k.ext x l (h.ext x l e), fun b hb hM => k.mu b (Nat.lt_of_lt_of_le hb h.size) (h.mu b hb hM),
   fun b hb hM => (k.keep b (Nat.lt_of_lt_of_le hb h.size) (h.mu b hb hM)).trans (h.keep b hb hM), Nat.le_trans h.size k.size⟩
theorem cell_keep {b off : Nat} (hk : w'.heap[b]? = w.heap[b]?) : w'.cell? ⟨b, off, none⟩ = w.cell? ⟨b, off, none⟩ :=
  World.cell?_of_block hk
theorem SimC.later (L : Later w m M w' m' M') {x : CV} {v : Value} (h : SimC w M x v) : SimC w' M' x v := by
  induction h with
  | val v => exact .val v
  | e0 a => exact .e0 a
  | rd0 z f a cap => exact .rd0 z f a cap
  | rd z n f b off cap c hb hs hn hl hc h1 _ ih =>
    exact .rd z n f b off cap c (L.mu b hs hb) (Nat.lt_of_lt_of_le hs L.size) hn hl
      (fun j hj => (cell_keep (L.keep b hs hb)).trans (hc j hj)) h1 (fun i j x hi hx => ih i j x hi hx)
  | ls t xs v _ ih => exact .ls t xs v ih
  | lsn t xs v _ hn ih => exact .lsn t xs v ih hn
theorem SimS.later (L : Later w m M w' m' M') {x : SC} {v : Value} (h : SimS w m M x v) : SimS w' m' M' x v := by
  cases h with
  | c h => exact .c (h.later L)
  | rp cs b off c hb hs hc h =>
    exact .rp cs b off c (L.mu b hs hb) (Nat.lt_of_lt_of_le hs L.size) (fun j hj => (cell_keep (L.keep b hs hb)).trans (hc j hj)) (fun j x hx => (h j x hx).later L)
  | own k l hk => exact .own k l (L.ext _ _ hk)
  | sl k lo len l a c hk h0 h1 h2 h3 => exact .sl k lo len l a c (L.ext _ _ hk) h0 h1 h2 h3
  | pb k off b l hk hb => exact .pb k off b l (L.ext _ _ hk) hb
  | pe k i off b l hk hb hi => exact .pe k i off b l (L.ext _ _ hk) hb hi
  | fn f caps vs hs h => exact .fn f caps vs hs (fun i k hi => let ⟨l, b, e, r⟩ := h i k hi; ⟨l, b, L.ext _ _ e, r⟩)
  | mp k b l hk hb => exact .mp k b l (L.ext _ _ hk) hb
  | bot v => exact .bot v
theorem SimL.later (L : Later w m M w' m' M') {cs : List SC} {vs : Array Value} (h : SimL w m M cs vs) : SimL w' m' M' cs vs :=
  ⟨h.1, fun i x hx => (h.2 i x hx).later L⟩
theorem SimA.later (L : Later w m M w' m' M') {a : AV} {v : Value} (h : SimA w m M a v) : SimA w' m' M' a v := by
  cases a with
  | s x => exact SimS.later L h
  | agg cs => obtain ⟨vs, e, hl⟩ := h; exact ⟨vs, e, hl.later L⟩
theorem SimV.later (L : Later w m M w' m' M') {s : SV} {v : Value} (h : SimV w m M s v) : SimV w' m' M' s v := by
  cases s with
  | one a => exact SimA.later L h
  | tup as' => obtain ⟨vs, e, hz, hl⟩ := h; exact ⟨vs, e, hz, fun i a ha => (hl i a ha).later L⟩
end
def OutP (w w' : World) : Prop := w'.output = w.output ∧ w.drawn ≤ w'.drawn
theorem OutP.same (w : World) : OutP w w := ⟨rfl, Nat.le_refl _⟩
theorem OutP.trans {a b c : World} (h : OutP a b) (k : OutP b c) : OutP a c := ⟨k.1.trans h.1, Nat.le_trans h.2 k.2⟩
structure Stp (X : Mu) (w : World) (m : Locs) (h : List AObj) (w' : World) (m' : Locs) (h' : List AObj) : Prop where
  rel : HeapRel X w' m' h'
  later : Later w m (MX X m h) w' m' (MX X m' h')
  os : w'.os = w.os
  tape : w'.tape = w.tape
  output : OutP w w'
  keep : ∀ b, b < w.heap.size → ¬ Mut m h b → w'.heap[b]? = w.heap[b]?
  mt : ∀ b, Mut m' h' b → Mut m h b ∨ w.heap.size ≤ b
  nw : ∀ k, h[k]? = some .dead → h'[k]? = some .dead → m k = none → m' k = none
theorem Stp.refl {X : Mu} {w : World} {m : Locs} {h : List AObj} (H : HeapRel X w m h) : Stp X w m h w m h :=
  ⟨H, Later.refl, rfl, rfl, OutP.same _, fun _ _ _ => rfl, fun _ hb => .inl hb, fun _ _ _ h => h⟩
theorem lt_of_block {w : World} {b : Nat} {o : Obj} (h : w.heap[b]? = some o) : b < w.heap.size := by
  rcases Nat.lt_or_ge b w.heap.size with h' | h'
  · exact h'
  · rw [Array.getElem?_eq_none h'] at h; cases h
theorem HeapRel.change {X : Mu} {w w' : World} {m m' : Locs} {h h' : List AObj} (H : HeapRel X w m h) (ch : Nat → Prop)
    (hlen : h'.length = h.length) (hsame : ∀ k, ¬ ch k → h'[k]? = h[k]?)
    (hext : ∀ k l, m k = some l → m' k = some l) (hm : ∀ k, ¬ ch k → m' k = m k)
    (hnew : ∀ k, h.length ≤ k → m' k = none)
    (hos : w'.os = w.os) (htape : w'.tape = w.tape) (hout : OutP w w')
    (hsize : w.heap.size ≤ w'.heap.size)
    (hmut : ∀ k o l b, ch k → h'[k]? = some o → o.live → m' k = some l → l.blk = some b → Mut m h b ∨ w.heap.size ≤ b)
    (hkeep : ∀ b, b < w.heap.size → (w'.heap[b]? = w.heap[b]?) ∨ (Mut m h b ∧ ∀ k o l, ¬ ch k → h[k]? = some o → o.live → m k = some l → l.blk = some b → False))
    (hinj : ∀ k k' o o' l l' b, ch k → h'[k]? = some o → h'[k']? = some o' → o.live → o'.live → m' k = some l → m' k' = some l' → l.blk = some b → l'.blk = some b → k = k')
    (hnw : ∀ k, ch k → h'[k]? = some .dead → m k = none → m' k = none)
    (hobj : Later w m (MX X m h) w' m' (MX X m' h') → ∀ k o, ch k → h'[k]? = some o → ObjAt w' m' (MX X m' h') k o) :
    Stp X w m h w' m' h' := by
  have hMut : ∀ b, Mut m' h' b → Mut m h b ∨ w.heap.size ≤ b := by
    rintro b ⟨k, o, l, hk, hl, hmk, hb⟩
    by_cases hc : ch k
    · exact hmut k o l b hc hk hl hmk hb
    · rw [hsame k hc] at hk; rw [hm k hc] at hmk
      exact .inl ⟨k, o, l, hk, hl, hmk, hb⟩
  have hK : ∀ b, b < w.heap.size → ¬ Mut m h b → w'.heap[b]? = w.heap[b]? := by
    intro b hb hM
    rcases hkeep b hb with h1 | ⟨h1, _⟩
    · exact h1
    · exact absurd h1 hM
  have hL : Later w m (MX X m h) w' m' (MX X m' h') := by
    refine ⟨hext, fun b hb hM hM' => ?_, fun b hb hM => hK b hb (fun h1 => hM (.inr h1)), hsize⟩
    rcases hM' with h0 | h0
    · exact hM (.inl h0)
    · rcases hMut b h0 with h1 | h1
      · exact hM (.inr h1)
      · omega
  refine ⟨⟨fun k o hk => ?_, fun k k' o o' l l' b h1 h2 h3 h4 h5 h6 h7 h8 => ?_, fun k hk => hnew k (by omega), fun b hb hX => ?_, fun b hX => Nat.lt_of_lt_of_le (H.xlt b hX) hsize⟩, hL, hos, htape, hout, hK, hMut, fun k _ h2 h3 => by by_cases hc : ch k; exact hnw k hc h2 h3; rw [hm k hc]; exact h3⟩
  · by_cases hc : ch k
    · exact hobj hL k o hc hk
    · have hk0 := hk
      rw [hsame k hc] at hk
      have ho := H.obj k o hk
      cases o with
      | dead => trivial
      | box cs =>
        obtain ⟨l, b, T, vs, e1, e2, e3, e4, e5⟩ := ho
        refine ⟨l, b, T, vs, hext _ _ e1, e2, ?_, e4.later hL, e5⟩
        rcases hkeep b (lt_of_block e3) with h1 | ⟨_, h1⟩
        · rw [h1]; exact e3
        · exact (h1 k _ l hc hk trivial e1 e2).elim
      | arr z n f =>
        obtain ⟨l, e1, e2, e3, e4, e5⟩ := ho
        refine ⟨l, hext _ _ e1, e2, e3, e4, fun b hb => ?_⟩
        obtain ⟨e6, T, vs, e7, e8, e9, e10⟩ := e5 b hb
        refine ⟨e6, T, vs, ?_, e8, e9, fun i hi => ⟨(e10 i hi).1, fun j x hx => ((e10 i hi).2 j x hx).later hL⟩⟩
        rcases hkeep b (lt_of_block e7) with h1 | ⟨_, h1⟩
        · rw [h1]; exact e7
        · exact (h1 k _ l hc hk trivial e1 hb).elim
      | mp es =>
        obtain ⟨l, b, rows, clock, e1, e2, e3, e4⟩ := ho
        refine ⟨l, b, rows, clock, hext _ _ e1, e2, ?_, e4⟩
        rcases hkeep b (lt_of_block e3) with h1 | ⟨_, h1⟩
        · rw [h1]; exact e3
        · exact (h1 k _ l hc hk trivial e1 e2).elim
  · by_cases hc : ch k
    · exact hinj k k' o o' l l' b hc h1 h2 h3 h4 h5 h6 h7 h8
    · by_cases hc' : ch k'
      · exact (hinj k' k o' o l' l b hc' h2 h1 h4 h3 h6 h5 h8 h7).symm
      · rw [hsame k hc] at h1; rw [hsame k' hc'] at h2; rw [hm k hc] at h5; rw [hm k' hc'] at h6
        exact H.inj k k' o o' l l' b h1 h2 h3 h4 h5 h6 h7 h8
  · rcases hMut b hb with h1 | h1
    · exact H.disj b h1 hX
    · have := H.xlt b hX; omega
end Go.AM
namespace Go.AM
open Go Go.RowKit
def mkv (v : Value) : SV := .one (.s (.c (.val v)))
def ofVal : Value → AV
  | .agg cs => .agg (cs.toList.map fun v => .c (.val v))
  | v => .s (.c (.val v))
structure St where
  σ : List (Nat × SV)
  h : List AObj
def look : List (Nat × SV) → Nat → Option SV
  | [], _ => none
  | (i, s) :: r, t => bif Nat.beq i t then some s else look r t
def del : List (Nat × SV) → Nat → List (Nat × SV)
  | [], _ => []
  | (i, s) :: r, t => bif Nat.beq i t then del r t else (i, s) :: del r t
def putD (σ : List (Nat × SV)) (d : Option Nat) (s : SV) : List (Nat × SV) :=
  match d with
  | some t => (t, s) :: del σ t
  | none => σ
def opd (σ : List (Nat × SV)) : Operand → Option SV
  | .tmp t => look σ t
  | .const v => some (.one (ofVal v))
  | .func f => some (.one (.s (.fn f [])))
  | .global _ => none
def getO (h : List AObj) (k : Nat) : AObj := (h[k]?).getD .dead
def avCells : AV → List SC
  | .s x => [x]
  | .agg cs => cs
def SC.scalar : SC → Bool
  | .c (.val v) => v.oneCell'
  | .bot => false
  | _ => true
def allCV : List SC → Option (List CV)
  | [] => some []
  | .c x :: r => match allCV r with
    | some xs => some (x :: xs)
    | none => none
  | _ :: _ => none
def splice {α : Type} (cs : List α) (off : Nat) (xs : List α) : List α := cs.take off ++ (xs ++ cs.drop (off + xs.length))
def upd (f : Nat → List CV) (i : Nat) (c : List CV) : Nat → List CV := fun j => if j = i then c else f j
def app (n : Nat) (f g : Nat → List CV) : Nat → List CV := fun i => if i < n then f i else g (i - n)
def cpy (lo n : Nat) (f g : Nat → List CV) : Nat → List CV := fun i => if lo ≤ i ∧ i < lo + n then g (i - lo) else f i
structure Eff where
  r : SV
  ws : List (Nat × AObj) := []
  bs : List Bool := []
  cs : List Prop := []
def isAggB (P : Program) (t : TypeId) : Bool :=
  match P.underlying t with
  | some (.struct _) => true
  | some (.array _ _) => true
  | _ => false
def loadA (P : Program) (T : TypeId) (cs : List SC) (off : Nat) : Option AV :=
  match P.underlying T with
  | none => none
  | some _ =>
    bif isAggB P T then
      match P.info? T with
      | some i => if off + i.size ≤ cs.length then some (.agg ((cs.drop off).take i.size)) else none
      | none => none
    else
      match cs[off]? with
      | some x => some (.s x)
      | none => none
def evLoad (P : Program) (T : TypeId) (get : Nat → AObj) (p : SC) : Option Eff :=
  match p with
  | .pb k off => match get k with
    | .box cs => match loadA P T cs off with
      | some v => some { r := .one v }
      | none => none
    | _ => none
  | .pe k i off => match get k with
    | .arr _ _ f => match loadA P T ((f i).map .c) off with
      | some v => some { r := .one v }
      | none => none
    | _ => none
  | .rp cs => match loadA P T (cs.map .c) 0 with
    | some v => some { r := .one v }
    | none => none
  | _ => none
def evStore (P : Program) (T : TypeId) (get : Nat → AObj) (p : SC) (v : AV) : Option Eff :=
  match P.info? T with
  | none => none
  | some i =>
    bif Nat.beq (avCells v).length i.size && (avCells v).all SC.scalar then
      match p with
      | .pb k off => match get k with
        | .box cs => bif Nat.ble (off + i.size) cs.length then some { r := mkv undef, ws := [(k, .box (splice cs off (avCells v)))] } else none
        | _ => none
      | .pe k j off => match get k, allCV (avCells v) with
        | .arr z n f, some xs => bif Nat.ble (off + i.size) z then some { r := mkv undef, ws := [(k, .arr z n (upd f j (splice (f j) off xs)))] } else none
        | _, _ => none
      | _ => none
    else none
def vw (get : Nat → AObj) : SC → SC
  | .own k => match get k with
    | .arr _ n _ => .sl k 0 n
    | _ => .own k
  | .c (.ls t xs) => .c (.rd (wd t) xs.length (fE t xs))
  | x => x
def srcC (z : Nat) : CV → Option (Nat × (Nat → List CV) × List Bool)
  | .rd z' n f => bif Nat.beq z z' then some (n, f, []) else none
  | .e0 => some (0, fun _ => [], [])
  | .val (.slice none 0 _) => some (0, fun _ => [], [])
  | _ => none
def dstC : CV → Option (Nat × (Nat → List CV) × List Bool × List (Nat × AObj))
  | .e0 => some (0, fun _ => [], [], [])
  | .val (.slice none 0 0) => some (0, fun _ => [], [], [])
  | _ => none
def srcOf0 (z : Nat) (get : Nat → AObj) : SC → Option (Nat × (Nat → List CV) × List Bool)
  | .sl k lo len => match get k with
    | .arr z' n f => bif Nat.beq z z' then some (len, fun i => f (lo + i), [decide (lo + len ≤ n)]) else none
    | _ => none
  | .c x => srcC z x
  | _ => none
def srcOf (z : Nat) (get : Nat → AObj) : SC → Option (Nat × (Nat → List CV) × List Bool)
  | .own k => match get k with
    | .arr z' n f => bif Nat.beq z z' then some (n, f, []) else none
    | _ => none
  | .c (.ls t xs) => bif Nat.beq z (wd t) then some (xs.length, fE t xs, []) else none
  | x => srcOf0 z get x
def dstOf (z : Nat) (get : Nat → AObj) : SC → Option (Nat × (Nat → List CV) × List Bool × List (Nat × AObj))
  | .own k => match get k with
    | .arr z' n f => bif Nat.beq z z' then some (n, f, [], [(k, .dead)]) else none
    | _ => none
  | .c x => dstC x
  | _ => none
def elemInfo (P : Program) (t : TypeId) : Option (TypeId × TypeInfo × Array Value) :=
  match P.underlying t with
  | some (.slice e) => match P.info? e with
    | some i => match i.zero with
      | some z => bif Nat.beq z.cells.size i.size && (z.cells.all Value.oneCell') && Nat.blt 0 i.size && Nat.blt 0 i.bytes then some (e, i, z.cells) else none
      | none => none
    | none => none
  | _ => none
def evAppend (P : Program) (t : TypeId) (id : Nat) (get : Nat → AObj) (s x : SC) : Option Eff :=
  match elemInfo P t with
  | none => none
  | some (_, i, _) =>
    match dstOf i.size get s, srcOf i.size get x with
    | some (n, f, c1, w1), some (k, g, c2) =>
      some { r := .one (.s (.own id)), ws := w1 ++ [(id, .arr i.size (n + k) (app n f g))], bs := c1 ++ (c2 ++ [decide ((n + k) * i.bytes ≤ 140737488355328)]) }
    | _, _ => none
def evGrow (P : Program) (t : TypeId) (id : Nat) (n : Int) : Option Eff :=
  match elemInfo P t with
  | none => none
  | some (_, i, z) => bif Nat.beq i.size 1 then
      some { r := .one (.s (.own id)), ws := [(id, .arr i.size n.toNat (fun _ => z.toList.map .val))], bs := [decide (0 < n ∧ n * i.bytes ≤ 140737488355328)] } else none
def evCopy0 (P : Program) (t : TypeId) (get : Nat → AObj) (s x : SC) : Option Eff :=
  match elemInfo P t with
  | none => none
  | some (_, i, _) =>
    match s, srcOf i.size get x with
    | .sl k lo len, some (m, g, c2) => match get k with
      | .arr z n f => bif Nat.beq z i.size then some { r := mkv (.int .i64 ((min m len : Nat) : Int)), ws := [(k, .arr z n (cpy lo (min m len) f g))], bs := c2 ++ [decide (lo + len ≤ n)] } else none
      | _ => none
    | _, _ => none
def evCopy (P : Program) (t : TypeId) (get : Nat → AObj) (s x : SC) : Option Eff := evCopy0 P t get (vw get s) x
def evClear0 (P : Program) (t : TypeId) (get : Nat → AObj) (s : SC) : Option Eff :=
  match elemInfo P t with
  | none => none
  | some (_, i, z) =>
    match s with
    | .sl k lo len => match get k with
      | .arr z' n f => bif Nat.beq z' i.size then some { r := .tup [], ws := [(k, .arr z' n (cpy lo len f (fun _ => z.toList.map .val)))], bs := [decide (lo + len ≤ n)] } else none
      | _ => none
    | _ => none
def evClear (P : Program) (t : TypeId) (get : Nat → AObj) (s : SC) : Option Eff := evClear0 P t get (vw get s)
def lenOf (x : SC) : Option Nat :=
  match x with
  | .sl _ _ len => some len
  | .c (.rd _ n _) => some n
  | .c .e0 => some 0
  | .c (.val (.slice _ n _)) => some n
  | _ => none
def intBin (op : BinOp) (k : IntKind) (a b : Int) : Option (Value × List Bool) :=
  match op with
  | .add => some (.int k (k.wrap (a + b)), [])
  | .sub => some (.int k (k.wrap (a - b)), [])
  | .mul => some (.int k (k.wrap (a * b)), [])
  | .quo => some (.int k (k.wrap (a.tdiv b)), [decide (b ≠ 0)])
  | .rem => some (.int k (a.tmod b), [decide (b ≠ 0)])
  | .and => some (.int k (k.wrap ((BitVec.ofInt k.bits a &&& BitVec.ofInt k.bits b).toNat)), [])
  | .or => some (.int k (k.wrap ((BitVec.ofInt k.bits a ||| BitVec.ofInt k.bits b).toNat)), [])
  | .xor => some (.int k (k.wrap ((BitVec.ofInt k.bits a ^^^ BitVec.ofInt k.bits b).toNat)), [])
  | .andNot => some (.int k (k.wrap ((BitVec.ofInt k.bits a &&& ~~~ BitVec.ofInt k.bits b).toNat)), [])
  | .eql => some (.bool (a == b), [])
  | .neq => some (.bool (a != b), [])
  | .lss => some (.bool (decide (a < b)), [])
  | .leq => some (.bool (decide (a ≤ b)), [])
  | .gtr => some (.bool (decide (b < a)), [])
  | .geq => some (.bool (decide (b ≤ a)), [])
  | _ => none
def shiftBin (op : BinOp) (k : IntKind) (a b : Int) : Option (Value × List Bool) :=
  match op with
  | .shl => some (.int k (k.wrap (a * 2 ^ (min b.toNat k.bits))), [decide (0 ≤ b)])
  | .shr => some (.int k (a.fdiv (2 ^ (min b.toNat k.bits))), [decide (0 ≤ b)])
  | _ => none
def strBin (op : BinOp) (x y : ByteArray) : Option (Value × List Bool) :=
  match op with
  | .add => some (.string (x ++ y), [decide (x.size + y.size ≤ 9223372036854775807)])
  | .eql => some (.bool (x.toList == y.toList), [])
  | .neq => some (.bool (!(x.toList == y.toList)), [])
  | .lss => some (.bool (Op.bytesLess x.toList y.toList), [])
  | .leq => some (.bool (Op.bytesLess x.toList y.toList || x.toList == y.toList), [])
  | .gtr => some (.bool (!(Op.bytesLess x.toList y.toList || x.toList == y.toList)), [])
  | .geq => some (.bool (!(Op.bytesLess x.toList y.toList)), [])
  | _ => none
def valBin (P : Program) (op : BinOp) (t : TypeId) (x y : Value) : Option (Value × List Bool) :=
  match x, y with
  | .int k a, .int k' b =>
    match op with
    | .shl => shiftBin .shl k a b
    | .shr => shiftBin .shr k a b
    | _ => if k = k' then intBin op k a b else none
  | .string a, .string b => strBin op a b
  | .bool a, .bool b =>
    match P.underlying t, op with
    | some .bool, .eql => some (.bool (a == b), [])
    | some .bool, .neq => some (.bool (!(a == b)), [])
    | _, _ => none
  | .slice none 0 0, .slice none 0 0 =>
    match P.underlying t, op with
    | some (.slice _), .eql => some (.bool true, [])
    | some (.slice _), .neq => some (.bool false, [])
    | _, _ => none
  | _, _ => none
def eqVal (P : Program) (t : TypeId) (x y : Value) : Option Bool :=
  match P.underlying t, x, y with
  | some .bool, .bool a, .bool b => some (a == b)
  | some (.int _), .int k a, .int k' b => if k = k' then some (a == b) else none
  | some .string, .string a, .string b => some (a.toList == b.toList)
  | _, _, _ => none
def cellV (xs : List SC) (i : Nat) : Option Value :=
  match xs[i]? with
  | some (.c (.val v)) => some v
  | _ => none
def within (P : Program) (n off : Nat) (t : TypeId) : Bool :=
  match P.info? t with
  | some i => Nat.ble (off + i.size) n && Nat.blt 0 i.size
  | none => false
def leaves (P : Program) : Nat → TypeId → Nat → Option (List (Nat × TypeId))
  | 0, _, _ => none
  | d + 1, t, off =>
    match P.underlying t with
    | some (.struct fs) => bif P.stoodInHeld t then none else
      fs.toList.foldr (fun f acc => match leaves P d f.type (off + f.offset), acc with
        | some l, some r => bif f.name == "_" then none else bif within P (P.cellsOf t) f.offset f.type then some (l ++ r) else none
        | _, _ => none) (some [])
    | some (.array _ _) => none
    | some _ => some [(off, t)]
    | none => none
def eqLs (P : Program) (xs ys : List SC) : List (Nat × TypeId) → Option Bool
  | [] => some true
  | (off, t) :: r =>
    match cellV xs off, cellV ys off with
    | some x, some y => match eqVal P t x y, eqLs P xs ys r with
      | some a, some b => some (a && b)
      | _, _ => none
    | _, _ => none
def isPtr : SC → Bool
  | .pb _ _ => true
  | .pe _ _ _ => true
  | .rp _ => true
  | _ => false
def evBin (P : Program) (op : BinOp) (t : TypeId) (x y : SV) : Option Eff :=
  match x, y with
  | .one (.s (.c (.val a))), .one (.s (.c (.val b))) => match valBin P op t a b with
    | some (v, c) => some { r := mkv v, bs := c }
    | none => none
  | .one (.s (.c (.ls _ (_ :: _)))), .one (.s (.c (.val (.slice none 0 0)))) => match P.underlying t, op with
    | some (.slice _), .eql => some { r := mkv (.bool false) }
    | some (.slice _), .neq => some { r := mkv (.bool true) }
    | _, _ => none
  | .one (.agg xs), .one (.agg ys) =>
    bif P.eqGuardType P.depth t || !(isAggB P t && (P.info? t).isSome && Nat.beq xs.length (P.cellsOf t) && Nat.beq ys.length (P.cellsOf t)) then none else
    match leaves P 100 t 0 with
    | none => none
    | some ls => match eqLs P xs ys ls, op with
      | some b, .eql => some { r := mkv (.bool b) }
      | some b, .neq => some { r := mkv (.bool (!b)) }
      | _, _ => none
  | _, _ => none
def evUn (op : UnOp) (x : Value) : Option Value :=
  match op, x with
  | .not, .bool b => some (.bool (!b))
  | .neg, .int k n => some (.int k (k.wrap (0 - n)))
  | _, _ => none
def placeOf (P : Program) (fs : Array Field) (i : Nat) : Option (Nat × Nat) :=
  match fs[i]? with
  | some f => match P.info? f.type with
    | some j => some (f.offset, j.size)
    | none => none
  | none => none
def fillA (place : Nat → Option (Nat × Nat)) (cells : List SC) : List (Nat × AV) → Option (List SC)
  | [] => some cells
  | (i, v) :: r => match place i with
    | none => none
    | some (off, size) =>
      bif Nat.beq (avCells v).length size && Nat.ble (off + size) cells.length && (avCells v).all SC.scalar then fillA place (splice cells off (avCells v)) r else none
def partsOf (ρ : Operand → Option SV) : List (Nat × Operand) → Option (List (Nat × AV))
  | [] => some []
  | (i, x) :: r => match ρ x, partsOf ρ r with
    | some (.one v), some l => some ((i, v) :: l)
    | _, _ => none
def vals (cs : List Value) : List SC := cs.map fun v => .c (.val v)
def evBuild (P : Program) (t : TypeId) (parts : List (Nat × AV)) : Option Eff :=
  match P.info? t, P.underlying t with
  | some i, some (.struct fs) =>
    match i.zero with
    | some (.agg z) =>
      bif z.all Value.oneCell' && fs.all (fun f => (P.info? f.type).isSome) then
        match fillA (placeOf P fs) (vals z.toList) parts with
        | some cs => some { r := .one (.agg cs) }
        | none => none
      else none
    | _ => none
  | some i, some (.array _ e) =>
    match i.zero, P.info? e with
    | some (.agg z), some j =>
      bif z.all Value.oneCell' then
        match fillA (fun k => some (k * j.size, j.size)) (vals z.toList) parts with
        | some cs => some { r := .one (.agg cs) }
        | none => none
      else none
    | _, _ => none
  | _, _ => none
def rep (z : List SC) : Nat → List SC
  | 0 => []
  | n + 1 => z ++ rep z n
def evBuildSlice (P : Program) (t : TypeId) (id len : Nat) (parts : List (Nat × AV)) : Option Eff :=
  match elemInfo P t with
  | none => none
  | some (_, i, z) =>
    bif Nat.ble (len * i.size) 16777216 then
      match fillA (fun k => some (k * i.size, i.size)) (rep (vals z.toList) len) parts with
      | some cs => match allCV cs with
        | some xs => some { r := .one (.s (.own id)), ws := [(id, .arr i.size len (fun j => (xs.drop (j * i.size)).take i.size))] }
        | none => none
      | none => none
    else none
def ownsOf : Nat → List (Nat × AV) → Option (List Nat)
  | _, [] => some []
  | j, (i, .s (.own k)) :: r => bif Nat.beq i j then (match ownsOf (j + 1) r with
    | some l => some (k :: l)
    | none => none) else none
  | _, _ => none
def rdO : AObj → CV
  | .arr z n f => .rd z n f
  | _ => .e0
def isArrO : AObj → Bool
  | .arr _ _ _ => true
  | _ => false
def killW (ks : List Nat) : List (Nat × AObj) := ks.map fun k => (k, .dead)
def evLit (P : Program) (t : TypeId) (id : Nat) (get : Nat → AObj) (len : Nat) (ks : List Nat) : Option Eff :=
  match elemInfo P t with
  | none => none
  | some (_, i, _) =>
    bif Nat.beq i.size 1 && Nat.beq ks.length len && Nat.ble (len * i.size) 16777216 && ks.all (fun k => isArrO (get k)) then
      some { r := .one (.s (.own id)), ws := killW ks ++ [(id, .arr i.size len (fun j => ((ks.map fun k => rdO (get k)).drop (j * i.size)).take i.size))] }
    else none
def evLits (P : Program) (t : TypeId) (id : Nat) (get : Nat → AObj) (len : Nat) (l : List (Nat × AV)) : Option Eff :=
  match l, ownsOf 0 l with
  | _ :: _, some ks => evLit P t id get len ks
  | _, _ => evBuildSlice P t id len l
def evMake (P : Program) (t : TypeId) (id : Nat) (l c : Int) : Option Eff :=
  match elemInfo P t with
  | none => none
  | some (_, i, z) =>
    some { r := .one (.s (.own id)), ws := [(id, .arr i.size l.toNat (fun _ => z.toList.map .val))],
           bs := [decide (0 ≤ l ∧ l ≤ c ∧ c ≤ 9223372036854775807 ∧ c * i.bytes ≤ 140737488355328)] }
def intOpt (ρ : Operand → Option SV) : Option Operand → Option (Option Int)
  | none => some none
  | some x => match ρ x with
    | some (.one (.s (.c (.val (.int _ n))))) => some (some n)
    | _ => none
def evSlice0 (P : Program) (t : TypeId) (get : Nat → AObj) (x : SC) (lo hi mx : Option Int) : Option Eff :=
  match P.underlying t with
  | some (.slice e) =>
    match P.info? e with
    | none => none
    | some ie =>
    match mx with
    | some m => match lo, hi, lenOf x with
      | none, some h, some _ => bif (h == 0) && (m == 0) then some { r := .one (.s (.c .e0)) } else none
      | _, _, _ => none
    | none =>
      match x with
      | .sl k l len => match get k with
        | .arr z _ _ => bif Nat.beq z ie.size then
            let b : Int := match hi with | some h => h | none => (len : Int)
            match lo with
            | none => some { r := .one (.s (.sl k l b.toNat)), bs := [decide (0 ≤ b ∧ b ≤ len)] }
            | some a => some { r := .one (.s (.sl k (l + a.toNat) (b.toNat - a.toNat))), bs := [decide (0 ≤ a ∧ a ≤ b ∧ b ≤ len)] }
          else none
        | _ => none
      | .c (.rd z n f) =>
        bif Nat.beq z ie.size then
        let b : Int := match hi with | some h => h | none => (n : Int)
        match lo with
        | none => some { r := .one (.s (.c (.rd z b.toNat f))), bs := [decide (0 ≤ b ∧ b ≤ n)] }
        | some a => some { r := .one (.s (.c (.rd z (b.toNat - a.toNat) (fun i => f (a.toNat + i))))), bs := [decide (0 ≤ a ∧ a ≤ b ∧ b ≤ n)] }
        else none
      | .c (.val v) => match v, lo, hi with
        | .slice none 0 0, none, some b => bif decide (b = 0) then some { r := mkv (.slice none 0 0) } else none
        | _, _, _ => none
      | _ => none
  | some .string =>
    match x, mx with
    | .c (.val (.string s)), none =>
      let b : Int := match hi with | some h => h | none => (s.size : Int)
      let a : Int := match lo with | some h => h | none => 0
      some { r := mkv (.string (s.extract a.toNat b.toNat)), bs := [decide (0 ≤ a ∧ a ≤ b ∧ b ≤ s.size)] }
    | _, _ => none
  | _ => none
def evSlice (P : Program) (t : TypeId) (get : Nat → AObj) (x : SC) (lo hi mx : Option Int) : Option Eff := evSlice0 P t get (vw get x) lo hi mx
def evField (P : Program) (s : TypeId) (f : Nat) : Option (Nat × TypeId) :=
  match P.underlying s with
  | some (.struct fs) => match fs[f]? with
    | some fl => match P.info? fl.type with
      | some i => bif Nat.beq i.size 0 then none else some (fl.offset, fl.type)
      | none => none
    | none => none
  | _ => none
def evFieldAddr (P : Program) (s : TypeId) (x : SC) (f : Nat) : Option Eff :=
  match evField P s f with
  | none => none
  | some (o, _) => match x with
    | .pb k off => some { r := .one (.s (.pb k (off + o))) }
    | .pe k i off => some { r := .one (.s (.pe k i (off + o))) }
    | .rp cs => some { r := .one (.s (.rp (cs.drop o))) }
    | _ => none
def evIndexAddr0 (P : Program) (t : TypeId) (get : Nat → AObj) (x : SC) (i : Int) : Option Eff :=
  match P.underlying t with
  | some (.slice e) => match P.info? e with
    | none => none
    | some ie => match x with
      | .sl k lo len => match get k with
        | .arr z n _ => bif Nat.beq z ie.size then some { r := .one (.s (.pe k (lo + i.toNat) 0)), bs := [decide (0 ≤ i ∧ i < len), decide (lo + len ≤ n)] } else none
        | _ => none
      | .c (.rd z n f) => bif Nat.beq z ie.size then some { r := .one (.s (.rp (f i.toNat))), bs := [decide (0 ≤ i ∧ i < n)] } else none
      | _ => none
  | some (.array len e) => match P.info? e with
    | none => none
    | some ie => match x with
      | .pb k off => some { r := .one (.s (.pb k (off + i.toNat * ie.size))), bs := [decide (0 ≤ i ∧ i < len)] }
      | .pe k j off => some { r := .one (.s (.pe k j (off + i.toNat * ie.size))), bs := [decide (0 ≤ i ∧ i < len)] }
      | .rp cs => some { r := .one (.s (.rp (cs.drop (i.toNat * ie.size)))), bs := [decide (0 ≤ i ∧ i < len)] }
      | _ => none
  | _ => none
def evIndexAddr (P : Program) (t0 : TypeId) (get : Nat → AObj) (x : SC) (i : Int) : Option Eff :=
  match x with
  | .own k => match P.underlying t0 with
    | some (.slice e) => match P.info? e, get k with
      | some ie, .arr z n _ => bif Nat.beq z ie.size then some { r := .one (.s (.pe k i.toNat 0)), bs := [decide (0 ≤ i ∧ i < n)] } else none
      | _, _ => none
    | _ => none
  | .c (.ls t xs) => evIndexAddr0 P t0 get (.c (.rd (wd t) xs.length (fE t xs))) i
  | x => evIndexAddr0 P t0 get x i
def minI : List Value → Option Value
  | [] => none
  | .int k x :: r => r.foldl (fun acc v => match acc, v with
    | some (.int k x), .int _ y => some (.int k (if y < x then y else x))
    | _, _ => none) (some (.int k x))
  | _ => none
def maxI : List Value → Option Value
  | [] => none
  | .int k x :: r => r.foldl (fun acc v => match acc, v with
    | some (.int k x), .int _ y => some (.int k (if x < y then y else x))
    | _, _ => none) (some (.int k x))
  | _ => none
def allVals (ρ : Operand → Option SV) : List Operand → Option (List Value)
  | [] => some []
  | x :: r => match ρ x, allVals ρ r with
    | some (.one (.s (.c (.val v)))), some l => some (v :: l)
    | _, _ => none
def strLen : SV → Option Nat
  | .one (.s (.c (.val (.string s)))) => some s.size
  | _ => none
def evLen (P : Program) (get : Nat → AObj) (t : TypeId) (x : SV) : Option Eff :=
  match P.underlying t with
  | some .string => match strLen x with
    | some n => some { r := mkv (.int .i64 (n : Int)) }
    | none => none
  | some (.slice _) => match x with
    | .one (.s y) => match lenOf (vw get y) with
      | some n => some { r := mkv (.int .i64 (n : Int)) }
      | none => none
    | _ => none
  | some (.array n _) => some { r := mkv (.int .i64 (n : Int)) }
  | _ => none
def evBuiltin (P : Program) (id : Nat) (get : Nat → AObj) (ρ : Operand → Option SV) (b : Builtin) (args : List Operand) (ts : List TypeId) : Option Eff :=
  match b, args, ts with
  | .len, [x], t :: _ => match ρ x with
    | some v => evLen P get t v
    | none => none
  | .append, [s, x], [t, u] => match ρ s, ρ x, P.underlying u with
    | some (.one (.s s)), some (.one (.s x)), some (.slice _) => evAppend P t id get s x
    | some (.one (.s (.c (.val (.slice none 0 0))))), some (.one (.s (.c (.val (.int _ n))))), some (.int _) => evGrow P t id n
    | _, _, _ => none
  | .copy, [s, x], t :: _ => match ρ s, ρ x with
    | some (.one (.s s)), some (.one (.s x)) => evCopy P t get s x
    | _, _ => none
  | .clear, [s], t :: _ => match ρ s with
    | some (.one (.s s)) => evClear P t get s
    | _ => none
  | .cap, [x], t :: _ => match ρ x, P.underlying t with
    | some (.one (.s (.c (.val (.slice none 0 0))))), some (.slice _) => some { r := mkv (.int .i64 0) }
    | _, _ => none
  | .min, args, _ => match allVals ρ args with
    | some vs => match minI vs with
      | some v => some { r := mkv v }
      | none => none
    | none => none
  | .max, args, _ => match allVals ρ args with
    | some vs => match maxI vs with
      | some v => some { r := mkv v }
      | none => none
    | none => none
  | _, _, _ => none
def capsOf (ρ : Operand → Option SV) : List Operand → Option (List Nat)
  | [] => some []
  | x :: r => match ρ x, capsOf ρ r with
    | some (.one (.s (.pb k 0))), some l => some (k :: l)
    | _, _ => none
def isU8 : List CV → Bool
  | [.val (.int .u8 _)] => true
  | _ => false
def u8v : List CV → UInt8
  | [.val (.int .u8 n)] => UInt8.ofNat n.toNat
  | _ => 0
def bytesF (n : Nat) (f : Nat → List CV) : ByteArray := (List.range n).foldl (fun r i => r.push (u8v (f i))) ByteArray.empty
def evBytes (P : Program) (e : TypeId) (o : AObj) : Option Eff :=
  match o with
  | .arr z n f => match P.underlying e with
    | some (.int .u8) => bif Nat.beq z 1 then some { r := mkv (.string (bytesF n f)), bs := [(List.range n).all fun i => isU8 (f i)] } else none
    | _ => none
  | _ => none
def mapTy (P : Program) (t : TypeId) : Option Int :=
  match P.underlying t with
  | some (.map k e) => match P.underlying k, P.info? e with
    | some (.int .i64), some i => match i.zero with
      | some (.int .i64 z) => some z
      | _ => none
    | _, _ => none
  | _ => none
def evLook (P : Program) (get : Nat → AObj) (t : TypeId) (x i : Option SV) (ok : Bool) : Option Eff :=
  match mapTy P t, x, i, ok with
  | some z, some (.one (.s (.mp k))), some (.one (.s (.c (.val (.int .i64 n))))), false => match get k with
    | .mp es => some { r := mkv (.int .i64 (lookM z es n)) }
    | _ => none
  | _, _, _, _ => none
def evPut (P : Program) (get : Nat → AObj) (t : TypeId) (x i v : Option SV) : Option Eff :=
  match mapTy P t, x, i, v with
  | some _, some (.one (.s (.mp k))), some (.one (.s (.c (.val (.int .i64 n))))), some (.one (.s (.c (.val (.int .i64 u))))) => match get k with
    | .mp es => some { r := mkv undef, ws := [(k, .mp (putM es n u))] }
    | _ => none
  | _, _, _, _ => none
def evalOp (P : Program) (id : Nat) (ρ : Operand → Option SV) (get : Nat → AObj) : Op → Option Eff
  | .move x => match ρ x with
    | some v => some { r := v }
    | none => none
  | .assign x => match ρ x with
    | some v => some { r := v }
    | none => none
  | .pick c a b => match ρ c with
    | some (.one (.s (.c (.val (.bool true))))) => match ρ a with
      | some v => some { r := v }
      | none => none
    | some (.one (.s (.c (.val (.bool false))))) => match ρ b with
      | some v => some { r := v }
      | none => none
    | _ => none
  | .alloc T => match P.info? T with
    | some i => match i.zero with
      | some z => bif z.cells.all Value.oneCell' then some { r := .one (.s (.pb id 0)), ws := [(id, .box (vals z.cells.toList))] } else none
      | none => none
    | none => none
  | .box _ x => match ρ x with
    | some (.one v) => bif (avCells v).all SC.scalar then some { r := .one (.s (.pb id 0)), ws := [(id, .box (avCells v))] } else none
    | _ => none
  | .build t ps => match partsOf ρ ps.toList with
    | some l => evBuild P t l
    | none => none
  | .buildSlice t n ps => match partsOf ρ ps.toList with
    | some l => evLits P t id get n l
    | none => none
  | .load T a => match ρ a with
    | some (.one (.s p)) => evLoad P T get p
    | _ => none
  | .store T a v => match ρ a, ρ v with
    | some (.one (.s p)), some (.one v) => evStore P T get p v
    | _, _ => none
  | .nilCheck x => match ρ x with
    | some (.one (.s p)) => bif isPtr p then some { r := .one (.s p) } else none
    | _ => none
  | .binOp op t x y _ => match ρ x, ρ y with
    | some x, some y => evBin P op t x y
    | _, _ => none
  | .unOp op _ x => match ρ x with
    | some (.one (.s (.c (.val v)))) => match evUn op v with
      | some u => some { r := mkv u }
      | none => none
    | _ => none
  | .convert s d x => match P.underlying s, P.underlying d, ρ x with
    | some (.int _), some (.int k), some (.one (.s (.c (.val (.int _ n))))) => some { r := mkv (.int k (k.wrap n)) }
    | some .string, some .string, some (.one (.s (.c (.val (.string b))))) => some { r := mkv (.string b) }
    | some (.slice e), some .string, some (.one (.s (.own k))) => evBytes P e (get k)
    | _, _, _ => none
  | .makeFunc fn first caps => match fn, capsOf ρ caps.toList with
    | .func f, some ks => bif Nat.beq first.size 0 then some { r := .one (.s (.fn f ks)) } else none
    | _, _ => none
  | .makeSlice t l c => match ρ l, ρ c with
    | some (.one (.s (.c (.val (.int _ l))))), some (.one (.s (.c (.val (.int _ c))))) => evMake P t id l c
    | _, _ => none
  | .slice t x lo hi mx => match ρ x, intOpt ρ lo, intOpt ρ hi, intOpt ρ mx with
    | some (.one (.s x)), some lo, some hi, some mx => evSlice P t get x lo hi mx
    | _, _, _, _ => none
  | .fieldAddr s x f => match ρ x with
    | some (.one (.s p)) => evFieldAddr P s p f
    | _ => none
  | .field s x f => match ρ x, evField P s f with
    | some (.one (.agg cs)), some (o, t) => match loadA P t cs o with
      | some v => some { r := .one v }
      | none => none
    | _, _ => none
  | .indexAddr t x i => match ρ x, ρ i with
    | some (.one (.s p)), some (.one (.s (.c (.val (.int _ n))))) => evIndexAddr P t get p n
    | _, _ => none
  | .index t x i => match P.underlying t, ρ x, ρ i with
    | some .string, some (.one (.s (.c (.val (.string s))))), some (.one (.s (.c (.val (.int _ n))))) => some { r := mkv (.int .u8 (((s.data.toList.getD n.toNat 0).toNat : Nat) : Int)), bs := [decide (0 ≤ n ∧ n < s.size)] }
    | _, _, _ => none
  | .extract x i => match ρ x with
    | some (.tup vs) => match vs[i]? with
      | some v => some { r := .one v }
      | none => none
    | _ => none
  | .call c => match c.callee with
    | .builtin b => evBuiltin P id get ρ b c.args.toList c.argTypes.toList
    | _ => none
  | .makeMap _ none => some { r := .one (.s (.mp id)), ws := [(id, .mp [])] }
  | .lookup t x i ok => evLook P get t (ρ x) (ρ i) ok
  | .mapUpdate t x i v => evPut P get t (ρ x) (ρ i) (ρ v)
  | _ => none
end Go.AM
namespace Go.AM
open Go Go.RowKit
set_option linter.unusedVariables false
def applyWs (h : List AObj) : List (Nat × AObj) → List AObj
 | [] => h
 | (k, o) :: r => applyWs (h.set k o) r
theorem addr_add (b o n : Nat) : (⟨b, o, none⟩ : Addr).add n = ⟨b, o + n, none⟩ := by
 unfold Addr.add; split <;> simp_all
def CellsAt (w : World) (m : Locs) (M : Mu) (b off : Nat) (cs : List SC) : Prop :=
 ∀ (j : Nat) x, cs[j]? = some x → ∃ u, w.cell? ⟨b, off + j, none⟩ = some u ∧ SimS w m M x u
theorem CellsAt.drop {w : World} {m : Locs} {M : Mu} {b off : Nat} {cs : List SC} (h : CellsAt w m M b off cs) (n : Nat) : CellsAt w m M b (off + n) (cs.drop n) := by
 intro j x hx
 rw [List.getElem?_drop] at hx
 obtain ⟨u, hu, hs⟩ := h _ _ hx
 exact ⟨u, by rw [← hu, Nat.add_assoc], hs⟩
section
variable {P : Program} {w : World} {m : Locs} {M : Mu}
theorem run_loadCells_at {b off n : Nat} {cs : List SC} (h : CellsAt w m M b off cs) (hn : n ≤ cs.length) :
  ∃ vs : Array Value, (loadCells ⟨b, off, none⟩ n).run P w = .ok vs w ∧ SimL w m M (cs.take n) vs := by
 have hu : ∀ j, j < n → ∃ u, w.cell? ⟨b, off + j, none⟩ = some u ∧ ∀ x, cs[j]? = some x → SimS w m M x u := by
  intro j hj
  obtain ⟨u, hu, hs⟩ := h j cs[j] (List.getElem?_eq_getElem (by omega))
  exact ⟨u, hu, fun x hx => by rw [List.getElem?_eq_getElem (by omega)] at hx; cases hx; exact hs⟩
 let f : Nat → Value := fun j => (w.cell? ⟨b, off + j, none⟩).getD undef
 have hf : ∀ j, j < n → w.cell? ((⟨b, off, none⟩ : Addr).add j) = some (f j) := by
  intro j hj
  obtain ⟨u, hu, _⟩ := hu j hj
  rw [addr_add]; simp [f, hu]
 refine ⟨_, run_loadCells w _ n f hf, by simp; omega, fun i x hx => ?_⟩
 have hi : i < n := by
  rcases Nat.lt_or_ge i n with h' | h'
  ·exact h'
  ·rw [List.getElem?_take, if_neg (by omega)] at hx; cases hx
 obtain ⟨u, hu, hs⟩ := hu i hi
 rw [List.getElem?_take, if_pos hi] at hx
 have : (((List.range n).map f).toArray.getD i undef) = u := by
  simp [Array.getD, hi, f, hu]
 rw [this]
 exact hs x hx
theorem run_loadA {T : TypeId} {b off o : Nat} {cs : List SC} {v : AV} (h : CellsAt w m M b off cs) (hl : loadA P T cs o = some v) :
  ∃ u, (loadVar T ⟨b, off + o, none⟩).run P w = .ok u w ∧ SimA w m M v u := by
 unfold loadA at hl
 cases hu : P.underlying T with
 | none => rw [hu] at hl; cases hl
 | some d =>
  rw [hu] at hl
  simp only at hl
  cases hag : isAggB P T with
  | true =>
   rw [hag] at hl
   cases hi : P.info? T with
   | none => rw [hi] at hl; simp at hl
   | some i =>
    rw [hi] at hl
    simp only [cond_true] at hl
    split at hl
    ·rename_i hle
     cases hl
     obtain ⟨vs, hr, hs⟩ := run_loadCells_at (P := P) (n := i.size) (h.drop o) (by simp; omega)
     refine ⟨.agg vs, ?_, vs, rfl, hs⟩
     have hagg : (isAgg T).run P w = .ok true w := by
      unfold isAggB at hag; rw [hu] at hag
      unfold isAgg; simp only [Sem.run_bind, run_underlying hu, Result.andThen_ok]
      cases d <;> simp_all
     simp only [loadVar, Sem.run_bind, hagg, Result.andThen_ok, if_true, sizeOf, typeInfo, run_program, hi, Sem.run_pure, hr]
    ·cases hl
  | false =>
   rw [hag] at hl
   simp only [cond_false] at hl
   cases hx : cs[o]? with
   | none => rw [hx] at hl; cases hl
   | some x =>
    rw [hx] at hl
    cases hl
    obtain ⟨u, hu', hs⟩ := h o x hx
    refine ⟨u, ?_, hs⟩
    have hagg : (isAgg T).run P w = .ok false w := by
     unfold isAggB at hag; rw [hu] at hag
     unfold isAgg; simp only [Sem.run_bind, run_underlying hu, Result.andThen_ok]
     cases d <;> simp_all
    simp only [loadVar, Sem.run_bind, hagg, Result.andThen_ok, Bool.false_eq_true, if_false, run_load, hu']
end
section
variable {P : Program} {X : Mu} {w : World} {m : Locs} {h : List AObj}
theorem getO_eq {k : Nat} {o : AObj} (e : getO h k = o) (ho : o.live) : h[k]? = some o := by
 unfold getO at e
 cases hk : h[k]? with
 | none => rw [hk] at e; subst e; exact ho.elim
 | some x => rw [hk] at e; simp at e; rw [e]
theorem box_cells (H : HeapRel X w m h) {k : Nat} {cs : List SC} (e : getO h k = .box cs) {b : Nat} {l : Loc} (hk : m k = some l) (hb : l.blk = some b) :
  CellsAt w m (MX X m h) b 0 cs := by
 obtain ⟨l', b', T, vs, e1, e2, e3, e4, _⟩ := H.obj k _ (getO_eq e trivial)
 rw [hk] at e1; cases e1; rw [hb] at e2; cases e2
 intro j x hx
 have hj : j < cs.length := by
  rcases Nat.lt_or_ge j cs.length with h' | h'
  ·exact h'
  ·rw [List.getElem?_eq_none h'] at hx; cases hx
 refine ⟨vs.getD j undef, ?_, e4.2 j x hx⟩
 rw [cell_of_row w b _ vs T _ e3]
 have : j < vs.size := by rw [e4.1]; exact hj
 simp [Array.getD, this]
theorem arr_n (H : HeapRel X w m h) {k z n : Nat} {f : Nat → List CV} (e : getO h k = .arr z n f) {l : Loc} (hk : m k = some l) : l.n = n := by
 obtain ⟨l', e1, _, e3, _⟩ := H.obj k _ (getO_eq e trivial)
 rw [hk] at e1; cases e1; exact e3.1
theorem SimS.vw (H : HeapRel X w m h) {get : Nat → AObj} (hget : ∀ k, (get k).live → getO h k = get k) {x : SC} {v : Value} (hs : SimS w m (MX X m h) x v) : SimS w m (MX X m h) (Go.AM.vw get x) v := by
 cases x with
 | own k =>
  simp only [Go.AM.vw]
  cases hg : get k with
  | arr z n f =>
   have hg' := hget k (by rw [hg]; trivial)
   rw [hg] at hg'
   obtain ⟨l', e1, _, e3, e4, e5⟩ := H.obj k _ (getO_eq hg' trivial)
   cases hs with
   | own _ l hk =>
    rw [hk] at e1; cases e1
    rw [← e3.1]
    rw [← e3.1] at e3
    refine .sl k 0 l'.n l' _ _ hk (fun _ => ⟨rfl, rfl⟩) (fun hne => ?_) e3.2 (by omega)
    cases hb : l'.blk with
    | none => have := e4 hb; omega
    | some b => exact ⟨b, rfl, by rw [(e5 b hb).1, Nat.zero_mul]⟩
  | box cs => exact hs
  | mp es => exact hs
  | dead => exact hs
 | c y => cases y with
  | ls t xs => cases hs with | c h => cases h with | ls _ _ _ h => exact .c h
  | _ => exact hs
 | _ => exact hs
theorem arr_cells (H : HeapRel X w m h) {k z n : Nat} {f : Nat → List CV} (e : getO h k = .arr z n f) {b : Nat} {l : Loc} (hk : m k = some l) (hb : l.blk = some b) {i : Nat} (hi : i < n) :
  CellsAt w m (MX X m h) b (i * l.z) ((f i).map .c) := by
 obtain ⟨l', e1, e2, e3, _, e5⟩ := H.obj k _ (getO_eq e trivial)
 rw [hk] at e1; cases e1
 obtain ⟨e6, T, vs, e7, e8, _, e10⟩ := e5 b hb
 obtain ⟨hlen, hc⟩ := e10 i hi
 intro j x hx
 rw [List.getElem?_map] at hx
 cases hy : (f i)[j]? with
 | none => rw [hy] at hx; cases hx
 | some y =>
  rw [hy] at hx; cases hx
  have hj : j < z := by
   rw [← hlen]
   rcases Nat.lt_or_ge j (f i).length with h' | h'
   ·exact h'
   ·rw [List.getElem?_eq_none h'] at hy; cases hy
  refine ⟨vs.getD (i * z + j) undef, ?_, .c (hc j y hy)⟩
  rw [e2, cell_of_row w b _ vs T _ e7]
  have h1 : i * z + z ≤ l.cap * z := by rw [← Nat.succ_mul]; exact Nat.mul_le_mul_right _ (by omega)
  have : i * z + j < vs.size := by omega
  simp [Array.getD, this]
theorem rp_cells {cs : List CV} {b off : Nat} {M : Mu} {v : Value} (hs : SimS w m M (.rp cs) v) : ∃ b off, v = .pointer (some ⟨b, off, none⟩) ∧ CellsAt w m M b off (cs.map .c) := by
 cases hs with
 | rp _ b off c hb hs hc h =>
  refine ⟨b, off, rfl, fun j x hx => ?_⟩
  rw [List.getElem?_map] at hx
  cases hy : cs[j]? with
  | none => rw [hy] at hx; cases hx
  | some y =>
   rw [hy] at hx; cases hx
   have hj : j < cs.length := by
    rcases Nat.lt_or_ge j cs.length with h' | h'
    ·exact h'
    ·rw [List.getElem?_eq_none h'] at hy; cases hy
   exact ⟨c j, hc j hj, .c (h j y hy)⟩
theorem run_evLoad (H : HeapRel X w m h) {T : TypeId} {p : SC} {v : Value} {eff : Eff} (hp : SimS w m (MX X m h) p v) (he : evLoad P T (getO h) p = some eff) :
  ∃ u, (Instr.loadAt T v).run P w = .ok u w ∧ eff.ws = [] ∧ SimV w m (MX X m h) eff.r u := by
 unfold evLoad at he
 cases p with
 | pb k off =>
  simp only at he
  cases hg : getO h k with
  | box cs =>
   rw [hg] at he
   simp only at he
   cases hl : loadA P T cs off with
   | none => rw [hl] at he; cases he
   | some a =>
    rw [hl] at he; cases he
    cases hp with
    | pb _ _ b l hk hb =>
     obtain ⟨u, hr, hs⟩ := run_loadA (P := P) (box_cells H hg hk hb) hl
     refine ⟨u, ?_, rfl, hs⟩
     rw [Nat.zero_add] at hr
     simp only [Instr.loadAt, Instr.sureAddr, Sem.run_bind, Sem.run_pure, Result.andThen_ok, hr]
  | arr z n f => rw [hg] at he; cases he
  | mp es => rw [hg] at he; cases he
  | dead => rw [hg] at he; cases he
 | pe k i off =>
  simp only at he
  cases hg : getO h k with
  | arr z n f =>
   rw [hg] at he
   simp only at he
   cases hl : loadA P T ((f i).map .c) off with
   | none => rw [hl] at he; cases he
   | some a =>
    rw [hl] at he; cases he
    cases hp with
    | pe _ _ _ b l hk hb hi =>
     rw [arr_n H hg hk] at hi
     obtain ⟨u, hr, hs⟩ := run_loadA (P := P) (arr_cells H hg hk hb hi) hl
     refine ⟨u, ?_, rfl, hs⟩
     simp only [Instr.loadAt, Instr.sureAddr, Sem.run_bind, Sem.run_pure, Result.andThen_ok, hr]
  | box cs => rw [hg] at he; cases he
  | mp es => rw [hg] at he; cases he
  | dead => rw [hg] at he; cases he
 | rp cs =>
  simp only at he
  cases hl : loadA P T (cs.map .c) 0 with
  | none => rw [hl] at he; cases he
  | some a =>
   rw [hl] at he; cases he
   obtain ⟨b, off, rfl, hcells⟩ := rp_cells (b := 0) (off := 0) hp
   obtain ⟨u, hr, hs⟩ := run_loadA (P := P) hcells hl
   refine ⟨u, ?_, rfl, hs⟩
   simp only [Instr.loadAt, Instr.sureAddr, Sem.run_bind, Sem.run_pure, Result.andThen_ok]
   exact hr
 | c x => cases he
 | own k => cases he
 | sl k lo len => cases he
 | fn f caps => cases he
 | mp k => cases he
 | bot => cases he
theorem blk_lt (H : HeapRel X w m h) {k : Nat} {o : AObj} {l : Loc} {b : Nat} (hk : h[k]? = some o) (ho : o.live) (hm : m k = some l) (hb : l.blk = some b) : b < w.heap.size := by
 have := H.obj k o hk
 cases o with
 | dead => exact ho.elim
 | box cs =>
  obtain ⟨l', b', T, vs, e1, e2, e3, _⟩ := this
  rw [hm] at e1; cases e1; rw [hb] at e2; cases e2
  exact lt_of_block e3
 | arr z n f =>
  obtain ⟨l', e1, _, _, _, e5⟩ := this
  rw [hm] at e1; cases e1
  obtain ⟨_, T, vs, e7, _⟩ := e5 b hb
  exact lt_of_block e7
 | mp es =>
  obtain ⟨l', b', rows, clock, e1, e2, e3, _⟩ := this
  rw [hm] at e1; cases e1; rw [hb] at e2; cases e2
  exact lt_of_block e3
def setM (m : Locs) (id : Nat) (l : Loc) : Locs := fun k => if k = id then some l else m k
def killO (h : List AObj) : Option Nat → List AObj
 | some k => h.set k .dead
 | none => h
theorem killO_length (h : List AObj) (kl : Option Nat) : (killO h kl).length = h.length := by cases kl <;> simp [killO]
theorem lt_of_getElem? {α : Type} {l : List α} {i : Nat} {x : α} (h : l[i]? = some x) : i < l.length := by
 rcases Nat.lt_or_ge i l.length with h' | h'
 ·exact h'
 ·rw [List.getElem?_eq_none h'] at h; cases h
theorem Stp.make (H : HeapRel X w m h) {id : Nat} (hid : h[id]? = some .dead) (hm : m id = none) (kl : Option Nat) (l : Loc) (o : AObj) (hol : o.live) {w' : World}
  (hos : w'.os = w.os) (htape : w'.tape = w.tape) (hout : OutP w w') (hsize : w.heap.size ≤ w'.heap.size)
  (hkeep : ∀ b, b < w.heap.size → w'.heap[b]? = w.heap[b]? ∨ ∃ k ok lk, kl = some k ∧ h[k]? = some ok ∧ ok.live ∧ m k = some lk ∧ lk.blk = some b)
  (hblk : ∀ b, l.blk = some b → w.heap.size ≤ b ∨ ∃ k ok lk, kl = some k ∧ h[k]? = some ok ∧ ok.live ∧ m k = some lk ∧ lk.blk = some b)
  (hobj : Later w m (MX X m h) w' (setM m id l) (MX X (setM m id l) ((killO h kl).set id o)) → ObjAt w' (setM m id l) (MX X (setM m id l) ((killO h kl).set id o)) id o) :
  Stp X w m h w' (setM m id l) ((killO h kl).set id o) := by
 have hlt : id < h.length := lt_of_getElem? hid
 have hk' : ∀ k, kl = some k → ¬ k = id → ((killO h kl).set id o)[k]? = some .dead ∨ h.length ≤ k := by
  intro k hk hne
  subst hk
  rcases Nat.lt_or_ge k h.length with h' | h'
  ·left; simp only [killO]; rw [List.getElem?_set_ne (by omega), List.getElem?_set_self h']
  ·exact .inr h'
 have hat : ((killO h kl).set id o)[id]? = some o := by rw [List.getElem?_set_self (by rw [killO_length]; exact hlt)]
 refine H.change (fun k => k = id ∨ kl = some k) (by rw [List.length_set, killO_length]) ?_ ?_ ?_ ?_ hos htape hout hsize ?_ ?_ ?_ ?_ ?_
 ·intro k hk
  rw [List.getElem?_set_ne (by intro e; exact hk (.inl e.symm))]
  cases kl with
  | none => rfl
  | some j => simp only [killO]; rw [List.getElem?_set_ne (by intro e; exact hk (.inr (by rw [e])))]
 ·intro k l' hk
  unfold setM
  rw [if_neg (by intro e; rw [e, hm] at hk; cases hk)]; exact hk
 ·intro k hk; unfold setM; rw [if_neg (by intro e; exact hk (.inl e))]
 ·intro k hk; unfold setM; rw [if_neg (by omega)]; exact H.used k hk
 ·intro k o' l' b hk ho hl hml hb
  by_cases e : k = id
  ·subst e
   unfold setM at hml; rw [if_pos rfl] at hml; cases hml
   rcases hblk b hb with h1 | ⟨j, ok, lk, _, h2, h3, h4, h5⟩
   ·exact .inr h1
   ·exact .inl ⟨j, ok, lk, h2, h3, h4, h5⟩
  ·rcases hk with hk | hk
   ·exact absurd hk e
   ·rcases hk' k hk e with h1 | h1
    ·rw [ho] at h1; cases h1; exact hl.elim
    ·have := lt_of_getElem? ho; rw [List.length_set, killO_length] at this; omega
 ·intro b hb
  rcases hkeep b hb with h1 | ⟨j, ok, lk, h1, h2, h3, h4, h5⟩
  ·exact .inl h1
  ·refine .inr ⟨⟨j, ok, lk, h2, h3, h4, h5⟩, fun k o' l' hk ho hl hml hb' => hk (.inr ?_)⟩
   rw [h1, H.inj j k ok o' lk l' b h2 ho h3 hl h4 hml h5 hb']
 ·intro k k' o1 o2 l1 l2 b hk h1 h2 h3 h4 h5 h6 h7 h8
  have hdead : ∀ q oq, ((killO h kl).set id o)[q]? = some oq → oq.live → kl = some q → q = id := by
   intro q oq hq hlq hkl
   apply Classical.byContradiction
   intro e
   rcases hk' q hkl e with h9 | h9
   ·rw [hq] at h9; cases h9; exact hlq.elim
   ·have := lt_of_getElem? hq; rw [List.length_set, killO_length] at this; omega
  have hkid : k = id := by
   rcases hk with hk | hk
   ·exact hk
   ·exact hdead k o1 h1 h3 hk
  subst hkid
  apply Classical.byContradiction
  intro hne
  have hne' : ¬ k' = k := fun e => hne e.symm
  have hnk : ¬ kl = some k' := fun e => hne' (hdead k' o2 h2 h4 e)
  have h2' : h[k']? = some o2 := by
   rw [List.getElem?_set_ne (by omega)] at h2
   cases kl with
   | none => exact h2
   | some j => simp only [killO] at h2; rw [List.getElem?_set_ne (by intro e; exact hnk (by rw [e]))] at h2; exact h2
  have h6' : m k' = some l2 := by unfold setM at h6; rw [if_neg hne'] at h6; exact h6
  unfold setM at h5; rw [if_pos rfl] at h5; cases h5
  rcases hblk b h7 with h9 | ⟨j, ok, lk, h9, h10, h11, h12, h13⟩
  ·have := blk_lt H h2' h4 h6' h8; omega
  ·have := H.inj j k' ok o2 lk l2 b h10 h2' h11 h4 h12 h6' h13 h8
   subst this
   exact hnk h9
 ·intro k hk h1 h2
  by_cases e : k = id
  ·subst e; rw [hat] at h1; cases h1; exact hol.elim
  ·unfold setM; rw [if_neg e]; exact h2
 ·intro hL k o' hk ho
  by_cases e : k = id
  ·subst e; rw [hat] at ho; cases ho; exact hobj hL
  ·rcases hk with hk | hk
   ·exact absurd hk e
   ·rcases hk' k hk e with h1 | h1
    ·rw [ho] at h1; cases h1; trivial
    ·have := lt_of_getElem? ho; rw [List.length_set, killO_length] at this; omega
theorem Stp.write (H : HeapRel X w m h) {k : Nat} {o o' : AObj} {l : Loc} {b : Nat} (hk : h[k]? = some o) (ho : o.live) (hm : m k = some l) (hb : l.blk = some b) {w' : World}
  (hos : w'.os = w.os) (htape : w'.tape = w.tape) (hout : OutP w w') (hsize : w.heap.size ≤ w'.heap.size)
  (hkeep : ∀ c, c < w.heap.size → c ≠ b → w'.heap[c]? = w.heap[c]?)
  (hobj : Later w m (MX X m h) w' m (MX X m (h.set k o')) → ObjAt w' m (MX X m (h.set k o')) k o') :
  Stp X w m h w' m (h.set k o') := by
 have hlt : k < h.length := lt_of_getElem? hk
 have hat : (h.set k o')[k]? = some o' := List.getElem?_set_self hlt
 refine H.change (fun j => j = k) (by simp) (fun j hj => List.getElem?_set_ne (by omega)) (fun _ _ h => h) (fun _ _ => rfl) H.used hos htape hout hsize ?_ ?_ ?_ (fun _ _ _ h => h) ?_
 ·rintro j oj lj c rfl h1 h2 h3 h4
  rw [hm] at h3; cases h3; rw [hb] at h4; cases h4
  exact .inl ⟨j, o, l, hk, ho, hm, hb⟩
 ·intro c hc
  by_cases e : c = b
  ·subst e
   refine .inr ⟨⟨k, o, l, hk, ho, hm, hb⟩, fun j oj lj hj h1 h2 h3 h4 => hj (H.inj j k oj o lj l c h1 hk h2 ho h3 hm h4 hb)⟩
  ·exact .inl (hkeep c hc e)
 ·rintro j k' o1 o2 l1 l2 c rfl h1 h2 h3 h4 h5 h6 h7 h8
  rw [hm] at h5; cases h5
  by_cases e : k' = j
  ·exact e.symm
  ·rw [List.getElem?_set_ne (by omega)] at h2
   exact H.inj j k' o o2 l l2 c hk h2 ho h4 hm h6 h7 h8
 ·rintro hL j oj rfl h1
  rw [hat] at h1; cases h1; exact hobj hL
theorem splice_getElem? {α : Type} (cs : List α) (off : Nat) (xs : List α) (hl : off + xs.length ≤ cs.length) (i : Nat) :
  (splice cs off xs)[i]? = if off ≤ i ∧ i < off + xs.length then xs[i - off]? else cs[i]? := by
 unfold splice
 rcases Nat.lt_or_ge i off with h1 | h1
 ·rw [if_neg (by omega), List.getElem?_append_left (by simp; omega), List.getElem?_take, if_pos h1]
 ·rw [List.getElem?_append_right (by simp; omega)]
  have e1 : (cs.take off).length = off := by simp; omega
  rw [e1]
  rcases Nat.lt_or_ge i (off + xs.length) with h2 | h2
  ·rw [if_pos ⟨h1, h2⟩, List.getElem?_append_left (by omega)]
  ·rw [if_neg (by omega), List.getElem?_append_right (by omega), List.getElem?_drop]
   congr 1; omega
theorem splice_length {α : Type} (cs : List α) (off : Nat) (xs : List α) (hl : off + xs.length ≤ cs.length) : (splice cs off xs).length = cs.length := by
 unfold splice; simp; omega
end
end Go.AM
namespace Go.AM
open Go Go.RowKit
set_option linter.unusedVariables false
section
variable {P : Program} {X : Mu} {w : World} {m : Locs} {h : List AObj} {M : Mu}
theorem simC_rd_one {z n : Nat} {f : Nat → List CV} {v : Value} (h : SimC w M (.rd z n f) v) : v.oneCell' = true := by cases h <;> rfl
theorem SimS.one {x : SC} {v : Value} (hs : SimS w m M x v) (hx : x.scalar = true) : v.oneCell' = true := by
 cases hs with
 | c h => cases h with
  | val v => exact hx
  | ls _ _ _ h => exact simC_rd_one h
  | lsn _ _ _ h => exact simC_rd_one h
  | _ => rfl
 | bot v => cases hx
 | _ => rfl
theorem cells_of_one {v : Value} (h : v.oneCell' = true) : v.cells = #[v] := by
 cases v <;> first | rfl | cases h
theorem SimA.cells {a : AV} {v : Value} (hs : SimA w m M a v) (ha : (avCells a).all SC.scalar = true) :
  SimL w m M (avCells a) v.cells ∧ ∀ u ∈ v.cells.toList, u.oneCell' = true := by
 cases a with
 | s x =>
  have hx : x.scalar = true := by simpa [avCells] using ha
  have h1 := SimS.one hs hx
  rw [cells_of_one h1]
  refine ⟨⟨rfl, fun i y hy => ?_⟩, by simpa using h1⟩
  match i, hy with
  | 0, hy => cases hy; exact hs
  | i + 1, hy => simp [avCells] at hy
 | agg cs =>
  obtain ⟨vs, rfl, hl⟩ := hs
  refine ⟨hl, fun u hu => ?_⟩
  obtain ⟨i, hi, rfl⟩ := List.getElem_of_mem hu
  have hi' : i < vs.size := by simpa [Value.cells] using hi
  have hi2 : i < cs.length := by rw [← hl.1]; exact hi'
  have := hl.2 i cs[i] (List.getElem?_eq_getElem hi2)
  have h1 := SimS.one this (by simp only [avCells, List.all_eq_true] at ha; exact ha _ (List.getElem_mem hi2))
  simpa [Array.getD, hi', Value.cells] using h1
theorem storeVar_row {T : TypeId} {i : TypeInfo} (hi : P.info? T = some i) {b off : Nat} {cur : Array Value} {t : TypeId} {v : Value} (hg : w.heap[b]? = some (.cells cur t (0, 0)))
  (hsz : v.cells.size = i.size) (hl : off + v.cells.size ≤ cur.size) (h1 : ∀ u ∈ v.cells.toList, u.oneCell' = true) :
  (Instr.storeAt T (.pointer (some ⟨b, off, none⟩)) v).run P w = .ok () (w.setRow b (splice cur.toList off v.cells.toList).toArray) := by
 have hst := run_storeCells_at P b off t v.cells.toList 0 cur w hg (by simpa using hl) h1
 simp only [Nat.add_zero] at hst
 simp only [Instr.storeAt, Instr.sureAddr, storeVar, sizeOf, typeInfo, Sem.run_bind, Sem.run_pure, Result.andThen_ok, run_program, hi, hsz, ne_eq, not_true_eq_false, if_false]
 rw [hst]
 simp [splice, List.append_assoc]
theorem getD_toArray {l : List Value} {i : Nat} : l.toArray.getD i undef = (l[i]?).getD undef := by
 simp [Array.getD]
 by_cases hi : i < l.length <;> simp [hi]
theorem getD_arr {a : Array Value} {i : Nat} : a.getD i undef = (a.toList[i]?).getD undef := by
 simp [Array.getD]
 by_cases hi : i < a.size <;> simp [hi]
theorem one_splice {cur : List Value} {off : Nat} {vs : List Value} (hl : off + vs.length ≤ cur.length) (hc : ∀ i, i < cur.length → ((cur[i]?).getD undef).oneCell' = true) (h1 : ∀ u ∈ vs, u.oneCell' = true) :
  ∀ i, i < (splice cur off vs).toArray.size → ((splice cur off vs).toArray.getD i undef).oneCell' = true := by
 intro i hi
 rw [List.size_toArray, splice_length _ _ _ hl] at hi
 rw [getD_toArray, splice_getElem? _ _ _ hl]
 split
 ·rename_i hx
  have : i - off < vs.length := by omega
  rw [List.getElem?_eq_getElem this]
  exact h1 _ (List.getElem_mem this)
 ·exact hc i hi
theorem allCV_eq : ∀ {cs : List SC} {xs : List CV}, allCV cs = some xs → cs = xs.map .c
 | [], xs, h => by simp [allCV] at h; subst h; rfl
 | .c x :: cs, xs, h => by
  simp only [allCV] at h
  cases hr : allCV cs with
  | none => rw [hr] at h; cases h
  | some ys => rw [hr] at h; cases h; rw [allCV_eq hr]; rfl
 | .rp _ :: cs, xs, h => by simp [allCV] at h
 | .sl _ _ _ :: cs, xs, h => by simp [allCV] at h
 | .pb _ _ :: cs, xs, h => by simp [allCV] at h
 | .pe _ _ _ :: cs, xs, h => by simp [allCV] at h
 | .fn _ _ :: cs, xs, h => by simp [allCV] at h
 | .bot :: cs, xs, h => by simp [allCV] at h
theorem run_evStore (H : HeapRel X w m h) {T : TypeId} {p : SC} {a : AV} {pv v : Value} {eff : Eff} (hp : SimS w m (MX X m h) p pv) (ha : SimA w m (MX X m h) a v)
  (he : evStore P T (getO h) p a = some eff) :
  ∃ w', (Instr.storeAt T pv v).run P w = .ok () w' ∧ eff.r = mkv undef ∧ Stp X w m h w' m (applyWs h eff.ws) := by
 unfold evStore at he
 cases hi : P.info? T with
 | none => rw [hi] at he; cases he
 | some i =>
  rw [hi] at he
  simp only at he
  cases hb : (Nat.beq (avCells a).length i.size && (avCells a).all SC.scalar) with
  | false => rw [hb] at he; cases he
  | true =>
   rw [hb] at he
   simp only [cond_true] at he
   simp only [Bool.and_eq_true] at hb
   obtain ⟨hsz, hsc⟩ := hb
   have hsz := Nat.eq_of_beq_eq_true hsz
   obtain ⟨hL, h1⟩ := SimA.cells ha hsc
   have hvs : v.cells.size = i.size := by rw [hL.1]; exact hsz
   cases p with
   | pb k off =>
    simp only at he
    cases hg : getO h k with
    | box cs =>
     rw [hg] at he
     simp only at he
     cases hle : Nat.ble (off + i.size) cs.length with
     | false => rw [hle] at he; cases he
     | true =>
      rw [hle] at he; simp only [cond_true] at he; cases he
      have hle := Nat.le_of_ble_eq_true hle
      cases hp with
      | pb _ _ b l hk hbk =>
       have hget := getO_eq hg trivial
       obtain ⟨l', b', t, cur, e1, e2, e3, e4, e5⟩ := H.obj k _ hget
       rw [hk] at e1; cases e1; rw [hbk] at e2; cases e2
       have hcl : off + v.cells.size ≤ cur.size := by rw [e4.1, hvs]; exact hle
       refine ⟨_, storeVar_row hi e3 hvs hcl h1, rfl, ?_⟩
       refine Stp.write H hget trivial hk hbk rfl rfl ⟨rfl, Nat.le_refl _⟩ (by simp) (fun c _ hc => setRow_other w b c _ hc) (fun hLt => ?_)
       refine ⟨l, b, t, _, hk, hbk, setRow_heap w b cur _ t _ e3, ⟨?_, fun j x hx => ?_⟩, ?_⟩
       ·rw [List.size_toArray, splice_length _ _ _ (by simpa using hcl), splice_length _ _ _ (by rw [← hL.1, hvs]; exact hle)]
        simpa using e4.1
       ·rw [splice_getElem? _ _ _ (by rw [← hL.1, hvs]; exact hle)] at hx
        rw [getD_toArray, splice_getElem? _ _ _ (by simpa using hcl)]
        have hll : (avCells a).length = v.cells.toList.length := by rw [← hL.1]; simp
        rw [hll] at hx
        split at hx
        ·rename_i hin
         rw [if_pos hin]
         have := (hL.2 _ _ hx).later hLt
         rwa [getD_arr] at this
        ·rename_i hin
         rw [if_neg hin]
         have := (e4.2 _ _ hx).later hLt
         rwa [getD_arr] at this
       ·exact one_splice (by simpa using hcl) (fun j hj => by have := e5 j (by simpa using hj); rwa [getD_arr] at this) h1
    | arr z n f => rw [hg] at he; cases he
    | mp es => rw [hg] at he; cases he
    | dead => rw [hg] at he; cases he
   | pe k j off =>
    simp only at he
    cases hg : getO h k with
    | arr z n f =>
     rw [hg] at he
     cases hcv : allCV (avCells a) with
     | none => rw [hcv] at he; cases he
     | some xs =>
      rw [hcv] at he
      simp only at he
      cases hle : Nat.ble (off + i.size) z with
      | false => rw [hle] at he; cases he
      | true =>
       rw [hle] at he; simp only [cond_true] at he; cases he
       have hle := Nat.le_of_ble_eq_true hle
       have hxs : avCells a = xs.map .c := allCV_eq hcv
       cases hp with
       | pe _ _ _ b l hk hbk hj =>
        rw [arr_n H hg hk] at hj
        have hget := getO_eq hg trivial
        obtain ⟨l', e1, e2, e3, e4, e5⟩ := H.obj k _ hget
        rw [hk] at e1; cases e1
        obtain ⟨e6, t, cur, e7, e8, e9, e10⟩ := e5 b hbk
        subst e2
        have hjz : j * l.z + l.z ≤ l.cap * l.z := by rw [← Nat.succ_mul]; exact Nat.mul_le_mul_right _ (by omega)
        have hcl : j * l.z + off + v.cells.size ≤ cur.size := by rw [e8, hvs]; omega
        have hxl : xs.length = i.size := by rw [← hsz, hxs]; simp
        refine ⟨_, storeVar_row hi e7 hvs hcl h1, rfl, ?_⟩
        refine Stp.write H hget trivial hk hbk rfl rfl ⟨rfl, Nat.le_refl _⟩ (by simp) (fun c _ hc => setRow_other w b c _ hc) (fun hLt => ?_)
        refine ⟨l, hk, rfl, e3, e4, fun b' hb' => ?_⟩
        obtain rfl : b = b' := by rw [hbk] at hb'; exact Option.some.inj hb'
        refine ⟨e6, t, _, setRow_heap w b cur _ t _ e7, ?_, ?_, fun q hq => ?_⟩
        ·rw [List.size_toArray, splice_length _ _ _ (by simpa using hcl)]; simpa using e8
        ·exact one_splice (by simpa using hcl) (fun j hj => by have := e9 j (by simpa using hj); rwa [getD_arr] at this) h1
        ·obtain ⟨hql, hqc⟩ := e10 q hq
         have hjl := (e10 j hj).1
         unfold upd
         split
         ·rename_i hqj
          subst hqj
          refine ⟨by rw [splice_length _ _ _ (by omega)]; exact hql, fun u x hx => ?_⟩
          rw [splice_getElem? _ _ _ (by omega)] at hx
          rw [getD_toArray, splice_getElem? _ _ _ (by simpa using hcl)]
          have hvl : v.cells.toList.length = xs.length := by simp [hvs, hxl]
          rw [hvl]
          have hu : u < l.z := by
           split at hx
           ·omega
           ·rw [← hql]; exact lt_of_getElem? hx
          split at hx
          ·rename_i hin
           rw [if_pos (by omega)]
           have hs := hL.2 (u - off) (.c x) (by rw [hxs, List.getElem?_map, hx]; rfl)
           rw [getD_arr] at hs
           have e : q * l.z + u - (q * l.z + off) = u - off := by omega
           rw [e]
           cases hs.later hLt with
           | c hs => exact hs
          ·rename_i hin
           rw [if_neg (by omega)]
           have := (hqc u x hx).later hLt
           rwa [getD_arr] at this
         ·rename_i hqj
          refine ⟨hql, fun u x hx => ?_⟩
          have hu : u < l.z := by rw [← hql]; exact lt_of_getElem? hx
          rw [getD_toArray, splice_getElem? _ _ _ (by simpa using hcl)]
          have hvl : v.cells.toList.length = i.size := by simp [hvs]
          rw [hvl, if_neg ?_]
          ·have := (hqc u x hx).later hLt
           rwa [getD_arr] at this
          ·rcases Nat.lt_or_gt_of_ne hqj with h' | h'
           ·have : q * l.z + l.z ≤ j * l.z := by rw [← Nat.succ_mul]; exact Nat.mul_le_mul_right _ (by omega)
            omega
           ·have : j * l.z + l.z ≤ q * l.z := by rw [← Nat.succ_mul]; exact Nat.mul_le_mul_right _ (by omega)
            omega
    | box cs => rw [hg] at he; cases he
    | mp es => rw [hg] at he; cases he
    | dead => rw [hg] at he; cases he
   | c x => cases he
   | own k => cases he
   | rp cs => cases he
   | sl k lo len => cases he
   | fn f caps => cases he
   | mp k => cases he
   | bot => cases he
end
end Go.AM
namespace Go.AM
open Go Go.RowKit
set_option linter.unusedVariables false
inductive All2 {α β : Type} (R : α → β → Prop) : List α → List β → Prop
 | nil : All2 R [] []
 | cons {a : α} {b : β} {l : List α} {r : List β} (h : R a b) (t : All2 R l r) : All2 R (a :: l) (b :: r)
theorem alloc_new (w : World) (o : Obj) : (w.alloc o).heap[w.heap.size]? = some o := by
 show (w.heap.push o)[w.heap.size]? = _
 simp
section
variable {P : Program} {X : Mu} {w : World} {m : Locs} {h : List AObj}
theorem heap_push_old (w : World) (o : Obj) (b : Nat) (hb : b < w.heap.size) : (w.alloc o).heap[b]? = w.heap[b]? := Below.heap_alloc w o b hb
theorem Stp.newBox (H : HeapRel X w m h) {id : Nat} (hid : h[id]? = some .dead) (hm : m id = none) {cs : List SC} {vs : Array Value} (T : TypeId)
  (hL : SimL w m (MX X m h) cs vs) (h1 : ∀ i, i < vs.size → (vs.getD i undef).oneCell' = true) :
  ∃ m', Stp X w m h (w.alloc (.cells vs T)) m' (applyWs h [(id, .box cs)]) ∧ SimS (w.alloc (.cells vs T)) m' (MX X m' (applyWs h [(id, .box cs)])) (.pb id 0) (.pointer (some ⟨w.heap.size, 0, none⟩)) := by
 let l : Loc := ⟨some ⟨w.heap.size, 0, none⟩, 0, 0, some w.heap.size, 0⟩
 refine ⟨setM m id l, ?_, .pb id 0 w.heap.size l (by simp [setM]) rfl⟩
 refine Stp.make H hid hm none l (.box cs) trivial rfl rfl ⟨rfl, Nat.le_refl _⟩ (by simp) (fun b hb => .inl (heap_push_old w _ b hb)) (fun b hb => ?_) (fun hLt => ?_)
 ·cases hb; exact .inl (Nat.le_refl _)
 ·exact ⟨l, w.heap.size, T, vs, by simp [setM], rfl, alloc_new w _, hL.later hLt, h1⟩
theorem Stp.newArr (H : HeapRel X w m h) {id : Nat} (hid : h[id]? = some .dead) (hm : m id = none) {w1 : World} (hw1 : w1.heap = w.heap) (hos : w1.os = w.os) (ht : w1.tape = w.tape) (ho : OutP w w1)
  (kl : Option Nat) {z n cap : Nat} {f : Nat → List CV} {vs : Array Value} (T : TypeId)
  (hn : n ≤ cap) (hsz : vs.size = cap * z) (h1 : ∀ i, i < vs.size → (vs.getD i undef).oneCell' = true)
  (hf : ∀ i, i < n → (f i).length = z ∧ ∀ (j : Nat) x, (f i)[j]? = some x → SimC w (MX X m h) x (vs.getD (i * z + j) undef)) :
  ∃ m', Stp X w m h (w1.alloc (.cells vs T)) m' ((killO h kl).set id (.arr z n f)) ∧
   SimS (w1.alloc (.cells vs T)) m' (MX X m' ((killO h kl).set id (.arr z n f))) (.own id) (.slice (some ⟨w.heap.size, 0, none⟩) n cap) := by
 let l : Loc := ⟨some ⟨w.heap.size, 0, none⟩, cap, z, some w.heap.size, n⟩
 have hsz1 : w1.heap.size = w.heap.size := by rw [hw1]
 refine ⟨setM m id l, ?_, .own id l (by simp [setM])⟩
 refine Stp.make H hid hm kl l (.arr z n f) trivial hos ht ho (by simp [hsz1]) (fun b hb => .inl ?_) (fun b hb => ?_) (fun hLt => ?_)
 ·rw [heap_push_old w1 _ b (by rw [hsz1]; exact hb), hw1]
 ·cases hb; exact .inl (Nat.le_refl _)
 ·refine ⟨l, by simp [setM], rfl, ⟨rfl, hn⟩, (fun e => by cases e), fun b hb => ?_⟩
  cases hb
  refine ⟨rfl, T, vs, ?_, hsz, h1, fun i hi => ⟨(hf i hi).1, fun j x hx => ((hf i hi).2 j x hx).later hLt⟩⟩
  rw [← hsz1]; exact alloc_new w1 _
theorem simL_vals {M : Mu} (cs : List Value) : SimL w m M (vals cs) cs.toArray := by
 refine ⟨by simp [vals], fun i x hx => ?_⟩
 simp only [vals, List.getElem?_map] at hx
 cases hc : cs[i]? with
 | none => rw [hc] at hx; cases hx
 | some v => rw [hc] at hx; cases hx; rw [getD_toArray, hc]; exact .c (.val v)
theorem foldl_set (off : Nat) : ∀ (l : List Value) (k : Nat) (cells : Array Value), off + k + l.length ≤ cells.size →
  (l.zipIdx k).foldl (fun (cs : Array Value) (x : Value × Nat) => cs.setIfInBounds (off + x.2) x.1) cells = (splice cells.toList (off + k) l).toArray
 | [], k, cells, hl => by
  simp only [List.zipIdx_nil, List.foldl_nil]
  apply Array.ext'
  simp [splice]
 | c :: r, k, cells, hl => by
  simp only [List.length_cons] at hl
  rw [List.zipIdx_cons, List.foldl_cons]
  have ih := foldl_set off r (k + 1) (cells.setIfInBounds (off + k) c) (by simp; omega)
  rw [ih]
  congr 1
  apply List.ext_getElem?
  intro i
  rw [splice_getElem? _ _ _ (by simp; omega), splice_getElem? _ _ _ (by simp; omega)]
  simp only [Array.toList_setIfInBounds, List.length_cons]
  by_cases h1 : off + (k + 1) ≤ i ∧ i < off + (k + 1) + r.length
  ·rw [if_pos h1, if_pos (by omega)]
   have : i - (off + k) = (i - (off + (k + 1))) + 1 := by omega
   rw [this, List.getElem?_cons_succ]
  ·rw [if_neg h1]
   by_cases h2 : i = off + k
   ·subst h2
    rw [if_pos (by omega), List.getElem?_set_self (by simp; omega)]
    simp
   ·rw [if_neg (by omega), List.getElem?_set_ne (by omega)]
theorem zipIdx_foldl (v : Array Value) (off : Nat) (cells : Array Value) (hl : off + v.size ≤ cells.size) :
  (v.zipIdx.foldl (fun cs (x : Value × Nat) => cs.setIfInBounds (off + x.2) x.1) cells) = (splice cells.toList off v.toList).toArray := by
 rw [← Array.foldl_toList, Array.toList_zipIdx]
 exact foldl_set off v.toList 0 cells (by simpa using hl)
theorem fill_sim {M : Mu} {place : Nat → Option (Nat × Nat)} : ∀ {ps : List (Nat × AV)} {qs : List (Nat × Value)} {cells : List SC} {vs : Array Value} {cs' : List SC},
  All2 (fun (a : Nat × AV) (b : Nat × Value) => a.1 = b.1 ∧ SimA w m M a.2 b.2) ps qs → SimL w m M cells vs → (∀ i, i < vs.size → (vs.getD i undef).oneCell' = true) →
  fillA place cells ps = some cs' → ∃ vs', Instr.fill place vs qs = some vs' ∧ SimL w m M cs' vs' ∧ ∀ i, i < vs'.size → (vs'.getD i undef).oneCell' = true
 | _, _, cells, vs, cs', .nil, hL, h1, hf => by
  simp only [fillA, Option.some.injEq] at hf; subst hf
  exact ⟨vs, rfl, hL, h1⟩
 | (i, a) :: ps, (i', v) :: qs, cells, vs, cs', .cons ⟨hi, ha⟩ hr, hL, h1, hf => by
  simp only at hi ha; subst hi
  simp only [fillA] at hf
  cases hp : place i with
  | none => rw [hp] at hf; cases hf
  | some q =>
   obtain ⟨off, size⟩ := q
   rw [hp] at hf
   simp only at hf
   cases hb : (Nat.beq (avCells a).length size && Nat.ble (off + size) cells.length && (avCells a).all SC.scalar) with
   | false => rw [hb] at hf; cases hf
   | true =>
    rw [hb] at hf
    simp only [cond_true] at hf
    simp only [Bool.and_eq_true] at hb
    obtain ⟨⟨b1, b2⟩, b3⟩ := hb
    have b1 := Nat.eq_of_beq_eq_true b1
    have b2 := Nat.le_of_ble_eq_true b2
    obtain ⟨hc, ho⟩ := SimA.cells ha b3
    have e1 : v.cells.size = size := by rw [hc.1]; exact b1
    have hcl : off + v.cells.size ≤ vs.size := by rw [hL.1, e1]; exact b2
    have hcl' : off + (avCells a).length ≤ cells.length := by omega
    have hL' : SimL w m M (splice cells off (avCells a)) (splice vs.toList off v.cells.toList).toArray := by
     refine ⟨?_, fun j x hx => ?_⟩
     ·rw [List.size_toArray, splice_length _ _ _ (by simpa using hcl), splice_length _ _ _ hcl']; simpa using hL.1
     ·rw [splice_getElem? _ _ _ hcl'] at hx
      rw [getD_toArray, splice_getElem? _ _ _ (by simpa using hcl)]
      have hll : (avCells a).length = v.cells.toList.length := by rw [← hc.1]; simp
      rw [hll] at hx
      split at hx
      ·rename_i hin
       rw [if_pos hin]
       have := hc.2 _ _ hx
       rwa [getD_arr] at this
      ·rename_i hin
       rw [if_neg hin]
       have := hL.2 _ _ hx
       rwa [getD_arr] at this
    obtain ⟨vs', r1, r2, r3⟩ := fill_sim hr hL' (one_splice (by simpa using hcl) (fun j hj => by have := h1 j (by simpa using hj); rwa [getD_arr] at this) ho) hf
    refine ⟨vs', ?_, r2, r3⟩
    simp only [Instr.fill, hp]
    rw [if_neg (by simp [e1]; omega), zipIdx_foldl v.cells off vs hcl]
    exact r1
theorem rep_getElem? (z : List SC) : ∀ (n i : Nat), i < n * z.length → (rep z n)[i]? = z[i % z.length]?
 | 0, i, hi => by simp at hi
 | n + 1, i, hi => by
  simp only [rep]
  rcases Nat.lt_or_ge i z.length with h1 | h1
  ·rw [List.getElem?_append_left h1, Nat.mod_eq_of_lt h1]
  ·rw [List.getElem?_append_right h1, rep_getElem? z n (i - z.length) (by rw [Nat.succ_mul] at hi; omega)]
   congr 1
   rw [Nat.mod_eq_sub_mod h1]
theorem rep_length (z : List SC) : ∀ n, (rep z n).length = n * z.length
 | 0 => by simp [rep]
 | n + 1 => by simp [rep, rep_length z n, Nat.succ_mul]; omega
theorem simL_rep {M : Mu} (z : Array Value) (n : Nat) (hz : 0 < z.size) (h1 : z.all Value.oneCell' = true) :
  SimL w m M (rep (vals z.toList) n) ((Array.range (n * z.size)).map (z[· % z.size]!)) ∧
  ∀ i, i < ((Array.range (n * z.size)).map (z[· % z.size]!)).size → (((Array.range (n * z.size)).map (z[· % z.size]!)).getD i undef).oneCell' = true := by
 have hat : ∀ i, i < n * z.size → ((Array.range (n * z.size)).map (z[· % z.size]!)).getD i undef = z[i % z.size]'(Nat.mod_lt _ hz) := by
  intro i hi
  have : i % z.size < z.size := Nat.mod_lt _ hz
  simp [Array.getD, hi, this]
 refine ⟨⟨by simp [rep_length, vals], fun i x hx => ?_⟩, fun i hi => ?_⟩
 ·have hi := lt_of_getElem? hx
  rw [rep_length] at hi
  rw [rep_getElem? _ _ _ hi] at hx
  have e : (vals z.toList).length = z.size := by simp [vals]
  rw [e] at hx hi
  rw [hat i hi]
  simp only [vals, List.getElem?_map] at hx
  have hlt : i % z.size < z.size := Nat.mod_lt _ hz
  simp [hlt] at hx
  rw [← hx]
  exact .c (.val _)
 ·simp at hi
  rw [hat i hi]
  rw [Array.all_eq_true] at h1
  exact h1 _ _
end
end Go.AM
namespace Go.AM
open Go Go.RowKit
set_option linter.unusedVariables false
section
variable {P : Program} {X : Mu} {w : World} {m : Locs} {h : List AObj}
theorem run_places : ∀ (fs : List Field), (fs.all fun f => (P.info? f.type).isSome) = true →
  (fs.mapM fun f => do pure (f.offset, ← sizeOf f.type) : Sem (List (Nat × Nat))).run P w = .ok (fs.map fun f => (f.offset, P.cellsOf f.type)) w
 | [], _ => by simp
 | f :: fs, hf => by
  simp only [List.all_cons, Bool.and_eq_true] at hf
  obtain ⟨hi, hr⟩ := hf
  cases hinf : P.info? f.type with
  | none => rw [hinf] at hi; cases hi
  | some i =>
   have ih := run_places fs hr
   simp only [List.mapM_cons, Sem.run_bind, sizeOf, typeInfo, run_program, Result.andThen_ok, hinf, Sem.run_pure, Program.cellsOf, Option.map_some, Option.getD_some, List.map_cons]
   simp only [sizeOf, typeInfo, Program.cellsOf] at ih
   rw [ih]
   simp
theorem place_eq (fs : Array Field) (hf : (fs.all fun f => (P.info? f.type).isSome) = true) :
  (fun i => (fs.map fun f => (f.offset, P.cellsOf f.type))[i]?) = placeOf P fs := by
 funext i
 unfold placeOf
 rw [Array.getElem?_map]
 cases hfi : fs[i]? with
 | none => rfl
 | some f =>
  have hlt : i < fs.size := by
   rcases Nat.lt_or_ge i fs.size with h' | h'
   ·exact h'
   ·rw [Array.getElem?_eq_none h'] at hfi; cases hfi
  have := (Array.all_eq_true.1 hf) i hlt
  have e : fs[i] = f := by rw [Array.getElem?_eq_getElem hlt] at hfi; exact Option.some.inj hfi
  rw [e] at this
  cases hinf : P.info? f.type with
  | none => rw [hinf] at this; cases this
  | some j => simp [Program.cellsOf, hinf]
theorem run_zeroValue' {t : TypeId} {i : TypeInfo} {z : Value} (hi : P.info? t = some i) (hz : i.zero = some z) : (zeroValue t).run P w = .ok z w := by
 simp [zeroValue, typeInfo, hi, hz]
theorem run_sizeOf' {t : TypeId} {i : TypeInfo} (hi : P.info? t = some i) : (sizeOf t).run P w = .ok i.size w := by
 simp [sizeOf, typeInfo, hi]
theorem vals_one {z : Array Value} (hz : z.all Value.oneCell' = true) : ∀ i, i < z.toList.toArray.size → (z.toList.toArray.getD i undef).oneCell' = true := by
 intro i hi
 simp at hi
 have := (Array.all_eq_true.1 hz) i hi
 simpa [Array.getD, hi] using this
theorem run_evBuild {t : TypeId} {ps : List (Nat × AV)} {qs : Array (Nat × Value)} {eff : Eff} {M : Mu} (hq : All2 (fun (a : Nat × AV) (b : Nat × Value) => a.1 = b.1 ∧ SimA w m M a.2 b.2) ps qs.toList)
  (he : evBuild P t ps = some eff) : ∃ v, (Instr.build t qs).run P w = .ok v w ∧ eff.ws = [] ∧ eff.bs = [] ∧ SimV w m M eff.r v := by
 unfold evBuild at he
 cases hi : P.info? t with
 | none => rw [hi] at he; simp at he
 | some i =>
  cases hu : P.underlying t with
  | none => rw [hi, hu] at he; simp at he
  | some d =>
   rw [hi, hu] at he
   cases d with
   | struct fs =>
    simp only at he
    cases hz : i.zero with
    | none => rw [hz] at he; cases he
    | some zv =>
     rw [hz] at he
     cases zv with
     | agg z =>
      simp only at he
      cases hb : (z.all Value.oneCell' && fs.all (fun f => (P.info? f.type).isSome)) with
      | false => rw [hb] at he; cases he
      | true =>
       rw [hb] at he
       simp only [cond_true] at he
       simp only [Bool.and_eq_true] at hb
       cases hf : fillA (placeOf P fs) (vals z.toList) ps with
       | none => rw [hf] at he; cases he
       | some cs =>
        rw [hf] at he; cases he
        obtain ⟨vs', r1, r2, _⟩ := fill_sim hq (simL_vals z.toList) (vals_one hb.1) hf
        refine ⟨.agg vs', ?_, rfl, rfl, vs', rfl, r2⟩
        have hpl : (fs.mapM fun f => do pure (f.offset, ← sizeOf f.type) : Sem (Array (Nat × Nat))).run P w = .ok (fs.map fun f => (f.offset, P.cellsOf f.type)) w := by
         rw [Array.mapM_eq_mapM_toList, Sem.run_map, run_places fs.toList (by simpa using hb.2)]
         simp only [Result.andThen_ok]
         congr 1
         apply Array.ext'
         simp
        simp only [Instr.build, Sem.run_bind, run_zeroValue' hi hz, Result.andThen_ok, run_underlying hu, hpl, place_eq fs hb.2, Value.cells]
        have r1' : Instr.fill (placeOf P fs) z qs.toList = some vs' := by simpa using r1
        rw [r1']
        simp
     | _ => cases he
   | array n e =>
    simp only at he
    cases hz : i.zero with
    | none => rw [hz] at he; cases he
    | some zv =>
     cases hj : P.info? e with
     | none => rw [hz, hj] at he; cases zv <;> cases he
     | some j =>
      rw [hz, hj] at he
      cases zv with
      | agg z =>
       simp only at he
       cases hb : z.all Value.oneCell' with
       | false => rw [hb] at he; cases he
       | true =>
        rw [hb] at he
        simp only [cond_true] at he
        cases hf : fillA (fun k => some (k * j.size, j.size)) (vals z.toList) ps with
        | none => rw [hf] at he; cases he
        | some cs =>
         rw [hf] at he; cases he
         obtain ⟨vs', r1, r2, _⟩ := fill_sim hq (simL_vals z.toList) (vals_one hb) hf
         refine ⟨.agg vs', ?_, rfl, rfl, vs', rfl, r2⟩
         have r1' : Instr.fill (fun k => some (k * j.size, j.size)) z qs.toList = some vs' := by simpa using r1
         simp only [Instr.build, Sem.run_bind, run_zeroValue' hi hz, Result.andThen_ok, run_underlying hu, run_sizeOf' hj, Value.cells, r1', Sem.run_pure]
      | _ => cases he
   | _ => cases he
theorem elemInfo_spec {t : TypeId} {e : TypeId} {i : TypeInfo} {z : Array Value} (he : elemInfo P t = some (e, i, z)) :
  P.underlying t = some (.slice e) ∧ P.info? e = some i ∧ (∃ zv, i.zero = some zv ∧ zv.cells = z) ∧ z.size = i.size ∧ z.all Value.oneCell' = true ∧ 0 < i.size ∧ 0 < i.bytes := by
 unfold elemInfo at he
 cases hu : P.underlying t with
 | none => rw [hu] at he; cases he
 | some d =>
  rw [hu] at he
  cases d with
  | slice e' =>
   simp only at he
   cases hi : P.info? e' with
   | none => rw [hi] at he; cases he
   | some i' =>
    rw [hi] at he
    simp only at he
    cases hz : i'.zero with
    | none => rw [hz] at he; cases he
    | some zv =>
     rw [hz] at he
     simp only at he
     cases hb : (Nat.beq zv.cells.size i'.size && (zv.cells.all Value.oneCell') && Nat.blt 0 i'.size && Nat.blt 0 i'.bytes) with
     | false => rw [hb] at he; cases he
     | true =>
      rw [hb] at he
      simp only [cond_true] at he
      cases he
      simp only [Bool.and_eq_true] at hb
      refine ⟨rfl, hi, ⟨zv, hz, rfl⟩, Nat.eq_of_beq_eq_true hb.1.1.1, hb.1.1.2, ?_, ?_⟩
      ·have := hb.1.2
       simp only [Nat.blt] at this
       exact Nat.le_of_ble_eq_true this
      ·have := hb.2
       simp only [Nat.blt] at this
       exact Nat.le_of_ble_eq_true this
  | _ => cases he
theorem allCV_len {cs : List SC} {xs : List CV} (hx : allCV cs = some xs) : xs.length = cs.length := by rw [allCV_eq hx]; simp
theorem fillA_len {place : Nat → Option (Nat × Nat)} : ∀ {ps : List (Nat × AV)} {cells cs : List SC}, fillA place cells ps = some cs → cs.length = cells.length
 | [], cells, cs, h => by simp [fillA] at h; rw [h]
 | (i, a) :: ps, cells, cs, h => by
  simp only [fillA] at h
  cases hp : place i with
  | none => rw [hp] at h; cases h
  | some q =>
   rw [hp] at h
   simp only at h
   cases hb : (Nat.beq (avCells a).length q.2 && Nat.ble (q.1 + q.2) cells.length && (avCells a).all SC.scalar) with
   | false => rw [hb] at h; cases h
   | true =>
    rw [hb] at h
    simp only [cond_true] at h
    simp only [Bool.and_eq_true] at hb
    have h1 := Nat.eq_of_beq_eq_true hb.1.1
    have h2 := Nat.le_of_ble_eq_true hb.1.2
    rw [fillA_len h, splice_length _ _ _ (by omega)]
theorem run_evBuildSlice (H : HeapRel X w m h) {id : Nat} (hid : h[id]? = some .dead) (hm : m id = none) {t : TypeId} {n : Nat} {ps : List (Nat × AV)} {qs : Array (Nat × Value)} {eff : Eff}
  (hq : All2 (fun (a : Nat × AV) (b : Nat × Value) => a.1 = b.1 ∧ SimA w m (MX X m h) a.2 b.2) ps qs.toList) (he : evBuildSlice P t id n ps = some eff) :
  ∃ v w' m', (Instr.buildSlice t n qs).run P w = .ok v w' ∧ Stp X w m h w' m' (applyWs h eff.ws) ∧ SimV w' m' (MX X m' (applyWs h eff.ws)) eff.r v := by
 unfold evBuildSlice at he
 cases hei : elemInfo P t with
 | none => rw [hei] at he; cases he
 | some q =>
  obtain ⟨e, i, z⟩ := q
  rw [hei] at he
  simp only at he
  obtain ⟨hu, hi, ⟨zv, hz, hzc⟩, hzs, hz1, hpos, hbpos⟩ := elemInfo_spec hei
  cases hb : Nat.ble (n * i.size) 16777216 with
  | false => rw [hb] at he; cases he
  | true =>
   rw [hb] at he
   simp only [cond_true] at he
   have hb := Nat.le_of_ble_eq_true hb
   cases hf : fillA (fun k => some (k * i.size, i.size)) (rep (vals z.toList) n) ps with
   | none => rw [hf] at he; cases he
   | some cs =>
    rw [hf] at he
    simp only at he
    cases hx : allCV cs with
    | none => rw [hx] at he; cases he
    | some xs =>
     rw [hx] at he
     cases he
     obtain ⟨hr, hr1⟩ := simL_rep (w := w) (m := m) (M := MX X m h) z n (by omega) hz1
     obtain ⟨vs', r1, r2, r3⟩ := fill_sim hq hr hr1 hf
     have hlen : cs.length = n * i.size := by rw [fillA_len hf, rep_length]; simp [vals, hzs]
     have hcx := allCV_eq hx
     obtain ⟨m', hS, hs⟩ := Stp.newArr H hid hm (w1 := w) rfl rfl rfl (OutP.same _) none (z := i.size) (n := n) (cap := n) (f := fun j => (xs.drop (j * i.size)).take i.size) (vs := vs') e (Nat.le_refl _)
      (by rw [r2.1, hlen]) r3 (fun q hq' => by
       have hqz : q * i.size + i.size ≤ n * i.size := by rw [← Nat.succ_mul]; exact Nat.mul_le_mul_right _ (by omega)
       have hxl : xs.length = n * i.size := by rw [allCV_len hx, hlen]
       refine ⟨by simp; omega, fun j x hx' => ?_⟩
       have hj : j < i.size := by have := lt_of_getElem? hx'; simp at this; omega
       rw [List.getElem?_take, if_pos hj, List.getElem?_drop] at hx'
       have := r2.2 (q * i.size + j) (.c x) (by rw [hcx, List.getElem?_map, hx']; rfl)
       cases this with
       | c hc => exact hc)
     refine ⟨_, _, m', ?_, hS, hs⟩
     have hzero : ∀ zz : Array Value, zz = (if n * i.size = 0 then #[] else z) → ((Array.range (n * i.size)).map (zz[· % zz.size]!)) = ((Array.range (n * z.size)).map (z[· % z.size]!)) := by
      intro zz hzz
      rw [hzs]
      by_cases h0 : n * i.size = 0
      ·rw [h0]; simp
      ·rw [if_neg h0] at hzz; rw [hzz, hzs]
     simp only [Instr.buildSlice, Sem.run_bind, run_underlying hu, Result.andThen_ok, run_sizeOf' hi]
     rw [if_neg (by omega)]
     by_cases h0 : n * i.size = 0
     ·rw [if_pos h0]
      simp only [Sem.run_bind, Sem.run_pure, Result.andThen_ok]
      rw [hzero #[] (by rw [if_pos h0]), r1]
      simp [newRow]
     ·rw [if_neg h0]
      simp only [Sem.run_bind, Sem.run_pure, Result.andThen_ok, run_zeroValue' hi hz, hzc]
      rw [hzero z (by rw [if_neg h0]), r1]
      simp [newRow]
theorem run_evMake (H : HeapRel X w m h) {id : Nat} (hid : h[id]? = some .dead) (hm : m id = none) {t : TypeId} {k1 k2 : IntKind} {l c : Int} {eff : Eff}
  (he : evMake P t id l c = some eff) (hc : ∀ q ∈ eff.bs, q = true) :
  ∃ v w' m', (Instr.makeSlice t (.int k1 l) (.int k2 c)).run P w = .ok v w' ∧ Stp X w m h w' m' (applyWs h eff.ws) ∧ SimV w' m' (MX X m' (applyWs h eff.ws)) eff.r v := by
 unfold evMake at he
 cases hei : elemInfo P t with
 | none => rw [hei] at he; cases he
 | some q =>
  obtain ⟨e, i, z⟩ := q
  rw [hei] at he
  cases he
  obtain ⟨hu, hi, ⟨zv, hz, hzc⟩, hzs, hz1, hpos, hbpos⟩ := elemInfo_spec hei
  obtain ⟨c1, c2, c3, c4⟩ : 0 ≤ l ∧ l ≤ c ∧ c ≤ 9223372036854775807 ∧ c * i.bytes ≤ 140737488355328 := of_decide_eq_true (hc _ (by simp))
  obtain ⟨hr, hr1⟩ := simL_rep (w := w) (m := m) (M := MX X m h) z c.toNat (by omega) hz1
  have hat : ∀ q, q < c.toNat * z.size → ((Array.range (c.toNat * z.size)).map (z[· % z.size]!)).getD q undef = z[q % z.size]'(Nat.mod_lt _ (by omega)) := by
   intro q hq
   have : q % z.size < z.size := Nat.mod_lt _ (by omega)
   simp [Array.getD, hq, this]
  obtain ⟨m', hS, hs⟩ := Stp.newArr H hid hm (w1 := w) rfl rfl rfl (OutP.same _) none (z := i.size) (n := l.toNat) (cap := c.toNat) (f := fun _ => z.toList.map .val)
   (vs := ((Array.range (c.toNat * z.size)).map (z[· % z.size]!))) e (by omega) (by simp [hzs]) hr1 (fun q hq' => by
    refine ⟨by simp [hzs], fun j x hx => ?_⟩
    rw [List.getElem?_map] at hx
    cases hzj : z.toList[j]? with
    | none => rw [hzj] at hx; cases hx
    | some v =>
     rw [hzj] at hx; cases hx
     have hj : j < z.size := by have := lt_of_getElem? hzj; simpa using this
     have hqz : q * i.size + i.size ≤ c.toNat * i.size := by rw [← Nat.succ_mul]; exact Nat.mul_le_mul_right _ (by omega)
     rw [hat _ (by rw [hzs] at hj ⊢; omega)]
     have hmod : (q * i.size + j) % z.size = j := by rw [← hzs, Nat.mul_comm, Nat.mul_add_mod, Nat.mod_eq_of_lt hj]
     have hv : v = z[j] := by
      simp [hj] at hzj; exact hzj.symm
     have : z[(q * i.size + j) % z.size]'(Nat.mod_lt _ (by omega)) = v := by
      rw [hv]; congr 1
     rw [this]
     exact .val v)
  refine ⟨_, _, m', ?_, hS, hs⟩
  have wl : IntKind.i64.wrap l = l := IntWalk.i64_in _ (by omega)
  have wc : IntKind.i64.wrap c = c := IntWalk.i64_in _ (by omega)
  have hb : (i.bytes : Int) * c ≤ 281474976710656 := by rw [Int.mul_comm]; omega
  have hzero : ∀ zz : Array Value, zz = (if c.toNat * i.size = 0 then #[] else z) → ((Array.range (c.toNat * i.size)).map (zz[· % zz.size]!)) = ((Array.range (c.toNat * z.size)).map (z[· % z.size]!)) := by
   intro zz hzz
   rw [hzs]
   by_cases h0 : c.toNat * i.size = 0
   ·rw [h0]; simp
   ·rw [if_neg h0] at hzz; rw [hzz, hzs]
  have hti : (typeInfo e).run P w = .ok i w := by simp [typeInfo, hi]
  simp only [Instr.makeSlice, Sem.run_bind, run_underlying hu, Result.andThen_ok, asInt, asIntOf, Sem.run_pure, hti, wl, wc]
  rw [if_neg (by simp; omega)]
  simp only [Sem.run_bind, Result.andThen_ok, run_askRoom, run_sizeOf' hi]
  by_cases h0 : c.toNat * i.size = 0
  ·rw [if_pos h0]
   simp only [Sem.run_bind, Sem.run_pure, Result.andThen_ok]
   rw [hzero #[] (by rw [if_pos h0])]
   simp [newRow]
  ·rw [if_neg h0]
   simp only [Sem.run_bind, Sem.run_pure, Result.andThen_ok, run_zeroValue' hi hz, hzc]
   rw [hzero z (by rw [if_neg h0])]
   simp [newRow]
end
end Go.AM
namespace Go.AM
open Go Go.RowKit
set_option linter.unusedVariables false
set_option linter.unusedSimpArgs false
section
variable {P : Program} {X : Mu} {w : World} {m : Locs} {h : List AObj}
def Src (w : World) (M : Mu) (z k : Nat) (g : Nat → List CV) (v : Value) (news : List Value) : Prop :=
 (∃ a c, v = .slice a k c ∧ (k = 0 ∨ ∃ b off, a = some ⟨b, off, none⟩ ∧ ∀ (j : Nat) u, news[j]? = some u → w.cell? ⟨b, off + j, none⟩ = some u)) ∧
 news.length = k * z ∧ (∀ u ∈ news, u.oneCell' = true) ∧ ∀ i, i < k → (g i).length = z ∧ ∀ (j : Nat) x, (g i)[j]? = some x → SimC w M x ((news[i * z + j]?).getD undef)
theorem src_zero {w : World} {M : Mu} {z : Nat} {g : Nat → List CV} {a : Option Addr} {c : Nat} : Src w M z 0 g (.slice a 0 c) [] :=
 ⟨⟨a, c, rfl, .inl rfl⟩, by simp, by simp, fun i hi => by omega⟩
theorem rows_of (f : Nat → Value) (n : Nat) (j : Nat) (hj : j < n) : (((List.range n).map f)[j]?).getD undef = f j := by
 simp [hj]
theorem srcOf0_spec (H : HeapRel X w m h) {z k : Nat} {g : Nat → List CV} {cs : List Bool} {x : SC} {v : Value} (hx : SimS w m (MX X m h) x v)
  (hs : srcOf0 z (getO h) x = some (k, g, cs)) (hc : ∀ q ∈ cs, q = true) : ∃ news, Src w (MX X m h) z k g v news := by
 unfold srcOf0 at hs
 cases x with
 | sl k' lo len =>
  simp only at hs
  cases hg : getO h k' with
  | arr z' n f =>
   rw [hg] at hs
   simp only at hs
   cases hb : Nat.beq z z' with
   | false => rw [hb] at hs; cases hs
   | true =>
    rw [hb] at hs
    have hb := Nat.eq_of_beq_eq_true hb
    subst hb
    simp only [cond_true] at hs
    cases hs
    have hle : lo + k ≤ n := of_decide_eq_true (hc _ (by simp))
    cases hx with
    | sl _ _ _ l a c hk h0 h1 h2 h3 =>
     by_cases hk0 : k = 0
     ·subst hk0; exact ⟨[], src_zero⟩
     ·obtain ⟨b, hb, ha⟩ := h1 hk0
      obtain ⟨l', e1, e2, e3, e4, e5⟩ := H.obj k' _ (getO_eq hg trivial)
      rw [hk] at e1; cases e1
      obtain ⟨e6, T, vs, e7, e8, e9, e10⟩ := e5 b hb
      subst e2
      have hz : (lo + k) * l.z ≤ vs.size := by rw [e8]; exact Nat.mul_le_mul_right _ (by omega)
      rw [Nat.add_mul] at hz
      refine ⟨(List.range (k * l.z)).map (fun j => vs.getD (lo * l.z + j) undef), ⟨a, c, rfl, .inr ⟨b, lo * l.z, ha, fun j u hu => ?_⟩⟩, by simp, fun u hu => ?_, fun i hi => ?_⟩
      ·have hj : j < k * l.z := by have := lt_of_getElem? hu; simpa using this
       simp [hj] at hu
       rw [cell_of_row w b _ vs T _ e7]
       have : lo * l.z + j < vs.size := by omega
       simp [Array.getD, this] at hu ⊢
       exact hu
      ·simp only [List.mem_map, List.mem_range] at hu
       obtain ⟨j, hj, rfl⟩ := hu
       exact e9 _ (by omega)
      ·obtain ⟨q1, q2⟩ := e10 (lo + i) (by omega)
       refine ⟨q1, fun j y hy => ?_⟩
       have hj : j < l.z := by rw [← q1]; exact lt_of_getElem? hy
       have hiz : i * l.z + l.z ≤ k * l.z := by rw [← Nat.succ_mul]; exact Nat.mul_le_mul_right _ (by omega)
       rw [rows_of _ _ _ (by omega)]
       have := q2 j y hy
       rw [Nat.add_mul] at this
       rw [← Nat.add_assoc]
       exact this
  | box cs => rw [hg] at hs; cases hs
  | mp es => rw [hg] at hs; cases hs
  | dead => rw [hg] at hs; cases hs
 | c x =>
  simp only [srcC] at hs
  cases x with
  | rd z' n f =>
   simp only at hs
   cases hb : Nat.beq z z' with
   | false => rw [hb] at hs; cases hs
   | true =>
    rw [hb] at hs
    have hb := Nat.eq_of_beq_eq_true hb
    subst hb
    simp only [cond_true] at hs
    cases hs
    cases hx with
    | c hx =>
     cases hx with
     | rd0 _ _ a cap => exact ⟨[], src_zero⟩
     | rd _ _ _ b off cap c hb hs hn hl hcell h1 hsim =>
      refine ⟨(List.range (k * z)).map c, ⟨_, cap, rfl, .inr ⟨b, off, rfl, fun j u hu => ?_⟩⟩, by simp, fun u hu => ?_, fun i hi => ⟨hl i hi, fun j y hy => ?_⟩⟩
      ·have hj : j < k * z := by have := lt_of_getElem? hu; simpa using this
       simp [hj] at hu
       rw [hcell j hj, hu]
      ·simp only [List.mem_map, List.mem_range] at hu
       obtain ⟨j, hj, rfl⟩ := hu
       exact h1 j hj
      ·have hj : j < z := by rw [← hl i hi]; exact lt_of_getElem? hy
       have hiz : i * z + z ≤ k * z := by rw [← Nat.succ_mul]; exact Nat.mul_le_mul_right _ (by omega)
       rw [rows_of _ _ _ (by omega)]
       exact hsim i j y hi hy
  | e0 =>
   simp only at hs
   cases hs
   cases hx with
   | c hx => cases hx with
    | e0 a => exact ⟨[], src_zero⟩
  | val u =>
   cases hx with
   | c hx =>
    cases hx
    cases v with
    | slice a n c =>
     cases a with
     | none =>
      cases n with
      | zero => simp only at hs; cases hs; exact ⟨[], src_zero⟩
      | succ n => cases hs
     | some a => cases hs
    | _ => cases hs
  | ls t xs => cases hs
  | lsn t xs => cases hs
 | _ => cases hs
theorem run_first (z k : Nat) {g : Nat → List CV} {v : Value} {news : List Value} {M : Mu} (hs : Src w M z k g v news) {w1 : World} (hw : w1.heap = w.heap) :
  (Builtin.firstCells z k v).run P w1 = .ok news.toArray w1 := by
 obtain ⟨⟨a, c, rfl, ha⟩, hl, _⟩ := hs
 rcases ha with rfl | ⟨b, off, rfl, hn⟩
 ·have : news = [] := List.eq_nil_of_length_eq_zero (by simpa using hl)
  subst this
  cases a <;> simp [Builtin.firstCells, loadCells, loadCellsFrom]
 ·refine run_firstCells_some w1 z k ⟨b, off, none⟩ k c news hl (fun j v hv => ?_)
  rw [addr_add]
  have : w1.cell? ⟨b, off + j, none⟩ = w.cell? ⟨b, off + j, none⟩ := World.cell?_of_block (by rw [hw])
  rw [this]; exact hn j v hv
theorem lenOf_src (z k : Nat) {g : Nat → List CV} {v : Value} {news : List Value} {M : Mu} (hs : Src w M z k g v news) {w1 : World} : (Builtin.lenOf v).run P w1 = .ok k w1 := by
 obtain ⟨⟨a, c, rfl, ha⟩, _⟩ := hs
 simp [Builtin.lenOf]
theorem run_grow {t u e : TypeId} {i : TypeInfo} {zv : Value} {ty : TypeId} (hu : P.underlying t = some (.slice e)) {e' : TypeId} (hu' : P.underlying u = some (.slice e')) (hi : P.info? e = some i) (hz : i.zero = some zv)
  {base : Option Addr} {n cap k : Nat} {x : Value} {olds news : List Value} {g : Nat → List CV} {M : Mu} (hs : Src w M i.size k g x news)
  (ho : ∀ w1 : World, w1.heap = w.heap → (Builtin.firstCells i.size n (.slice base n cap)).run P w1 = .ok olds.toArray w1)
  (hgr : cap < n + k) (h63 : n + k ≤ 9223372036854775807) (hfit : Builtin.nextslicecap (n + k) cap * i.bytes ≤ 281474976710656) :
  (Builtin.append_ #[t, u] ty #[.slice base n cap, x]).run P w =
   .ok (.slice (some ⟨w.heap.size, 0, none⟩) (n + k) (grownCap w (n + k) cap e))
    (w.drew.alloc (.cells (olds.toArray ++ news.toArray ++ Builtin.zeroCells zv.cells (grownCap w (n + k) cap e - (n + k))) e)) := by
 have hn : ¬ (n + k ≤ cap) := by omega
 have h63' : ¬ (9223372036854775807 < ((n : Int) + (k : Int))) := by omega
 have h48' : ¬ (281474976710656 < Builtin.nextslicecap (n + k) cap * i.bytes) := by omega
 have hf := run_first (P := P) i.size k hs (w1 := w.drew) rfl
 have hfo := ho w.drew rfl
 have hl := lenOf_src (P := P) i.size k hs (w1 := w)
 simp [Builtin.append_, run_underlying hu, run_underlying hu', sizeOf, typeInfo, zeroValue, hi, hz, hl, hn, h63', h48', Question.forced, hf, hfo, newRow, grownCap]
 congr 2
 apply Array.ext'
 simp [List.append_assoc]
theorem run_room {t u e : TypeId} {i : TypeInfo} {ty : TypeId} (hu : P.underlying t = some (.slice e)) {e' : TypeId} (hu' : P.underlying u = some (.slice e')) (hi : P.info? e = some i)
  {b n cap k : Nat} {x : Value} {news : List Value} {g : Nat → List CV} {M : Mu} (hs : Src w M i.size k g x news) {cur : Array Value} {T : TypeId} (hg : w.heap[b]? = some (.cells cur T (0, 0)))
  (hroom : n + k ≤ cap) (hfit : n * i.size + news.length ≤ cur.size) :
  (Builtin.append_ #[t, u] ty #[.slice (some ⟨b, 0, none⟩) n cap, x]).run P w =
   .ok (.slice (some ⟨b, 0, none⟩) (n + k) cap) (w.setRow b (splice cur.toList (n * i.size) news).toArray) := by
 have hf := run_first (P := P) i.size k hs (w1 := w) rfl
 have hl := lenOf_src (P := P) i.size k hs (w1 := w)
 have hst := run_storeCells_at P b (n * i.size) T news 0 cur w hg (by simpa using hfit) hs.2.2.1
 simp only [Nat.add_zero] at hst
 simp [Builtin.append_, run_underlying hu, run_underlying hu', sizeOf, typeInfo, hi, hl, hroom, hf, Addr.add_lit, hst, splice, List.append_assoc]
theorem run_none {t u e : TypeId} {i : TypeInfo} {ty : TypeId} (hu : P.underlying t = some (.slice e)) {e' : TypeId} (hu' : P.underlying u = some (.slice e')) (hi : P.info? e = some i)
  {base : Option Addr} {x : Value} {news : List Value} {g : Nat → List CV} {M : Mu} (hs : Src w M i.size 0 g x news) :
  (Builtin.append_ #[t, u] ty #[.slice base 0 0, x]).run P w = .ok (.slice base 0 0) w := by
 have hf := run_first (P := P) i.size 0 hs (w1 := w) rfl
 have hl := lenOf_src (P := P) i.size 0 hs (w1 := w)
 have hn : news = [] := List.eq_nil_of_length_eq_zero (by simpa using hs.2.1)
 subst hn
 cases base <;> simp [Builtin.append_, run_underlying hu, run_underlying hu', sizeOf, typeInfo, hi, hl, hf, storeCells]
theorem dstOf_spec (H : HeapRel X w m h) {z n : Nat} {f : Nat → List CV} {cs : List Bool} {ws : List (Nat × AObj)} {s : SC} {v : Value} (hs : SimS w m (MX X m h) s v)
  (hd : dstOf z (getO h) s = some (n, f, cs, ws)) (hc : ∀ q ∈ cs, q = true) :
  ∃ base cap kl, v = .slice base n cap ∧ (∀ id o, applyWs h (ws ++ [(id, o)]) = (killO h kl).set id o) ∧
   ((n = 0 ∧ cap = 0) ∨ ∃ k ok l b T vs, kl = some k ∧ h[k]? = some ok ∧ ok.live ∧ m k = some l ∧ l.blk = some b ∧ l.cap = cap ∧ l.z = z ∧ l.base = base ∧ base = some ⟨b, 0, none⟩ ∧ n ≤ cap ∧
    w.heap[b]? = some (.cells vs T (0, 0)) ∧ vs.size = cap * z ∧ (∀ i, i < vs.size → (vs.getD i undef).oneCell' = true) ∧
    ∀ i, i < n → (f i).length = z ∧ ∀ (j : Nat) x, (f i)[j]? = some x → SimC w (MX X m h) x (vs.getD (i * z + j) undef)) := by
 unfold dstOf at hd
 cases s with
 | own k =>
   simp only at hd
   cases hg : getO h k with
   | arr z' n' f' =>
    rw [hg] at hd
    simp only at hd
    cases hb : Nat.beq z z' with
    | false => rw [hb] at hd; cases hd
    | true =>
     rw [hb] at hd
     have hb := Nat.eq_of_beq_eq_true hb
     subst hb
     simp only [cond_true] at hd
     cases hd
     cases hs with
     | own _ l hk =>
      have hln := arr_n H hg hk
      have hget := getO_eq hg trivial
      obtain ⟨l', e1, e2, e3, e4, e5⟩ := H.obj k _ hget
      rw [hk] at e1; cases e1
      refine ⟨l.base, l.cap, some k, by rw [hln], fun id o => rfl, ?_⟩
      cases hbl : l.blk with
      | none => left; have := e4 hbl; omega
      | some b =>
       right
       obtain ⟨e6, T, vs, e7, e8, e9, e10⟩ := e5 b hbl
       refine ⟨k, _, l, b, T, vs, rfl, hget, trivial, hk, hbl, rfl, e2, rfl, e6, e3.2, e7, e8, e9, e10⟩
   | box cs => rw [hg] at hd; cases hd
   | mp es => rw [hg] at hd; cases hd
   | dead => rw [hg] at hd; cases hd
 | c x =>
  simp only [dstC] at hd
  cases x with
  | e0 =>
   simp only at hd
   cases hd
   cases hs with
   | c hs => cases hs with
    | e0 a => exact ⟨a, 0, none, rfl, fun _ _ => rfl, .inl ⟨rfl, rfl⟩⟩
  | val u =>
   cases hs with
   | c hs =>
    cases hs
    cases v with
    | slice a n' c =>
     cases a with
     | none =>
      cases n' with
      | zero => cases c with
       | zero => simp only at hd; cases hd; exact ⟨none, 0, none, rfl, fun _ _ => rfl, .inl ⟨rfl, rfl⟩⟩
       | succ c => cases hd
      | succ n' => cases hd
     | some a => cases hd
    | _ => cases hd
  | rd z n f => cases hd
  | ls t xs => cases hd
  | lsn t xs => cases hd
 | _ => cases hd
theorem srcOf_spec (H : HeapRel X w m h) {z k : Nat} {g : Nat → List CV} {cs : List Bool} {x : SC} {v : Value} (hx : SimS w m (MX X m h) x v)
  (hs : srcOf z (getO h) x = some (k, g, cs)) (hc : ∀ q ∈ cs, q = true) : ∃ news, Src w (MX X m h) z k g v news := by
 unfold srcOf at hs
 have hv := SimS.vw H (get := getO h) (fun _ _ => rfl) hx
 split at hs
 ·rename_i j
  split at hs
  ·rename_i z' n f hg
   cases hb : Nat.beq z z' with
   | false => rw [hb] at hs; cases hs
   | true =>
    rw [hb] at hs
    simp only [cond_true] at hs
    cases hs
    simp only [Go.AM.vw, hg] at hv
    have := srcOf0_spec (z := z) (k := k) (cs := [decide (0 + k ≤ k)]) (g := fun i => g (0 + i)) H hv (by simp only [srcOf0, hg, hb, cond_true]) (by simp)
    simpa using this
  ·cases hs
 ·rename_i t xs
  cases hb : Nat.beq z (wd t) with
  | false => rw [hb] at hs; cases hs
  | true =>
   rw [hb] at hs
   simp only [cond_true] at hs
   cases hs
   simp only [Go.AM.vw] at hv
   exact srcOf0_spec (cs := []) H hv (by simp only [srcOf0, srcC, hb, cond_true]) (by simp)
 ·exact srcOf0_spec H hx hs hc
theorem app_sim {M : Mu} {n k z : Nat} {f g : Nat → List CV} {vs : List Value} (hf : ∀ i, i < n → (f i).length = z ∧ ∀ (j : Nat) x, (f i)[j]? = some x → SimC w M x ((vs[i * z + j]?).getD undef))
  (hg : ∀ i, i < k → (g i).length = z ∧ ∀ (j : Nat) x, (g i)[j]? = some x → SimC w M x ((vs[(n + i) * z + j]?).getD undef)) :
  ∀ i, i < n + k → (app n f g i).length = z ∧ ∀ (j : Nat) x, (app n f g i)[j]? = some x → SimC w M x ((vs[i * z + j]?).getD undef) := by
 intro i hi
 unfold app
 split
 ·rename_i h; exact hf i h
 ·rename_i h
  have := hg (i - n) (by omega)
  rw [show n + (i - n) = i by omega] at this
  exact this
theorem run_evAppend (H : HeapRel X w m h) {id : Nat} (hid : h[id]? = some .dead) (hm : m id = none) {t u ty : TypeId} {e' : TypeId} (hu' : P.underlying u = some (.slice e')) {s x : SC} {sv xv : Value} {eff : Eff}
  (hs : SimS w m (MX X m h) s sv) (hx : SimS w m (MX X m h) x xv) (he : evAppend P t id (getO h) s x = some eff) (hc : ∀ q ∈ eff.bs, q = true) :
  ∃ v w' m', (Builtin.append_ #[t, u] ty #[sv, xv]).run P w = .ok v w' ∧ Stp X w m h w' m' (applyWs h eff.ws) ∧ SimV w' m' (MX X m' (applyWs h eff.ws)) eff.r v := by
 unfold evAppend at he
 cases hei : elemInfo P t with
 | none => rw [hei] at he; cases he
 | some q =>
  obtain ⟨e, i, z⟩ := q
  rw [hei] at he
  simp only at he
  obtain ⟨hu, hi, ⟨zv, hz, hzc⟩, hzs, hz1, hpos, hbpos⟩ := elemInfo_spec hei
  cases hd : dstOf i.size (getO h) s with
  | none => rw [hd] at he; cases he
  | some q =>
   obtain ⟨n, f, c1, w1⟩ := q
   cases hsr : srcOf i.size (getO h) x with
   | none => rw [hd, hsr] at he; cases he
   | some q =>
    obtain ⟨k, g, c2⟩ := q
    rw [hd, hsr] at he
    cases he
    obtain ⟨news, hS⟩ := srcOf_spec H hx hsr (fun q hq => hc q (by simp [hq]))
    obtain ⟨base, cap, kl, rfl, hap, hD⟩ := dstOf_spec H hs hd (fun q hq => hc q (by simp [hq]))
    have hbytes : (n + k) * i.bytes ≤ 140737488355328 := of_decide_eq_true (hc _ (by simp))
    have h63 : n + k ≤ 9223372036854775807 := by
     have : (n + k) * 1 ≤ (n + k) * i.bytes := Nat.mul_le_mul_left _ hbpos
     omega
    have hnl : news.length = k * i.size := hS.2.1
    simp only [hap]
    by_cases hroom : n + k ≤ cap
    ·rcases hD with ⟨h0, h00⟩ | ⟨kk, ok, l, b, T, vs, rfl, g1, g2, g3, g4, g5, g6, g7, g8, g9, g10, g11, g12, g13⟩
     ·have hk0 : k = 0 := by omega
      subst hk0; subst h0; subst h00
      let l : Loc := ⟨base, 0, i.size, none, 0⟩
      refine ⟨_, w, setM m id l, run_none hu hu' hi hS, ?_, ?_⟩
      ·refine Stp.make H hid hm kl l _ (by exact trivial) rfl rfl (OutP.same _) (Nat.le_refl _) (fun b hb => .inl rfl) (fun b hb => by cases hb) (fun hLt => ?_)
       exact ⟨l, by simp [setM], rfl, ⟨rfl, Nat.le_refl _⟩, fun _ => rfl, fun b hb => by cases hb⟩
      ·exact .own id l (if_pos rfl)
     ·subst g8
      have hfit : n * i.size + news.length ≤ vs.size := by rw [hnl, g11, ← Nat.add_mul]; exact Nat.mul_le_mul_right _ hroom
      refine ⟨_, _, setM m id { l with n := n + k }, run_room hu hu' hi hS g10 hroom hfit, ?_, ?_⟩
      ·refine Stp.make H hid hm (some kk) { l with n := n + k } _ (by exact trivial) rfl rfl ⟨rfl, Nat.le_refl _⟩ (by simp) (fun c hcb => ?_) (fun c hcb => ?_) (fun hLt => ?_)
       ·by_cases hcc : c = b
        ·subst hcc; exact .inr ⟨kk, ok, l, rfl, g1, g2, g3, g4⟩
        ·exact .inl (setRow_other w b c _ hcc)
       ·have hcb : l.blk = some c := hcb
        rw [g4] at hcb; cases hcb
        exact .inr ⟨kk, ok, l, rfl, g1, g2, g3, g4⟩
       ·refine ⟨{ l with n := n + k }, if_pos rfl, g6, ⟨rfl, by show n + k ≤ l.cap; omega⟩, fun hh => (by have hh : l.blk = none := hh; rw [g4] at hh; cases hh), fun c hcb => ?_⟩
        have hcb : l.blk = some c := hcb
        obtain rfl : b = c := by rw [g4] at hcb; exact Option.some.inj hcb
        refine ⟨g7, T, _, setRow_heap w b vs _ T _ g10, ?_, ?_, ?_⟩
        ·rw [List.size_toArray, splice_length _ _ _ (by simpa using hfit), g5]; simpa using g11
        ·exact one_splice (by simpa using hfit) (fun j hj => by have := g12 j (by simpa using hj); rwa [getD_arr] at this) hS.2.2.1
        ·simp only [getD_toArray]
         refine app_sim (fun q hq => ?_) (fun q hq => ?_)
         ·obtain ⟨p1, p2⟩ := g13 q hq
          refine ⟨p1, fun j y hy => ?_⟩
          have hj : j < i.size := by rw [← p1]; exact lt_of_getElem? hy
          have hqz : q * i.size + i.size ≤ n * i.size := by rw [← Nat.succ_mul]; exact Nat.mul_le_mul_right _ (by omega)
          rw [splice_getElem? _ _ _ (by simpa using hfit), if_neg (by omega)]
          have := (p2 j y hy).later hLt
          rwa [getD_arr] at this
         ·obtain ⟨p1, p2⟩ := hS.2.2.2 q hq
          refine ⟨p1, fun j y hy => ?_⟩
          have hj : j < i.size := by rw [← p1]; exact lt_of_getElem? hy
          have hqz : q * i.size + i.size ≤ k * i.size := by rw [← Nat.succ_mul]; exact Nat.mul_le_mul_right _ (by omega)
          rw [splice_getElem? _ _ _ (by simpa using hfit), Nat.add_mul, if_pos (by omega)]
          have e : n * i.size + q * i.size + j - n * i.size = q * i.size + j := by omega
          rw [e]
          exact (p2 j y hy).later hLt
      ·show SimS _ (setM m id { l with n := n + k }) _ (.own id) _
       rw [← g7, ← g5]
       exact .own id { l with n := n + k } (if_pos rfl)
    ·have hgrow : cap < n + k := by omega
     have hfit := growslice_fits hgrow hbytes
     obtain ⟨olds, ho1, ho2, ho3, ho4⟩ : ∃ olds : List Value, olds.length = n * i.size ∧ (∀ u ∈ olds, u.oneCell' = true) ∧
       (∀ w1 : World, w1.heap = w.heap → (Builtin.firstCells i.size n (.slice base n cap)).run P w1 = .ok olds.toArray w1) ∧
       ∀ q, q < n → (f q).length = i.size ∧ ∀ (j : Nat) x, (f q)[j]? = some x → SimC w (MX X m h) x ((olds[q * i.size + j]?).getD undef) := by
      rcases hD with ⟨h0, h00⟩ | ⟨kk, ok, l, b, T, vs, rfl, g1, g2, g3, g4, g5, g6, g7, g8, g9, g10, g11, g12, g13⟩
      ·subst h0
       refine ⟨[], by simp, by simp, fun w1 _ => ?_, fun q hq => by omega⟩
       cases base <;> simp [Builtin.firstCells, loadCells, loadCellsFrom]
      ·subst g8
       have hle : n * i.size ≤ vs.size := by rw [g11]; exact Nat.mul_le_mul_right _ g9
       refine ⟨vs.toList.take (n * i.size), by simp; omega, fun u hu => ?_, fun w1 hw1 => ?_, fun q hq => ?_⟩
       ·obtain ⟨j, hj, rfl⟩ := List.getElem_of_mem hu
        have hj' : j < n * i.size := by simp at hj; omega
        have := g12 j (by omega)
        rw [getD_arr] at this
        rw [List.getElem_take]
        have hj2 : j < vs.toList.length := by simp; omega
        rw [List.getElem?_eq_getElem hj2] at this
        exact this
       ·refine run_firstCells_some w1 i.size n ⟨b, 0, none⟩ n cap _ (by simp; omega) (fun j v hv => ?_)
        rw [addr_add]
        have hj : j < n * i.size := by have := lt_of_getElem? hv; simp at this; omega
        rw [cell_of_row w1 b _ vs T _ (by rw [hw1]; exact g10)]
        rw [List.getElem?_take, if_pos hj] at hv
        simpa using hv
       ·obtain ⟨p1, p2⟩ := g13 q hq
        refine ⟨p1, fun j y hy => ?_⟩
        have hj : j < i.size := by rw [← p1]; exact lt_of_getElem? hy
        have hqz : q * i.size + i.size ≤ n * i.size := by rw [← Nat.succ_mul]; exact Nat.mul_le_mul_right _ (by omega)
        rw [List.getElem?_take, if_pos (by omega)]
        have := p2 j y hy
        rwa [getD_arr] at this
     have hrun := run_grow (ty := ty) hu hu' hi hz hS ho3 hgrow h63 hfit
     have hge := grownCap_ge w (n + k) cap e
     generalize grownCap w (n + k) cap e = nc at hrun hge
     have hsz : (olds.toArray ++ news.toArray ++ Builtin.zeroCells zv.cells (nc - (n + k))).size = nc * i.size := by
      simp only [Array.size_append, List.size_toArray, size_zeroCells, hzc, hzs, ho1, hnl, ← Nat.add_mul]
      congr 1; omega
     have htl : (olds.toArray ++ news.toArray ++ Builtin.zeroCells zv.cells (nc - (n + k))).toList = olds ++ (news ++ (Builtin.zeroCells zv.cells (nc - (n + k))).toList) := by simp
     obtain ⟨m', hSt, hsim⟩ := Stp.newArr H hid hm (w1 := w.drew) rfl rfl rfl ⟨rfl, Nat.le_succ _⟩ kl (z := i.size) (n := n + k) (cap := nc) (f := app n f g) (vs := olds.toArray ++ news.toArray ++ Builtin.zeroCells zv.cells (nc - (n + k))) e hge hsz
      (fun q hq => by
       rw [getD_arr, htl]
       rcases Nat.lt_or_ge q olds.length with h1 | h1
       ·rw [List.getElem?_append_left h1, List.getElem?_eq_getElem h1]; exact ho2 _ (List.getElem_mem h1)
       ·rw [List.getElem?_append_right h1]
        rcases Nat.lt_or_ge (q - olds.length) news.length with h2 | h2
        ·rw [List.getElem?_append_left h2, List.getElem?_eq_getElem h2]; exact hS.2.2.1 _ (List.getElem_mem h2)
        ·rw [List.getElem?_append_right h2]
         have h3 : q - olds.length - news.length < (Builtin.zeroCells zv.cells (nc - (n + k))).toList.length := by
          have h5 : (Builtin.zeroCells zv.cells (nc - (n + k))).toList.length = (nc - (n + k)) * i.size := by simp only [Array.length_toList, size_zeroCells, hzc, hzs]
          rw [h5]
          rw [hsz] at hq
          have e2 : (nc - (n + k)) * i.size + (n + k) * i.size = nc * i.size := by rw [← Nat.add_mul]; congr 1; omega
          rw [Nat.add_mul] at e2
          omega
         rw [List.getElem?_eq_getElem h3]
         simp only [Option.getD_some, Array.getElem_toList, Builtin.zeroCells, Array.getElem_map, Array.getElem_range, hzc]
         have h4 : (q - olds.length - news.length) % z.size < z.size := Nat.mod_lt _ (by omega)
         simp only [h4, getElem!_pos]
         exact (Array.all_eq_true.1 hz1) _ h4)
      (by
       simp only [getD_arr, htl]
       refine app_sim (fun q hq => ?_) (fun q hq => ?_)
       ·obtain ⟨p1, p2⟩ := ho4 q hq
        refine ⟨p1, fun j y hy => ?_⟩
        have hj : j < i.size := by rw [← p1]; exact lt_of_getElem? hy
        have hqz : q * i.size + i.size ≤ n * i.size := by rw [← Nat.succ_mul]; exact Nat.mul_le_mul_right _ (by omega)
        rw [List.getElem?_append_left (by omega)]
        exact p2 j y hy
       ·obtain ⟨p1, p2⟩ := hS.2.2.2 q hq
        refine ⟨p1, fun j y hy => ?_⟩
        have hj : j < i.size := by rw [← p1]; exact lt_of_getElem? hy
        have hqz : q * i.size + i.size ≤ k * i.size := by rw [← Nat.succ_mul]; exact Nat.mul_le_mul_right _ (by omega)
        rw [Nat.add_mul, List.getElem?_append_right (by omega), List.getElem?_append_left (by omega)]
        have e : n * i.size + q * i.size + j - olds.length = q * i.size + j := by omega
        rw [e]
        exact p2 j y hy)
     exact ⟨_, _, m', hrun, hSt, hsim⟩
end
end Go.AM
namespace Go.AM
open Go Go.RowKit
set_option linter.unusedVariables false
set_option linter.unusedSimpArgs false
section
variable {P : Program} {X : Mu} {w : World} {m : Locs} {h : List AObj} {M : Mu}
theorem run_evCopy0 (H : HeapRel X w m h) {t u ty : TypeId} {s x : SC} {sv xv : Value} {eff : Eff}
    (hs : SimS w m (MX X m h) s sv) (hx : SimS w m (MX X m h) x xv) (he : evCopy0 P t (getO h) s x = some eff) (hc : ∀ q ∈ eff.bs, q = true) :
    ∃ v w', (Builtin.copy_ #[t, u] ty #[sv, xv]).run P w = .ok v w' ∧ Stp X w m h w' m (applyWs h eff.ws) ∧ SimV w' m (MX X m (applyWs h eff.ws)) eff.r v := by
  unfold evCopy0 at he
  cases hei : elemInfo P t with
  | none => rw [hei] at he; cases he
  | some q =>
    obtain ⟨e, i, z⟩ := q
    rw [hei] at he
    simp only at he
    obtain ⟨hu, hi, ⟨zv, hz, hzc⟩, hzs, hz1, hpos, hbpos⟩ := elemInfo_spec hei
    cases s with
    | sl k lo len =>
      cases hsr : srcOf i.size (getO h) x with
      | none => rw [hsr] at he; cases he
      | some q =>
        obtain ⟨mm, g, c2⟩ := q
        rw [hsr] at he
        simp only at he
        cases hg : getO h k with
        | arr z' n f =>
          rw [hg] at he
          simp only at he
          cases hb : Nat.beq z' i.size with
          | false => rw [hb] at he; cases he
          | true =>
            rw [hb] at he
            have hb := Nat.eq_of_beq_eq_true hb
            subst hb
            simp only [cond_true] at he
            cases he
            have hle : lo + len ≤ n := of_decide_eq_true (hc _ (by simp))
            obtain ⟨news, hS⟩ := srcOf_spec H hx hsr (fun q hq => hc q (by simp [hq]))
            cases hs with
            | sl _ _ _ l a c hk h0 h1 h2 h3 =>
              have hget := getO_eq hg trivial
              obtain ⟨l', e1, e2, e3, e4, e5⟩ := H.obj k _ hget
              rw [hk] at e1; cases e1
              have hlen := lenOf_src (P := P) i.size mm hS (w1 := w)
              -- the first cells of the source
              have hfirst : (Builtin.firstCells i.size (min mm len) xv).run P w = .ok (news.take (min mm len * i.size)).toArray w := by
                obtain ⟨⟨a', c', rfl, ha'⟩, hnl, _⟩ := hS
                rcases ha' with rfl | ⟨b', off', rfl, hn'⟩
                · have : news = [] := List.eq_nil_of_length_eq_zero (by simpa using hnl)
                  subst this
                  cases a' <;> simp [Builtin.firstCells, loadCells, loadCellsFrom]
                · refine run_firstCells_some w i.size (min mm len) ⟨b', off', none⟩ mm c' _ ?_ (fun j v hv => ?_)
                  · rw [List.length_take, hnl]
                    have : min mm len * i.size ≤ mm * i.size := Nat.mul_le_mul_right _ (Nat.min_le_left _ _)
                    omega
                  · rw [addr_add]
                    have hj := lt_of_getElem? hv
                    simp at hj
                    rw [List.getElem?_take, if_pos (by omega)] at hv
                    exact hn' j v hv
              by_cases hz0 : min mm len = 0
              · refine ⟨_, w, ?_, ?_, .c (.val _)⟩
                · have hf2 : (Builtin.firstCells i.size (Nat.min mm len) xv).run P w = .ok (news.take (min mm len * i.size)).toArray w := hfirst
                  rw [hz0] at hf2
                  simp only [Nat.zero_mul, List.take_zero] at hf2
                  have e0 : Nat.min mm len = 0 := hz0
                  rw [e0] at hf2
                  cases a <;> simp [Builtin.copy_, run_underlying hu, hlen, sizeOf, typeInfo, hi, e0, hf2, storeCells, goInt, hz0]
                · have : Stp X w m h w m h := Stp.refl H
                  have hcp : cpy lo (min mm len) f g = f := by
                    funext q; unfold cpy; rw [hz0, if_neg (by omega)]
                  have hset : h.set k (.arr i.size n f) = h := by
                    apply List.ext_getElem?
                    intro q
                    by_cases hq : k = q
                    · subst hq; rw [List.getElem?_set_self (lt_of_getElem? hget), hget]
                    · rw [List.getElem?_set_ne hq]
                  show Stp X w m h w m (h.set k (.arr i.size n (cpy lo (min mm len) f g)))
                  rw [hcp, hset]
                  exact this
              · have hl0 : len ≠ 0 := by omega
                obtain ⟨b, hbk, ha⟩ := h1 hl0
                obtain ⟨e6, T, vs, e7, e8, e9, e10⟩ := e5 b hbk
                have hnl : news.length = mm * i.size := hS.2.1
                have hmn : min mm len * i.size ≤ mm * i.size := Nat.mul_le_mul_right _ (Nat.min_le_left _ _)
                have hln : (news.take (min mm len * i.size)).length = min mm len * i.size := by rw [List.length_take, hnl]; omega
                have hfit : lo * i.size + (news.take (min mm len * i.size)).length ≤ vs.size := by
                  rw [hln, e8, ← Nat.add_mul]
                  exact Nat.mul_le_mul_right _ (by have := Nat.min_le_right mm len; omega)
                have h1n : ∀ u ∈ news.take (min mm len * i.size), u.oneCell' = true := fun u hu => hS.2.2.1 u (List.mem_of_mem_take hu)
                have hst := run_storeCells_at P b (lo * i.size) T (news.take (min mm len * i.size)) 0 vs w e7 (by simpa using hfit) h1n
                simp only [Nat.add_zero] at hst
                refine ⟨.int .i64 ((min mm len : Nat) : Int), w.setRow b (splice vs.toList (lo * i.size) (news.take (min mm len * i.size))).toArray, ?_, ?_, .c (.val _)⟩
                · have hf2 : (Builtin.firstCells i.size (Nat.min mm len) xv).run P w = .ok (news.take (min mm len * i.size)).toArray w := hfirst
                  rw [ha, e2]
                  simp [Builtin.copy_, run_underlying hu, hlen, sizeOf, typeInfo, hi, hf2, hst, goInt, splice, List.append_assoc]
                  first | done | rfl
                · refine Stp.write H hget trivial hk hbk rfl rfl ⟨rfl, Nat.le_refl _⟩ (by simp) (fun c _ hc => setRow_other w b c _ hc) (fun hLt => ?_)
                  refine ⟨l, hk, e2, e3, e4, fun b' hb' => ?_⟩
                  obtain rfl : b = b' := by rw [hbk] at hb'; exact Option.some.inj hb'
                  refine ⟨e6, T, _, setRow_heap w b vs _ T _ e7, ?_, ?_, fun q hq => ?_⟩
                  · rw [List.size_toArray, splice_length _ _ _ (by simpa using hfit)]; simpa using e8
                  · exact one_splice (by simpa using hfit) (fun j hj => by have := e9 j (by simpa using hj); rwa [getD_arr] at this) h1n
                  · unfold cpy
                    split
                    · rename_i hq2
                      obtain ⟨p1, p2⟩ := hS.2.2.2 (q - lo) (by have := Nat.min_le_left mm len; omega)
                      refine ⟨p1, fun j y hy => ?_⟩
                      have hj : j < i.size := by rw [← p1]; exact lt_of_getElem? hy
                      have hq3 : (q - lo) * i.size + i.size ≤ min mm len * i.size := by rw [← Nat.succ_mul]; exact Nat.mul_le_mul_right _ (by omega)
                      have hq4 : q * i.size = lo * i.size + (q - lo) * i.size := by rw [← Nat.add_mul]; congr 1; omega
                      rw [getD_toArray, splice_getElem? _ _ _ (by simpa using hfit), hln, if_pos (by omega)]
                      have e : q * i.size + j - lo * i.size = (q - lo) * i.size + j := by omega
                      rw [e, List.getElem?_take, if_pos (by omega)]
                      exact (p2 j y hy).later hLt
                    · rename_i hq2
                      obtain ⟨p1, p2⟩ := e10 q hq
                      refine ⟨p1, fun j y hy => ?_⟩
                      have hj : j < i.size := by rw [← p1]; exact lt_of_getElem? hy
                      rw [getD_toArray, splice_getElem? _ _ _ (by simpa using hfit), hln, if_neg ?_]
                      · have := (p2 j y hy).later hLt
                        rwa [getD_arr] at this
                      · rcases Nat.lt_or_ge q lo with h' | h'
                        · have : q * i.size + i.size ≤ lo * i.size := by rw [← Nat.succ_mul]; exact Nat.mul_le_mul_right _ (by omega)
                          omega
                        · have : (lo + min mm len) * i.size ≤ q * i.size := Nat.mul_le_mul_right _ (by omega)
                          rw [Nat.add_mul] at this
                          omega
        | box cs => rw [hg] at he; cases he
        | mp es => rw [hg] at he; cases he
        | dead => rw [hg] at he; cases he
    | _ => cases srcOf i.size (getO h) x <;> cases he
theorem run_evCopy (H : HeapRel X w m h) {t u ty : TypeId} {s x : SC} {sv xv : Value} {eff : Eff}
    (hs : SimS w m (MX X m h) s sv) (hx : SimS w m (MX X m h) x xv) (he : evCopy P t (getO h) s x = some eff) (hc : ∀ q ∈ eff.bs, q = true) :
    ∃ v w', (Builtin.copy_ #[t, u] ty #[sv, xv]).run P w = .ok v w' ∧ Stp X w m h w' m (applyWs h eff.ws) ∧ SimV w' m (MX X m (applyWs h eff.ws)) eff.r v :=
  run_evCopy0 H (SimS.vw H (fun _ _ => rfl) hs) hx he hc
theorem run_evClear0 (H : HeapRel X w m h) {t ty : TypeId} {ts : List TypeId} {s : SC} {sv : Value} {eff : Eff}
    (hs : SimS w m (MX X m h) s sv) (he : evClear0 P t (getO h) s = some eff) (hc : ∀ q ∈ eff.bs, q = true) :
    ∃ v w', (Builtin.clear_ (t :: ts).toArray ty #[sv]).run P w = .ok v w' ∧ Stp X w m h w' m (applyWs h eff.ws) ∧ SimV w' m (MX X m (applyWs h eff.ws)) eff.r v := by
  unfold evClear0 at he
  cases hei : elemInfo P t with
  | none => rw [hei] at he; cases he
  | some q =>
    obtain ⟨e, i, z⟩ := q
    rw [hei] at he
    simp only at he
    obtain ⟨hu, hi, ⟨zv, hz, hzc⟩, hzs, hz1, hpos, hbpos⟩ := elemInfo_spec hei
    cases s with
    | sl k lo len =>
      simp only at he
      cases hg : getO h k with
      | arr z' n f =>
        rw [hg] at he
        simp only at he
        cases hb : Nat.beq z' i.size with
        | false => rw [hb] at he; cases he
        | true =>
          rw [hb] at he
          have hb := Nat.eq_of_beq_eq_true hb
          subst hb
          simp only [cond_true] at he
          cases he
          have hle : lo + len ≤ n := of_decide_eq_true (hc _ (by simp))
          have hunit : ∀ (w' : World) (M' : Mu), SimV w' m M' (.tup []) (.tuple #[]) := fun w' M' => ⟨#[], rfl, rfl, fun q a hq => by simp at hq⟩
          cases hs with
          | sl _ _ _ l a c hk h0 h1 h2 h3 =>
            have hget := getO_eq hg trivial
            obtain ⟨l', e1, e2, e3, e4, e5⟩ := H.obj k _ hget
            rw [hk] at e1; cases e1
            by_cases hz0 : len = 0
            · refine ⟨.tuple #[], w, ?_, ?_, hunit _ _⟩
              · subst hz0
                cases a <;> simp [Builtin.clear_, run_underlying hu]
              · have : Stp X w m h w m h := Stp.refl H
                have hcp : cpy lo len f (fun _ => z.toList.map .val) = f := by
                  funext q; unfold cpy; rw [hz0, if_neg (by omega)]
                have hset : h.set k (.arr i.size n f) = h := by
                  apply List.ext_getElem?
                  intro q
                  by_cases hq : k = q
                  · subst hq; rw [List.getElem?_set_self (lt_of_getElem? hget), hget]
                  · rw [List.getElem?_set_ne hq]
                show Stp X w m h w m (h.set k (.arr i.size n (cpy lo len f (fun _ => z.toList.map .val))))
                rw [hcp, hset]
                exact this
            · obtain ⟨b, hbk, ha⟩ := h1 hz0
              obtain ⟨e6, T, vs, e7, e8, e9, e10⟩ := e5 b hbk
              obtain ⟨news, hnews⟩ : ∃ news, news = (Builtin.zeroCells z len).toList := ⟨_, rfl⟩
              have hnl : news.length = len * i.size := by rw [hnews]; simp [Builtin.zeroCells, hzs]
              have hat : ∀ q, q < len * i.size → news[q]? = some (z[q % z.size]'(Nat.mod_lt _ (by omega))) := by
                intro q hq
                have h2 : q % z.size < z.size := Nat.mod_lt _ (by omega)
                have hq' : q < len * z.size := by rw [hzs]; exact hq
                rw [hnews]
                simp [Builtin.zeroCells, hq', h2]
              have h1n : ∀ u ∈ news, u.oneCell' = true := by
                intro u hu
                obtain ⟨q, hq, rfl⟩ := List.getElem_of_mem hu
                have h2 : q % z.size < z.size := Nat.mod_lt _ (by omega)
                have := hat q (by omega)
                rw [List.getElem?_eq_getElem hq] at this
                rw [Option.some.inj this]
                exact (Array.all_eq_true.1 hz1) _ h2
              have hfit : lo * i.size + news.length ≤ vs.size := by
                rw [hnl, e8, ← Nat.add_mul]
                exact Nat.mul_le_mul_right _ (by omega)
              have hst := run_storeCells_at P b (lo * i.size) T news 0 vs w e7 (by simpa using hfit) h1n
              simp only [Nat.add_zero] at hst
              refine ⟨.tuple #[], w.setRow b (splice vs.toList (lo * i.size) news).toArray, ?_, ?_, hunit _ _⟩
              · rw [ha, e2]
                rw [hnews] at hst
                have hzv := run_zeroValue' (P := P) (w := w) hi hz
                cases len with
                | zero => exact absurd rfl hz0
                | succ len =>
                simp only [Builtin.clear_, List.getElem?_toArray, List.getElem?_cons_zero, Sem.run_bind, run_underlying hu, Result.andThen_ok, hzv, hzc, Sem.run_pure]
                first
                  | (rw [hst]; simp [splice, hnews, List.append_assoc]; done)
                  | (simp [hzv, hzc, hst, splice, hnews, List.append_assoc]; done)
              · refine Stp.write H hget trivial hk hbk rfl rfl ⟨rfl, Nat.le_refl _⟩ (by simp) (fun c _ hc => setRow_other w b c _ hc) (fun hLt => ?_)
                refine ⟨l, hk, e2, e3, e4, fun b' hb' => ?_⟩
                obtain rfl : b = b' := by rw [hbk] at hb'; exact Option.some.inj hb'
                refine ⟨e6, T, _, setRow_heap w b vs _ T _ e7, ?_, ?_, fun q hq => ?_⟩
                · rw [List.size_toArray, splice_length _ _ _ (by simpa using hfit)]; simpa using e8
                · exact one_splice (by simpa using hfit) (fun j hj => by have := e9 j (by simpa using hj); rwa [getD_arr] at this) h1n
                · unfold cpy
                  split
                  · rename_i hq2
                    refine ⟨by simp [hzs], fun j y hy => ?_⟩
                    rw [List.getElem?_map] at hy
                    cases hzj : z.toList[j]? with
                    | none => rw [hzj] at hy; cases hy
                    | some v =>
                      rw [hzj] at hy; cases hy
                      have hj : j < z.size := by have := lt_of_getElem? hzj; simpa using this
                      have hq3 : (q - lo) * i.size + i.size ≤ len * i.size := by rw [← Nat.succ_mul]; exact Nat.mul_le_mul_right _ (by omega)
                      have hq4 : q * i.size = lo * i.size + (q - lo) * i.size := by rw [← Nat.add_mul]; congr 1; omega
                      rw [getD_toArray, splice_getElem? _ _ _ (by simpa using hfit), hnl, if_pos (by rw [hzs] at hj; omega)]
                      have e : q * i.size + j - lo * i.size = (q - lo) * i.size + j := by omega
                      rw [e, hat _ (by rw [hzs] at hj; omega)]
                      have hmod : ((q - lo) * i.size + j) % z.size = j := by rw [← hzs, Nat.mul_comm, Nat.mul_add_mod, Nat.mod_eq_of_lt hj]
                      have hv : v = z[j] := by simp [hj] at hzj; exact hzj.symm
                      have : z[((q - lo) * i.size + j) % z.size]'(Nat.mod_lt _ (by omega)) = v := by
                        rw [hv]; congr 1
                      rw [Option.getD_some, this]
                      exact .val v
                  · rename_i hq2
                    obtain ⟨p1, p2⟩ := e10 q hq
                    refine ⟨p1, fun j y hy => ?_⟩
                    have hj : j < i.size := by rw [← p1]; exact lt_of_getElem? hy
                    rw [getD_toArray, splice_getElem? _ _ _ (by simpa using hfit), hnl, if_neg ?_]
                    · have := (p2 j y hy).later hLt
                      rwa [getD_arr] at this
                    · rcases Nat.lt_or_ge q lo with h' | h'
                      · have : q * i.size + i.size ≤ lo * i.size := by rw [← Nat.succ_mul]; exact Nat.mul_le_mul_right _ (by omega)
                        omega
                      · have : (lo + len) * i.size ≤ q * i.size := Nat.mul_le_mul_right _ (by omega)
                        rw [Nat.add_mul] at this
                        omega
      | box cs => rw [hg] at he; cases he
      | mp es => rw [hg] at he; cases he
      | dead => rw [hg] at he; cases he
    | _ => cases he
theorem run_evClear (H : HeapRel X w m h) {t ty : TypeId} {ts : List TypeId} {s : SC} {sv : Value} {eff : Eff}
    (hs : SimS w m (MX X m h) s sv) (he : evClear P t (getO h) s = some eff) (hc : ∀ q ∈ eff.bs, q = true) :
    ∃ v w', (Builtin.clear_ (t :: ts).toArray ty #[sv]).run P w = .ok v w' ∧ Stp X w m h w' m (applyWs h eff.ws) ∧ SimV w' m (MX X m (applyWs h eff.ws)) eff.r v :=
  run_evClear0 H (SimS.vw H (fun _ _ => rfl) hs) he hc
theorem run_evField {s : TypeId} {f o : Nat} {t : TypeId} (he : evField P s f = some (o, t)) :
    ∃ fs fl i, P.underlying s = some (.struct fs) ∧ fs[f]? = some fl ∧ P.info? fl.type = some i ∧ i.size ≠ 0 ∧ o = fl.offset ∧ t = fl.type := by
  unfold evField at he
  cases hu : P.underlying s with
  | none => rw [hu] at he; cases he
  | some d =>
    rw [hu] at he
    cases d with
    | struct fs =>
      simp only at he
      cases hf : fs[f]? with
      | none => rw [hf] at he; cases he
      | some fl =>
        rw [hf] at he
        simp only at he
        cases hi : P.info? fl.type with
        | none => rw [hi] at he; cases he
        | some i =>
          rw [hi] at he
          simp only at he
          cases hb : Nat.beq i.size 0 with
          | true => rw [hb] at he; cases he
          | false =>
            rw [hb] at he
            simp only [cond_false] at he
            cases he
            refine ⟨fs, fl, i, rfl, hf, hi, fun h0 => ?_, rfl, rfl⟩
            rw [h0] at hb; cases hb
    | _ => cases he
theorem run_fieldAt {s : TypeId} {f o : Nat} {t : TypeId} (he : evField P s f = some (o, t)) (b off : Nat) :
    (Instr.fieldAt s (.pointer (some ⟨b, off, none⟩)) f).run P w = .ok (.pointer (some ⟨b, off + o, none⟩)) w := by
  obtain ⟨fs, fl, i, hu, hf, hi, h0, rfl, rfl⟩ := run_evField he
  simp only [Instr.fieldAt, Sem.run_bind, run_underlying hu, Result.andThen_ok, hf, Instr.sureAddr, Sem.run_pure, fieldPlace, run_sizeOf' hi, if_neg h0, addr_add]
theorem run_evFieldAddr {s : TypeId} {x : SC} {v : Value} {f : Nat} {eff : Eff} (hx : SimS w m M x v) (he : evFieldAddr P s x f = some eff) :
    ∃ u, (Instr.fieldAt s v f).run P w = .ok u w ∧ eff.ws = [] ∧ SimV w m M eff.r u := by
  unfold evFieldAddr at he
  cases hf : evField P s f with
  | none => rw [hf] at he; cases he
  | some q =>
    obtain ⟨o, t⟩ := q
    rw [hf] at he
    cases x with
    | pb k off =>
      cases he
      cases hx with
      | pb _ _ b l hk hb => exact ⟨_, run_fieldAt hf b off, rfl, .pb k (off + o) b l hk hb⟩
    | pe k i off =>
      cases he
      cases hx with
      | pe _ _ _ b l hk hb hi =>
        refine ⟨_, run_fieldAt hf b _, rfl, ?_⟩
        rw [Nat.add_assoc]
        exact .pe k i (off + o) b l hk hb hi
    | rp cs =>
      cases he
      cases hx with
      | rp _ b off c hb hs hc h =>
        refine ⟨_, run_fieldAt hf b off, rfl, ?_⟩
        refine .rp (cs.drop o) b (off + o) (fun j => c (o + j)) hb hs (fun j hj => ?_) (fun j x hx => ?_)
        · rw [Nat.add_assoc]; exact hc _ (by simp at hj; omega)
        · rw [List.getElem?_drop] at hx; exact h _ _ hx
    | _ => cases he
theorem run_part {t : TypeId} {cs : List SC} {vs : Array Value} {o : Nat} {v : AV} (hL : SimL w m M cs vs) (hl : loadA P t cs o = some v) :
    ∃ u, (part t vs o).run P w = .ok u w ∧ SimA w m M v u := by
  unfold loadA at hl
  cases hu : P.underlying t with
  | none => rw [hu] at hl; cases hl
  | some d =>
    rw [hu] at hl
    simp only at hl
    cases hag : isAggB P t with
    | true =>
      rw [hag] at hl
      cases hi : P.info? t with
      | none => rw [hi] at hl; simp at hl
      | some i =>
        rw [hi] at hl
        simp only [cond_true] at hl
        split at hl
        · rename_i hle
          cases hl
          have hagg : (isAgg t).run P w = .ok true w := by
            unfold isAggB at hag; rw [hu] at hag
            unfold isAgg; simp only [Sem.run_bind, run_underlying hu, Result.andThen_ok]
            cases d <;> simp_all
          refine ⟨.agg (vs.extract o (o + i.size)), ?_, _, rfl, ?_, fun j x hx => ?_⟩
          · simp only [part, Sem.run_bind, hagg, Result.andThen_ok, if_true, run_sizeOf' hi, Sem.run_pure]
          · simp [hL.1]; omega
          · have hj := lt_of_getElem? hx
            simp at hj
            rw [List.getElem?_take, if_pos (by omega), List.getElem?_drop] at hx
            have := hL.2 _ _ hx
            rw [getD_arr] at this ⊢
            simpa [List.getElem?_take, List.getElem?_drop, show j < i.size by omega] using this
        · cases hl
    | false =>
      rw [hag] at hl
      simp only [cond_false] at hl
      cases hx : cs[o]? with
      | none => rw [hx] at hl; cases hl
      | some x =>
        rw [hx] at hl
        cases hl
        have hagg : (isAgg t).run P w = .ok false w := by
          unfold isAggB at hag; rw [hu] at hag
          unfold isAgg; simp only [Sem.run_bind, run_underlying hu, Result.andThen_ok]
          cases d <;> simp_all
        have ho : o < vs.size := by rw [hL.1]; exact lt_of_getElem? hx
        refine ⟨vs[o], ?_, ?_⟩
        · simp only [part, Sem.run_bind, hagg, Result.andThen_ok, Bool.false_eq_true, if_false, Array.getElem?_eq_getElem ho, Sem.run_pure]
        · have := hL.2 _ _ hx
          have e : vs.getD o undef = vs[o] := by simp [Array.getD, ho]
          rw [e] at this
          exact this
theorem run_indexAt_slice {t e : TypeId} {ie : TypeInfo} (hu : P.underlying t = some (.slice e)) (hi : P.info? e = some ie) {k : IntKind} {i : Int} {b off n c : Nat} (hb : 0 ≤ i ∧ i < n) :
    (Instr.indexAt t (.slice (some ⟨b, off, none⟩) n c) (.int k i)).run P w = .ok (.pointer (some ⟨b, off + i.toNat * ie.size, none⟩)) w := by
  simp [Instr.indexAt, asIntOf, run_underlying hu, hb, sizeOf, typeInfo, hi, addr_add]
theorem run_indexAt_array {t e : TypeId} {ie : TypeInfo} {n : Nat} (hu : P.underlying t = some (.array n e)) (hi : P.info? e = some ie) {k : IntKind} {i : Int} {b off : Nat} (hb : 0 ≤ i ∧ i < n) :
    (Instr.indexAt t (.pointer (some ⟨b, off, none⟩)) (.int k i)).run P w = .ok (.pointer (some ⟨b, off + i.toNat * ie.size, none⟩)) w := by
  simp [Instr.indexAt, asIntOf, run_underlying hu, hb, sizeOf, typeInfo, hi, addr_add, Instr.sureAddr]
theorem run_evIndexAddr0 {t : TypeId} {x : SC} {v : Value} {k : IntKind} {i : Int} {eff : Eff} (H : HeapRel X w m h) (hx : SimS w m (MX X m h) x v) (he : evIndexAddr0 P t (getO h) x i = some eff) (hc : ∀ q ∈ eff.bs, q = true) :
    ∃ u, (Instr.indexAt t v (.int k i)).run P w = .ok u w ∧ eff.ws = [] ∧ SimV w m (MX X m h) eff.r u := by
  unfold evIndexAddr0 at he
  cases hu : P.underlying t with
  | none => rw [hu] at he; cases he
  | some d =>
    rw [hu] at he
    cases d with
    | slice e =>
      simp only at he
      cases hi : P.info? e with
      | none => rw [hi] at he; cases he
      | some ie =>
        rw [hi] at he
        cases x with
        | sl k' lo len =>
          simp only at he
          cases hg : getO h k' with
          | arr z n f =>
            rw [hg] at he
            simp only at he
            cases hbz : Nat.beq z ie.size with
            | false => rw [hbz] at he; cases he
            | true =>
              rw [hbz] at he
              have hbz := Nat.eq_of_beq_eq_true hbz
              cases he
              have hb : 0 ≤ i ∧ i < len := of_decide_eq_true (hc _ (by simp))
              cases hx with
              | sl _ _ _ l a c hk h0 h1 h2 h3 =>
                have hb2 : lo + len ≤ n := of_decide_eq_true (hc _ (by simp))
                obtain ⟨b, hbl, rfl⟩ := h1 (by omega)
                obtain ⟨l', e1, e2, _⟩ := H.obj k' _ (getO_eq hg trivial)
                rw [hk] at e1; cases e1
                refine ⟨_, run_indexAt_slice hu hi hb, rfl, ?_⟩
                have e : lo * l.z + i.toNat * ie.size = (lo + i.toNat) * l.z + 0 := by rw [Nat.add_mul, e2, hbz]; omega
                rw [e]
                exact .pe k' (lo + i.toNat) 0 b l hk hbl (by rw [arr_n H hg hk]; omega)
          | box cs => rw [hg] at he; cases he
          | mp es => rw [hg] at he; cases he
          | dead => rw [hg] at he; cases he
        | c x =>
          cases x with
          | rd z n f =>
            simp only at he
            cases hbz : Nat.beq z ie.size with
            | false => rw [hbz] at he; cases he
            | true =>
              rw [hbz] at he
              have hbz := Nat.eq_of_beq_eq_true hbz
              cases he
              have hb : 0 ≤ i ∧ i < n := of_decide_eq_true (hc _ (by simp))
              cases hx with
              | c hx =>
                cases hx with
                | rd0 => omega
                | rd _ _ _ b off cap c hb' hs hn hl hcell h1 hsim =>
                  refine ⟨_, run_indexAt_slice hu hi hb, rfl, ?_⟩
                  rw [← hbz]
                  have hin : i.toNat < n := by omega
                  have hz : i.toNat * z + z ≤ n * z := by rw [← Nat.succ_mul]; exact Nat.mul_le_mul_right _ (by omega)
                  refine .rp (f i.toNat) b (off + i.toNat * z) (fun j => c (i.toNat * z + j)) hb' hs (fun j hj => ?_) (fun j x hx => hsim _ j x hin hx)
                  rw [hl _ hin] at hj
                  rw [Nat.add_assoc]
                  exact hcell _ (by omega)
          | _ => cases he
        | _ => cases he
    | array n e =>
      simp only at he
      cases hi : P.info? e with
      | none => rw [hi] at he; cases he
      | some ie =>
        rw [hi] at he
        cases x with
        | pb k' off =>
          cases he
          have hb : 0 ≤ i ∧ i < n := of_decide_eq_true (hc _ (by simp))
          cases hx with
          | pb _ _ b l hk hbl => exact ⟨_, run_indexAt_array hu hi hb, rfl, .pb k' _ b l hk hbl⟩
        | pe k' j off =>
          cases he
          have hb : 0 ≤ i ∧ i < n := of_decide_eq_true (hc _ (by simp))
          cases hx with
          | pe _ _ _ b l hk hbl hj =>
            refine ⟨_, run_indexAt_array hu hi hb, rfl, ?_⟩
            rw [Nat.add_assoc]
            exact .pe k' j _ b l hk hbl hj
        | rp cs =>
          cases he
          have hb : 0 ≤ i ∧ i < n := of_decide_eq_true (hc _ (by simp))
          cases hx with
          | rp _ b off c hb' hs hcl h =>
            refine ⟨_, run_indexAt_array hu hi hb, rfl, ?_⟩
            refine .rp (cs.drop (i.toNat * ie.size)) b (off + i.toNat * ie.size) (fun j => c (i.toNat * ie.size + j)) hb' hs (fun j hj => ?_) (fun j x hx => ?_)
            · rw [Nat.add_assoc]; exact hcl _ (by simp at hj; omega)
            · rw [List.getElem?_drop] at hx; exact h _ _ hx
        | _ => cases he
    | _ => cases he
theorem run_evIndexAddr {t : TypeId} {x : SC} {v : Value} {k : IntKind} {i : Int} {eff : Eff} (H : HeapRel X w m h) (hx : SimS w m (MX X m h) x v) (he : evIndexAddr P t (getO h) x i = some eff) (hc : ∀ q ∈ eff.bs, q = true) :
    ∃ u, (Instr.indexAt t v (.int k i)).run P w = .ok u w ∧ eff.ws = [] ∧ SimV w m (MX X m h) eff.r u := by
  have hv := SimS.vw H (get := getO h) (fun _ _ => rfl) hx
  unfold evIndexAddr at he
  split at he
  · rename_i k'
    split at he
    · rename_i e hu
      split at he
      · rename_i ie z n f hi hg
        cases hbz : Nat.beq z ie.size with
        | false => rw [hbz] at he; cases he
        | true =>
          rw [hbz] at he
          simp only [cond_true] at he
          simp only [Go.AM.vw, hg] at hv
          cases he
          have hb : 0 ≤ i ∧ i < n := of_decide_eq_true (hc _ (by simp))
          have := run_evIndexAddr0 (P := P) (t := t) (k := k) (i := i) (eff := { r := .one (.s (.pe k' (0 + i.toNat) 0)), bs := [decide (0 ≤ i ∧ i < n), decide (0 + n ≤ n)] }) H hv
            (by simp only [evIndexAddr0, hu, hi, hg, hbz, cond_true]) (by simp; omega)
          simpa using this
      · cases he
    · cases he
  · simp only [Go.AM.vw] at hv
    exact run_evIndexAddr0 H hv he hc
  · exact run_evIndexAddr0 H hx he hc
theorem run_slice_slice {t e : TypeId} {ie : TypeInfo} (hu : P.underlying t = some (.slice e)) (hi : P.info? e = some ie) {base : Option Addr} {n c : Nat} {lo hi' : Option Value} {a b : Nat}
    (hlo : (lo = none ∧ a = 0) ∨ ∃ k, lo = some (.int k (a : Int))) (hhi : (hi' = none ∧ b = n) ∨ ∃ k, hi' = some (.int k (b : Int))) (hab : a ≤ b) (hbn : b ≤ n) (hnc : n ≤ c) :
    (Instr.sliceAt t (.slice base n c) lo hi' none).run P w = .ok (.slice (if c = a then base else base.map (·.add (a * ie.size))) (b - a) (c - a)) w := by
  have h1 : b ≤ c := by omega
  have h2 : (a : Int) ≤ (b : Int) := by omega
  have h3 : (b : Int) ≤ (c : Int) := by omega
  rcases hlo with ⟨rfl, rfl⟩ | ⟨k, rfl⟩ <;> rcases hhi with ⟨rfl, rfl⟩ | ⟨k', rfl⟩ <;>
    simp [Instr.sliceAt, Instr.slice, run_underlying hu, Instr.sliceBounds, Instr.sliceBound, asIntOf, sizeOf, typeInfo, hi, h1, h2, h3, hab]
theorem run_evSlice0 {t : TypeId} {x : SC} {v : Value} {lo hi mx : Option Int} {lov hiv mxv : Option Value} {eff : Eff} (H : HeapRel X w m h) (hx : SimS w m (MX X m h) x v)
    (hlo : (lo = none ∧ lov = none) ∨ ∃ k n, lo = some n ∧ lov = some (.int k n)) (hhi : (hi = none ∧ hiv = none) ∨ ∃ k n, hi = some n ∧ hiv = some (.int k n)) (hmx : (mx = none ∧ mxv = none) ∨ ∃ k n, mx = some n ∧ mxv = some (.int k n))
    (he : evSlice0 P t (getO h) x lo hi mx = some eff) (hc : ∀ q ∈ eff.bs, q = true) :
    ∃ u, (Instr.sliceAt t v lov hiv mxv).run P w = .ok u w ∧ eff.ws = [] ∧ SimV w m (MX X m h) eff.r u := by
  unfold evSlice0 at he
  cases hu : P.underlying t with
  | none => rw [hu] at he; cases he
  | some d =>
    rw [hu] at he
    cases d with
    | slice e =>
      simp only at he
      cases hie : P.info? e with
      | none => rw [hie] at he; cases he
      | some ie =>
        rw [hie] at he
        simp only at he
        rcases hmx with ⟨rfl, rfl⟩ | ⟨km, mm, rfl, rfl⟩
        · simp only at he
          cases x with
          | sl k l len =>
            simp only at he
            cases hg : getO h k with
            | box cs => rw [hg] at he; cases he
            | mp es => rw [hg] at he; cases he
            | dead => rw [hg] at he; cases he
            | arr z n f =>
              rw [hg] at he
              simp only at he
              cases hbz : Nat.beq z ie.size with
              | false => rw [hbz] at he; cases he
              | true =>
                rw [hbz] at he
                simp only [cond_true] at he
                have hbz := Nat.eq_of_beq_eq_true hbz
                cases hx with
                | sl _ _ _ ll a c hk h0 h1 h2 h3 =>
                  obtain ⟨l', e1, e2, _⟩ := H.obj k _ (getO_eq hg trivial)
                  rw [hk] at e1; cases e1
                  have hz : ll.z = ie.size := by rw [e2, hbz]
                  -- the bounds
                  have key : ∀ (a' b' : Nat), ((lov = none ∧ a' = 0) ∨ ∃ k, lov = some (.int k (a' : Int))) → ((hiv = none ∧ b' = len) ∨ ∃ k, hiv = some (.int k (b' : Int))) → a' ≤ b' → b' ≤ len →
                      ∃ u, (Instr.sliceAt t (.slice a len c) lov hiv none).run P w = .ok u w ∧ SimS w m (MX X m h) (.sl k (l + a') (b' - a')) u := by
                    intro a' b' ha hb hab hbl
                    refine ⟨_, run_slice_slice hu hie ha hb hab hbl h2, ?_⟩
                    refine .sl k (l + a') (b' - a') ll _ _ hk (fun h00 => ?_) (fun hne => ?_) (by omega) (by omega)
                    · have hl0 : l = 0 := by omega
                      have ha0 : a' = 0 := by omega
                      obtain ⟨q1, q2⟩ := h0 hl0
                      subst ha0
                      refine ⟨?_, by omega⟩
                      rw [← q1]
                      split
                      · rfl
                      · cases a <;> simp [Addr.add]
                    · obtain ⟨b, hb1, hb2⟩ := h1 (by omega)
                      refine ⟨b, hb1, ?_⟩
                      rw [if_neg (by omega), hb2, Option.map_some, addr_add, Nat.add_mul, hz]
                  rcases hlo with ⟨rfl, rfl⟩ | ⟨k1, x1, rfl, rfl⟩
                  · simp only at he
                    cases he
                    rcases hhi with ⟨rfl, rfl⟩ | ⟨k2, x2, rfl, rfl⟩
                    · have hb : (0 : Int) ≤ (len : Int) ∧ (len : Int) ≤ len := of_decide_eq_true (hc _ (by simp))
                      obtain ⟨u, hr, hs⟩ := key 0 len (.inl ⟨rfl, rfl⟩) (.inl ⟨rfl, rfl⟩) (by omega) (by omega)
                      exact ⟨u, hr, rfl, by simpa [SimV, SimA] using hs⟩
                    · have hb : (0 : Int) ≤ x2 ∧ x2 ≤ len := of_decide_eq_true (hc _ (by simp))
                      obtain ⟨u, hr, hs⟩ := key 0 x2.toNat (.inl ⟨rfl, rfl⟩) (.inr ⟨k2, by rw [Int.toNat_of_nonneg hb.1]⟩) (by omega) (by omega)
                      exact ⟨u, hr, rfl, by simpa [SimV, SimA] using hs⟩
                  · simp only at he
                    cases he
                    rcases hhi with ⟨rfl, rfl⟩ | ⟨k2, x2, rfl, rfl⟩
                    · have hb : 0 ≤ x1 ∧ x1 ≤ (len : Int) ∧ (len : Int) ≤ len := of_decide_eq_true (hc _ (by simp))
                      obtain ⟨u, hr, hs⟩ := key x1.toNat len (.inr ⟨k1, by rw [Int.toNat_of_nonneg hb.1]⟩) (.inl ⟨rfl, rfl⟩) (by omega) (by omega)
                      exact ⟨u, hr, rfl, by simpa [SimV, SimA] using hs⟩
                    · have hb : 0 ≤ x1 ∧ x1 ≤ x2 ∧ x2 ≤ len := of_decide_eq_true (hc _ (by simp))
                      obtain ⟨u, hr, hs⟩ := key x1.toNat x2.toNat (.inr ⟨k1, by rw [Int.toNat_of_nonneg hb.1]⟩) (.inr ⟨k2, by rw [Int.toNat_of_nonneg (by omega)]⟩) (by omega) (by omega)
                      exact ⟨u, hr, rfl, by simpa [SimV, SimA] using hs⟩
          | c x =>
            cases x with
            | rd z n f =>
              simp only at he
              cases hbz : Nat.beq z ie.size with
              | false => rw [hbz] at he; cases he
              | true =>
                rw [hbz] at he
                simp only [cond_true] at he
                have hbz := Nat.eq_of_beq_eq_true hbz
                have key : ∀ (a' b' : Nat), ((lov = none ∧ a' = 0) ∨ ∃ k, lov = some (.int k (a' : Int))) → ((hiv = none ∧ b' = n) ∨ ∃ k, hiv = some (.int k (b' : Int))) → a' ≤ b' → b' ≤ n →
                      ∃ u, (Instr.sliceAt t v lov hiv none).run P w = .ok u w ∧ ∀ g : Nat → List CV, (∀ i, g i = f (a' + i)) → SimS w m (MX X m h) (.c (.rd z (b' - a') g)) u := by
                  intro a' b' ha hb hab hbl
                  cases hx with
                  | c hx =>
                    cases hx with
                    | rd0 _ _ a cap =>
                      refine ⟨_, run_slice_slice hu hie ha hb hab hbl (Nat.zero_le _), fun g hg => ?_⟩
                      have : b' - a' = 0 := by omega
                      rw [this]
                      exact .c (.rd0 z g _ _)
                    | rd _ _ _ b off cap c hb' hs hn hl hcell h1 hsim =>
                      refine ⟨_, run_slice_slice hu hie ha hb hab hbl hn, fun g hg => ?_⟩
                      by_cases h00 : b' - a' = 0
                      · rw [h00]; exact .c (.rd0 z g _ _)
                      · rw [if_neg (by omega), Option.map_some, addr_add, ← hbz]
                        have hz2 : b' * z ≤ n * z := Nat.mul_le_mul_right _ hbl
                        have hz3 : (b' - a') * z + a' * z = b' * z := by rw [← Nat.add_mul]; congr 1; omega
                        refine .c (.rd z (b' - a') g b (off + a' * z) (cap - a') (fun j => c (a' * z + j)) hb' hs (by omega) (fun i hi => ?_) (fun j hj => ?_) (fun j hj => h1 _ (by omega)) (fun i j x hi hx => ?_))
                        · rw [hg]; exact hl _ (by omega)
                        · rw [Nat.add_assoc]; exact hcell _ (by omega)
                        · rw [hg] at hx
                          have := hsim (a' + i) j x (by omega) hx
                          rw [Nat.add_mul, Nat.add_assoc] at this
                          exact this
                rcases hlo with ⟨rfl, rfl⟩ | ⟨k1, x1, rfl, rfl⟩
                · simp only at he
                  cases he
                  rcases hhi with ⟨rfl, rfl⟩ | ⟨k2, x2, rfl, rfl⟩
                  · have hb : (0 : Int) ≤ (n : Int) ∧ (n : Int) ≤ n := of_decide_eq_true (hc _ (by simp))
                    obtain ⟨u, hr, hs⟩ := key 0 n (.inl ⟨rfl, rfl⟩) (.inl ⟨rfl, rfl⟩) (by omega) (by omega)
                    exact ⟨u, hr, rfl, by simpa [SimV, SimA] using hs f (fun i => by rw [Nat.zero_add])⟩
                  · have hb : (0 : Int) ≤ x2 ∧ x2 ≤ n := of_decide_eq_true (hc _ (by simp))
                    obtain ⟨u, hr, hs⟩ := key 0 x2.toNat (.inl ⟨rfl, rfl⟩) (.inr ⟨k2, by rw [Int.toNat_of_nonneg hb.1]⟩) (by omega) (by omega)
                    exact ⟨u, hr, rfl, by simpa [SimV, SimA] using hs f (fun i => by rw [Nat.zero_add])⟩
                · simp only at he
                  cases he
                  rcases hhi with ⟨rfl, rfl⟩ | ⟨k2, x2, rfl, rfl⟩
                  · have hb : 0 ≤ x1 ∧ x1 ≤ (n : Int) ∧ (n : Int) ≤ n := of_decide_eq_true (hc _ (by simp))
                    obtain ⟨u, hr, hs⟩ := key x1.toNat n (.inr ⟨k1, by rw [Int.toNat_of_nonneg hb.1]⟩) (.inl ⟨rfl, rfl⟩) (by omega) (by omega)
                    exact ⟨u, hr, rfl, by simpa [SimV, SimA] using hs _ (fun i => rfl)⟩
                  · have hb : 0 ≤ x1 ∧ x1 ≤ x2 ∧ x2 ≤ n := of_decide_eq_true (hc _ (by simp))
                    obtain ⟨u, hr, hs⟩ := key x1.toNat x2.toNat (.inr ⟨k1, by rw [Int.toNat_of_nonneg hb.1]⟩) (.inr ⟨k2, by rw [Int.toNat_of_nonneg (by omega)]⟩) (by omega) (by omega)
                    exact ⟨u, hr, rfl, by simpa [SimV, SimA] using hs _ (fun i => rfl)⟩
            | val u =>
              simp only at he
              split at he
              · rename_i b0
                cases hb0 : decide (b0 = 0) with
                | false => rw [hb0] at he; cases he
                | true =>
                  rw [hb0] at he; cases he
                  have hb0 := of_decide_eq_true hb0
                  subst hb0
                  cases hx with
                  | c hx =>
                  cases hx
                  rcases hlo with ⟨_, rfl⟩ | ⟨k1, x1, e1, _⟩
                  · rcases hhi with ⟨e2, _⟩ | ⟨k2, x2, e2, rfl⟩
                    · cases e2
                    · cases e2
                      have := run_slice_slice (P := P) (w := w) (base := none) (n := 0) (c := 0) (lo := none) (hi' := some (.int k2 0)) (a := 0) (b := 0) hu hie (.inl ⟨rfl, rfl⟩) (.inr ⟨k2, rfl⟩) (Nat.le_refl _) (Nat.le_refl _) (Nat.le_refl _)
                      exact ⟨_, this, rfl, .c (.val _)⟩
                  · cases e1
              · cases he
            | _ => cases he
          | _ => cases he
        · simp only at he
          rcases hlo with ⟨rfl, rfl⟩ | ⟨k1, x1, rfl, rfl⟩
          · rcases hhi with ⟨rfl, rfl⟩ | ⟨k2, x2, rfl, rfl⟩
            · cases he
            · cases hlen : lenOf x with
              | none => rw [hlen] at he; cases he
              | some len =>
                rw [hlen] at he
                simp only at he
                cases hb : (x2 == 0) && (mm == 0) with
                | false => rw [hb] at he; cases he
                | true =>
                  rw [hb] at he
                  cases he
                  simp only [Bool.and_eq_true, beq_iff_eq] at hb
                  obtain ⟨rfl, rfl⟩ := hb
                  have hv : ∃ a n c, v = .slice a n c := by
                    cases hx with
                    | c hx => cases hx with
                      | val v => cases v <;> first | exact ⟨_, _, _, rfl⟩ | cases hlen
                      | e0 a => exact ⟨_, _, _, rfl⟩
                      | rd0 => exact ⟨_, _, _, rfl⟩
                      | rd => exact ⟨_, _, _, rfl⟩
                      | ls => cases hlen
                      | lsn => cases hlen
                    | sl => exact ⟨_, _, _, rfl⟩
                    | _ => cases hlen
                  obtain ⟨a, n, c, rfl⟩ := hv
                  refine ⟨.slice a 0 0, ?_, rfl, .c (.e0 a)⟩
                  cases a <;> simp [Instr.sliceAt, Instr.slice, run_underlying hu, Instr.sliceBounds, Instr.sliceBound, asIntOf, sizeOf, typeInfo, hie]
          · cases hhi' : hi <;> rw [hhi'] at he <;> cases he
    | string =>
      simp only at he
      cases x with
      | c x =>
        cases x with
        | val u =>
          cases hx with
          | c hx =>
            cases hx
            rcases hmx with ⟨rfl, rfl⟩ | ⟨km, mm, rfl, rfl⟩
            · cases v with
              | string s =>
                simp only at he
                cases he
                have key : ∀ (a' b' : Int), ((lov = none ∧ a' = 0) ∨ ∃ k, lov = some (.int k a')) → ((hiv = none ∧ b' = s.size) ∨ ∃ k, hiv = some (.int k b')) → 0 ≤ a' ∧ a' ≤ b' ∧ b' ≤ s.size →
                    (Instr.sliceAt t (.string s) lov hiv none).run P w = .ok (.string (s.extract a'.toNat b'.toNat)) w := by
                  rintro a' b' ha hb ⟨q1, q2, q3⟩
                  have q4 : 0 ≤ b' := by omega
                  have q5 : a' ≤ (b'.toNat : Int) := by omega
                  have q6 : a' ≤ (s.size : Int) := by omega
                  have q7 : ¬ max b' 0 < a' := by omega
                  rcases ha with ⟨rfl, rfl⟩ | ⟨k, rfl⟩ <;> rcases hb with ⟨rfl, rfl⟩ | ⟨k', rfl⟩ <;>
                    simp [Instr.sliceAt, Instr.slice, run_underlying hu, Instr.sliceBounds, Instr.sliceBound, asIntOf, q1, q2, q3, q4, q5, q6] <;> (first | done | (intro hh; exact absurd hh q7))
                rcases hlo with ⟨rfl, rfl⟩ | ⟨k1, x1, rfl, rfl⟩ <;> rcases hhi with ⟨rfl, rfl⟩ | ⟨k2, x2, rfl, rfl⟩
                · exact ⟨_, key 0 s.size (.inl ⟨rfl, rfl⟩) (.inl ⟨rfl, rfl⟩) (of_decide_eq_true (hc _ (by simp))), rfl, .c (.val _)⟩
                · exact ⟨_, key 0 x2 (.inl ⟨rfl, rfl⟩) (.inr ⟨k2, rfl⟩) (of_decide_eq_true (hc _ (by simp))), rfl, .c (.val _)⟩
                · exact ⟨_, key x1 s.size (.inr ⟨k1, rfl⟩) (.inl ⟨rfl, rfl⟩) (of_decide_eq_true (hc _ (by simp))), rfl, .c (.val _)⟩
                · exact ⟨_, key x1 x2 (.inr ⟨k1, rfl⟩) (.inr ⟨k2, rfl⟩) (of_decide_eq_true (hc _ (by simp))), rfl, .c (.val _)⟩
              | _ => cases he
            · cases v <;> cases he
        | _ => cases he
      | _ => cases he
    | _ => cases he
theorem run_evSlice {t : TypeId} {x : SC} {v : Value} {lo hi mx : Option Int} {lov hiv mxv : Option Value} {eff : Eff} (H : HeapRel X w m h) (hx : SimS w m (MX X m h) x v)
    (hlo : (lo = none ∧ lov = none) ∨ ∃ k n, lo = some n ∧ lov = some (.int k n)) (hhi : (hi = none ∧ hiv = none) ∨ ∃ k n, hi = some n ∧ hiv = some (.int k n)) (hmx : (mx = none ∧ mxv = none) ∨ ∃ k n, mx = some n ∧ mxv = some (.int k n))
    (he : evSlice P t (getO h) x lo hi mx = some eff) (hc : ∀ q ∈ eff.bs, q = true) :
    ∃ u, (Instr.sliceAt t v lov hiv mxv).run P w = .ok u w ∧ eff.ws = [] ∧ SimV w m (MX X m h) eff.r u :=
  run_evSlice0 H (SimS.vw H (fun _ _ => rfl) hx) hlo hhi hmx he hc
end
end Go.AM
namespace Go.AM
open Go Go.RowKit
set_option linter.unusedVariables false
set_option linter.unusedSimpArgs false
section
variable {P : Program} {X : Mu} {w : World} {m : Locs} {h : List AObj} {M : Mu}
theorem run_intBin {op : BinOp} {t : TypeId} {k : IntKind} {a b : Int} {v : Value} {cs : List Bool} (he : intBin op k a b = some (v, cs)) (hc : ∀ q ∈ cs, q = true) :
    (binOp op t (.int k a) (.int k b)).run P w = .ok v w := by
  cases op <;> simp only [intBin, Option.some.injEq, Prod.mk.injEq] at he
  all_goals first | (cases he; done) | skip
  all_goals
    obtain ⟨rfl, rfl⟩ := he
    first
      | (simp [binOp, Op.intArith]; done)
      | (simp [binOp, Op.intCmp]; done)
      | (simp [binOp, Op.intBits]; done)
      | (have hb : b ≠ 0 := of_decide_eq_true (hc _ (by simp))
         simp [binOp, Op.intDiv, hb]; done)
theorem run_shiftBin {op : BinOp} {t : TypeId} {k k' : IntKind} {a b : Int} {v : Value} {cs : List Bool} (he : shiftBin op k a b = some (v, cs)) (hc : ∀ q ∈ cs, q = true) :
    (binOp op t (.int k a) (.int k' b)).run P w = .ok v w := by
  cases op <;> simp only [shiftBin, Option.some.injEq, Prod.mk.injEq] at he
  all_goals first | (cases he; done) | skip
  all_goals
    obtain ⟨rfl, rfl⟩ := he
    have hb : 0 ≤ b := of_decide_eq_true (hc _ (by simp))
    have hb' : ¬ b < 0 := by omega
    simp [binOp, Op.shift, hb']
theorem run_strBin {op : BinOp} {t : TypeId} {a b : ByteArray} {v : Value} {cs : List Bool} (he : strBin op a b = some (v, cs)) (hc : ∀ q ∈ cs, q = true) :
    (binOp op t (.string a) (.string b)).run P w = .ok v w := by
  cases op <;> simp only [strBin, Option.some.injEq, Prod.mk.injEq] at he
  all_goals first | (cases he; done) | skip
  all_goals
    obtain ⟨rfl, rfl⟩ := he
    first
      | (simp [binOp, Op.stringOp]; done)
      | (have hb : a.size + b.size ≤ 9223372036854775807 := of_decide_eq_true (hc _ (by simp))
         have hb' : ¬ (9223372036854775807 < (a.size : Int) + (b.size : Int)) := by omega
         simp [binOp, Op.stringOp, IntKind.max, IntKind.signed, IntKind.bits, hb']
         done)
theorem run_equalIn_nil0 (w : World) (d : Nat) {T e : TypeId} (a : Option Addr) (n c : Nat) (hT : P.underlying T = some (.slice e)) :
    (Op.equalIn (d + 1) T (.slice a n c) (.slice none 0 0)).run P w = .ok a.isNone w := by
  have hu := run_underlying (P := P) (w := w) hT
  cases a with
  | none => simp [Op.equalIn, hu]
  | some a => simp [Op.equalIn, hu]
theorem run_nilcmp0 {w : World} {T e : TypeId} {xo yo : Operand} {a : Option Addr} {n c : Nat} (hT : P.underlying T = some (.slice e)) :
    (do eqGuard .eql T xo yo (.slice a n c) (.slice none 0 0); binOp .eql T (.slice a n c) (.slice none 0 0) : Sem Value).run P w = .ok (.bool a.isNone) w := by
  have hq := run_equalIn_nil0 (P := P) w 9999 a n c hT
  have hg : (eqGuard .eql T xo yo (.slice a n c) (.slice none 0 0)).run P w = .ok () w := by simp [eqGuard]
  rw [Sem.run_bind, hg]
  simp [binOp, Op.equal, Op.maxDepth, hq]
theorem run_nilcmpN {w : World} {T e : TypeId} {xo yo : Operand} {a : Option Addr} {n c : Nat} (hT : P.underlying T = some (.slice e)) :
    (do eqGuard .neq T xo yo (.slice a n c) (.slice none 0 0); binOp .neq T (.slice a n c) (.slice none 0 0) : Sem Value).run P w = .ok (.bool (!a.isNone)) w := by
  have hq := run_equalIn_nil0 (P := P) w 9999 a n c hT
  have hg : (eqGuard .neq T xo yo (.slice a n c) (.slice none 0 0)).run P w = .ok () w := by simp [eqGuard]
  rw [Sem.run_bind, hg]
  simp [binOp, Op.equal, Op.maxDepth, hq]
theorem run_valBin {op : BinOp} {t : TypeId} {xo yo : Operand} {a b v : Value} {cs : List Bool} (he : valBin P op t a b = some (v, cs)) (hc : ∀ q ∈ cs, q = true) :
    (do eqGuard op t xo yo a b; binOp op t a b : Sem Value).run P w = .ok v w := by
  have hg : ∀ (a b : Value), (∀ cs ds, ¬ (a = .agg cs ∧ b = .agg ds)) → (¬ (a = .nilIface ∧ b = .nilIface)) → (eqGuard op t xo yo a b).run P w = .ok () w := by
    intro a b h1 h2
    unfold eqGuard
    cases op <;> simp
    all_goals
      split
      · rename_i x y; exact absurd ⟨rfl, rfl⟩ h2
      · rename_i x y cs ds; exact absurd ⟨rfl, rfl⟩ (h1 _ _)
      · rfl
  unfold valBin at he
  cases a with
  | int k a =>
    cases b with
    | int k' b =>
      simp only at he
      have hgi := hg (.int k a) (.int k' b) (by rintro _ _ ⟨h, _⟩; cases h) (by rintro ⟨h, _⟩; cases h)
      have hrun : (binOp op t (.int k a) (.int k' b)).run P w = .ok v w := by
        cases op with
        | shl => exact run_shiftBin he hc
        | shr => exact run_shiftBin he hc
        | _ =>
          simp only at he
          split at he
          · rename_i hk; subst hk; exact run_intBin he hc
          · cases he
      simp only [Sem.run_bind, hgi, Result.andThen_ok, hrun]
    | _ => cases he
  | string a =>
    cases b with
    | string b =>
      have hgi := hg (.string a) (.string b) (by rintro _ _ ⟨h, _⟩; cases h) (by rintro ⟨h, _⟩; cases h)
      simp only [Sem.run_bind, hgi, Result.andThen_ok, run_strBin he hc]
    | _ => cases he
  | bool a =>
    cases b with
    | bool b =>
      simp only at he
      cases hu : P.underlying t with
      | none => rw [hu] at he; cases op <;> cases he
      | some d =>
        rw [hu] at he
        cases d with
        | bool =>
          have hgi := hg (.bool a) (.bool b) (by rintro _ _ ⟨h, _⟩; cases h) (by rintro ⟨h, _⟩; cases h)
          cases op
          all_goals first | (cases he; done) | skip
          · simp only [Option.some.injEq, Prod.mk.injEq] at he
            obtain ⟨rfl, rfl⟩ := he
            simp only [Sem.run_bind, hgi, Result.andThen_ok]
            simp [binOp, Op.equal, Op.maxDepth, run_equalIn_bool' w 9999 t a b hu]
          · simp only [Option.some.injEq, Prod.mk.injEq] at he
            obtain ⟨rfl, rfl⟩ := he
            simp only [Sem.run_bind, hgi, Result.andThen_ok]
            simp [binOp, Op.equal, Op.maxDepth, run_equalIn_bool' w 9999 t a b hu]
        | _ => cases op <;> cases he
    | _ => cases he
  | slice a n c =>
    cases a with
    | some a => cases b <;> cases he
    | none =>
    cases n with
    | succ n => cases b <;> cases he
    | zero =>
    cases c with
    | succ c => cases b <;> cases he
    | zero =>
    cases b with
    | slice a' n' c' =>
      cases a' with
      | some a' => cases he
      | none =>
      cases n' with
      | succ n' => cases he
      | zero =>
      cases c' with
      | succ c' => cases he
      | zero =>
      simp only at he
      cases hu : P.underlying t with
      | none => rw [hu] at he; cases op <;> cases he
      | some d =>
        rw [hu] at he
        cases d with
        | slice e =>
          cases op
          all_goals first | (cases he; done) | skip
          · simp only [Option.some.injEq, Prod.mk.injEq] at he
            obtain ⟨rfl, rfl⟩ := he
            exact run_nilcmp0 hu
          · simp only [Option.some.injEq, Prod.mk.injEq] at he
            obtain ⟨rfl, rfl⟩ := he
            exact run_nilcmpN hu
        | _ => cases op <;> cases he
    | _ => cases he
  | _ => cases he
theorem run_eqVal {d : Nat} {t : TypeId} {x y : Value} {b : Bool} (he : eqVal P t x y = some b) : (Op.equalIn (d + 1) t x y).run P w = .ok b w := by
  unfold eqVal at he
  cases hu : P.underlying t with
  | none => rw [hu] at he; cases x <;> cases y <;> cases he
  | some dd =>
    rw [hu] at he
    cases dd <;> cases x <;> cases y
    all_goals first | (cases he; done) | skip
    · simp only [Option.some.injEq] at he; subst he; exact run_equalIn_bool' w d t _ _ hu
    · simp only at he
      split at he
      · rename_i hk; subst hk; cases he
        exact run_equalIn_int w d t _ _ _ _ hu
      · cases he
    · simp only [Option.some.injEq] at he; subst he; exact run_equalIn_string w d t _ _ hu
theorem cellV_sim {xs : List SC} {vs : Array Value} {i : Nat} {v : Value} (hL : SimL w m M xs vs) (hc : cellV xs i = some v) : vs[i]? = some v := by
  unfold cellV at hc
  cases hx : xs[i]? with
  | none => rw [hx] at hc; cases hc
  | some x =>
    rw [hx] at hc
    have hi : i < vs.size := by rw [hL.1]; exact lt_of_getElem? hx
    have hs := hL.2 i x hx
    cases x with
    | c x =>
      cases x with
      | val u =>
        simp only [Option.some.injEq] at hc; subst hc
        cases hs with
        | c hs => cases hs; simp [Array.getD, hi]
      | _ => cases hc
    | _ => cases hc
theorem eqLs_append {xs ys : List SC} : ∀ (l r : List (Nat × TypeId)), eqLs P xs ys (l ++ r) = match eqLs P xs ys l, eqLs P xs ys r with
    | some a, some b => some (a && b)
    | _, _ => none
  | [], r => by
    simp only [List.nil_append, eqLs]
    cases eqLs P xs ys r <;> simp
  | (off, t) :: l, r => by
    simp only [List.cons_append, eqLs, eqLs_append l r]
    cases cellV xs off with
    | none => rfl
    | some x =>
      cases cellV ys off with
      | none => rfl
      | some y =>
        simp only
        cases eqVal P t x y with
        | none => rfl
        | some a =>
          cases eqLs P xs ys l with
          | none => rfl
          | some b => cases eqLs P xs ys r with
            | none => rfl
            | some c => simp [Bool.and_assoc]
theorem extract_extract (xs : Array Value) (off n o s : Nat) (h1 : o + s ≤ n) : (xs.extract off (off + n)).extract o (o + s) = xs.extract (off + o) (off + o + s) := by
  rw [Array.extract_extract]
  congr 1
  omega
theorem part_shift {t : TypeId} {i : TypeInfo} (hi : P.info? t = some i) (xs : Array Value) (off n o : Nat) (h1 : o + i.size ≤ n) (h0 : 0 < i.size) :
    (part t (xs.extract off (off + n)) o).run P w = (part t xs (off + o)).run P w := by
  cases hu : P.underlying t with
  | none => simp [part, isAgg, underlying, hu, Sem.run_bind]
  | some d =>
    have hcell : (xs.extract off (off + n))[o]? = xs[off + o]? := by
      rw [Array.getElem?_extract]
      by_cases hx : off + o < xs.size
      · rw [if_pos (by omega)]
      · rw [if_neg (by omega), Array.getElem?_eq_none (by omega)]
    by_cases hag : isAggB P t = true
    · have hagg : (isAgg t).run P w = .ok true w := by
        unfold isAggB at hag; rw [hu] at hag
        unfold isAgg; simp only [Sem.run_bind, run_underlying hu, Result.andThen_ok]
        cases d <;> simp_all
      simp only [part, Sem.run_bind, hagg, Result.andThen_ok, if_true, run_sizeOf' hi, Sem.run_pure, extract_extract xs off n o i.size h1]
    · have hagg : (isAgg t).run P w = .ok false w := by
        unfold isAggB at hag; rw [hu] at hag
        unfold isAgg; simp only [Sem.run_bind, run_underlying hu, Result.andThen_ok]
        cases d <;> simp_all
      simp only [part, Sem.run_bind, hagg, Result.andThen_ok, Bool.false_eq_true, if_false, hcell]
theorem run_leaves : ∀ (d : Nat) (t : TypeId) (it : TypeInfo) (off : Nat) (ls : List (Nat × TypeId)) (e : Nat) (xs ys : Array Value) (b : Bool) (cx cy : List SC),
    P.info? t = some it → leaves P d t off = some ls → SimL w m M cx xs → SimL w m M cy ys → eqLs P cx cy ls = some b →
    ∃ vx vy : Value, (part t xs off).run P w = .ok vx w ∧ (part t ys off).run P w = .ok vy w ∧ (Op.equalIn (e + d) t vx vy).run P w = .ok b w := by
  intro d
  induction d with
  | zero => intro t it off ls e xs ys b cx cy _ hl; cases hl
  | succ d ih =>
    intro t it off ls e xs ys b cx cy hti hl hX hY hb
    simp only [leaves] at hl
    cases hu : P.underlying t with
    | none => rw [hu] at hl; cases hl
    | some dd =>
      rw [hu] at hl
      have scalar : ∀ (hsc : ∀ fs, dd ≠ .struct fs) (hsa : ∀ n e, dd ≠ .array n e), some [(off, t)] = some ls → ∃ vx vy : Value, (part t xs off).run P w = .ok vx w ∧ (part t ys off).run P w = .ok vy w ∧ (Op.equalIn (e + (d + 1)) t vx vy).run P w = .ok b w := by
        intro hsc hsa hls
        cases hls
        simp only [eqLs] at hb
        cases hcx : cellV cx off with
        | none => rw [hcx] at hb; cases hb
        | some x =>
          cases hcy : cellV cy off with
          | none => rw [hcx, hcy] at hb; cases hb
          | some y =>
            rw [hcx, hcy] at hb
            simp only at hb
            cases hev : eqVal P t x y with
            | none => rw [hev] at hb; cases hb
            | some b' =>
              rw [hev] at hb
              simp only [Option.some.injEq, Bool.and_true] at hb
              subst hb
              have hagg : (isAgg t).run P w = .ok false w := by
                unfold isAgg; simp only [Sem.run_bind, run_underlying hu, Result.andThen_ok]
                cases dd <;> first | rfl | exact absurd rfl (hsc _) | exact absurd rfl (hsa _ _)
              refine ⟨x, y, ?_, ?_, run_eqVal hev⟩
              · simp only [part, Sem.run_bind, hagg, Result.andThen_ok, Bool.false_eq_true, if_false, cellV_sim hX hcx, Sem.run_pure]
              · simp only [part, Sem.run_bind, hagg, Result.andThen_ok, Bool.false_eq_true, if_false, cellV_sim hY hcy, Sem.run_pure]
      cases dd with
      | struct fs =>
        simp only at hl
        cases hst : P.stoodInHeld t with
        | true => rw [hst] at hl; cases hl
        | false =>
          rw [hst] at hl
          simp only [cond_false] at hl
          have hagg : (isAgg t).run P w = .ok true w := by
            unfold isAgg; simp only [Sem.run_bind, run_underlying hu, Result.andThen_ok]; rfl
          have hcells : P.cellsOf t = it.size := by simp [Program.cellsOf, hti]
          rw [hcells] at hl
          refine ⟨.agg (xs.extract off (off + it.size)), .agg (ys.extract off (off + it.size)), ?_, ?_, ?_⟩
          · simp only [part, Sem.run_bind, hagg, Result.andThen_ok, if_true, run_sizeOf' hti, Sem.run_pure]
          · simp only [part, Sem.run_bind, hagg, Result.andThen_ok, if_true, run_sizeOf' hti, Sem.run_pure]
          · have hfs : P.fieldsOf t = fs := by simp [Program.fieldsOf, hu]
            have hd : e + (d + 1) = (e + d) + 1 := by omega
            rw [hd, run_equalIn_struct w (e + d) t _ _ (by rw [hfs]; exact hu) hst, hfs]
            clear hfs hu scalar
            generalize fs.toList = fl at hl
            induction fl generalizing ls b with
            | nil =>
              simp only [List.foldr_nil, Option.some.injEq] at hl; subst hl
              simp only [eqLs, Option.some.injEq] at hb; subst hb
              simp [Op.eqFields]
            | cons f fl ihf =>
              simp only [List.foldr_cons] at hl
              cases hlf : leaves P d f.type (off + f.offset) with
              | none => rw [hlf] at hl; cases hl
              | some lf =>
                rw [hlf] at hl
                generalize hacc : fl.foldr _ (some []) = acc at hl
                cases acc with
                | none => cases hl
                | some r =>
                  simp only at hl
                  cases hnm : (f.name == "_") with
                  | true => rw [hnm] at hl; cases hl
                  | false =>
                    rw [hnm] at hl
                    simp only [cond_false] at hl
                    cases hwi : within P it.size f.offset f.type with
                    | false => rw [hwi] at hl; cases hl
                    | true =>
                      rw [hwi] at hl
                      simp only [cond_true, Option.some.injEq] at hl
                      subst hl
                      unfold within at hwi
                      cases hif : P.info? f.type with
                      | none => rw [hif] at hwi; cases hwi
                      | some ifo =>
                        rw [hif] at hwi
                        simp only [Bool.and_eq_true] at hwi
                        have hw1 := Nat.le_of_ble_eq_true hwi.1
                        have hw2 : 0 < ifo.size := by have := hwi.2; simp only [Nat.blt] at this; exact Nat.le_of_ble_eq_true this
                        rw [eqLs_append] at hb
                        cases hb1 : eqLs P cx cy lf with
                        | none => rw [hb1] at hb; cases hb
                        | some b1 =>
                          cases hb2 : eqLs P cx cy r with
                          | none => rw [hb1, hb2] at hb; cases hb
                          | some b2 =>
                            rw [hb1, hb2] at hb
                            simp only [Option.some.injEq] at hb
                            obtain ⟨vx, vy, q1, q2, q3⟩ := ih f.type ifo (off + f.offset) lf e xs ys b1 cx cy hif hlf hX hY hb1
                            have hrest := ihf r b2 hb2 hacc
                            have hne : f.name ≠ "_" := by intro hh; rw [hh] at hnm; simp at hnm
                            simp only [Op.eqFields, if_pos hne, Sem.run_bind, part_shift hif xs off it.size f.offset hw1 hw2, part_shift hif ys off it.size f.offset hw1 hw2, q1, q2, q3, Result.andThen_ok, Sem.run_ite, Sem.run_pure, hrest]
                            subst hb
                            cases b1 <;> cases b2 <;> simp
      | array n e => cases hl
      | _ => exact scalar (fun _ h => by cases h) (fun _ _ h => by cases h) hl
end
end Go.AM
namespace Go.AM
open Go Go.RowKit
set_option linter.unusedVariables false
set_option linter.unusedSimpArgs false
section
variable {P : Program} {X : Mu} {w : World} {m : Locs} {h : List AObj} {M : Mu}
theorem run_evBin {op : BinOp} {t : TypeId} {xo yo : Operand} {x y : SV} {a b : Value} {eff : Eff} (hx : SimV w m M x a) (hy : SimV w m M y b) (he : evBin P op t x y = some eff) (hc : ∀ q ∈ eff.bs, q = true) :
  ∃ v, (do eqGuard op t xo yo a b; binOp op t a b : Sem Value).run P w = .ok v w ∧ eff.ws = [] ∧ SimV w m M eff.r v := by
 unfold evBin at he
 split at he
 ·rename_i a' b'
  cases hx with
  | c hx => cases hx; cases hy with
   | c hy =>
    cases hy
    cases hv : valBin P op t a b with
    | none => rw [hv] at he; cases he
    | some q =>
     obtain ⟨v, cs⟩ := q
     rw [hv] at he
     cases he
     exact ⟨v, run_valBin hv hc, rfl, .c (.val v)⟩
 ·rename_i t' x' xs'
  cases hx with
  | c hx => cases hy with
   | c hy =>
    cases hy
    obtain ⟨ad, n, c, rfl, hsome⟩ : ∃ ad n c, a = .slice ad n c ∧ ad.isNone = false := by
     cases hx with
     | ls _ _ _ h =>
      generalize hn : (x' :: xs').length = n at h
      generalize fE t' (x' :: xs') = f at h
      cases h with
      | rd0 _ _ ad cap => simp at hn
      | rd _ _ _ b off cap => exact ⟨_, _, cap, rfl, rfl⟩
    cases hu : P.underlying t with
    | none => rw [hu] at he; cases op <;> cases he
    | some d =>
     rw [hu] at he
     cases d with
     | slice e =>
      cases op
      all_goals first | (cases he; done) | skip
      ·cases he
       exact ⟨_, run_nilcmp0 hu, rfl, by rw [hsome]; exact .c (.val _)⟩
      ·cases he
       exact ⟨_, run_nilcmpN hu, rfl, by rw [hsome]; exact .c (.val _)⟩
     | _ => cases op <;> cases he
 ·rename_i xs ys
  obtain ⟨vx, rfl, hX⟩ := hx
  obtain ⟨vy, rfl, hY⟩ := hy
  cases hb : (P.eqGuardType P.depth t || !(isAggB P t && (P.info? t).isSome && Nat.beq xs.length (P.cellsOf t) && Nat.beq ys.length (P.cellsOf t))) with
  | true => rw [hb] at he; cases he
  | false =>
   rw [hb] at he
   simp only [cond_false] at he
   simp only [Bool.or_eq_false_iff, Bool.not_eq_false', Bool.and_eq_true] at hb
   obtain ⟨hgt, ⟨⟨hag, his⟩, hlx⟩, hly⟩ := hb
   have hlx := Nat.eq_of_beq_eq_true hlx
   have hly := Nat.eq_of_beq_eq_true hly
   cases hti : P.info? t with
   | none => rw [hti] at his; cases his
   | some it =>
    have hcells : P.cellsOf t = it.size := by simp [Program.cellsOf, hti]
    cases hl : leaves P 100 t 0 with
    | none => rw [hl] at he; cases he
    | some ls =>
     rw [hl] at he
     simp only at he
     cases hq : eqLs P xs ys ls with
     | none => rw [hq] at he; cases op <;> cases he
     | some bb =>
      rw [hq] at he
      obtain ⟨ux, uy, q1, q2, q3⟩ := run_leaves (w := w) 100 t it 0 ls 9900 vx vy bb xs ys hti hl hX hY hq
      have hagg : (isAgg t).run P w = .ok true w := by
       unfold isAggB at hag
       cases hu : P.underlying t with
       | none => rw [hu] at hag; cases hag
       | some d =>
        rw [hu] at hag
        unfold isAgg; simp only [Sem.run_bind, run_underlying hu, Result.andThen_ok]
        cases d <;> simp_all
      have ex : ux = .agg vx := by
       simp only [part, Sem.run_bind, hagg, Result.andThen_ok, if_true, run_sizeOf' hti, Sem.run_pure] at q1
       have := (Result.ok.inj q1).1
       rw [← this]
       congr 1
       have hs : vx.size = it.size := by rw [hX.1, hlx, hcells]
       rw [Nat.zero_add, ← hs, Array.extract_size]
      have ey : uy = .agg vy := by
       simp only [part, Sem.run_bind, hagg, Result.andThen_ok, if_true, run_sizeOf' hti, Sem.run_pure] at q2
       have := (Result.ok.inj q2).1
       rw [← this]
       congr 1
       have hs : vy.size = it.size := by rw [hY.1, hly, hcells]
       rw [Nat.zero_add, ← hs, Array.extract_size]
      subst ex; subst ey
      have q3' : (Op.equalIn 10000 t (.agg vx) (.agg vy)).run P w = .ok bb w := q3
      have hg := run_eqGuard_agg (P := P) w op t xo yo vx vy hgt
      cases op
      all_goals first | (cases he; done) | skip
      ·simp only [Option.some.injEq] at he; subst he
       refine ⟨.bool bb, ?_, rfl, .c (.val _)⟩
       simp only [Sem.run_bind, hg, Result.andThen_ok, run_eql_struct, q3']
      ·simp only [Option.some.injEq] at he; subst he
       refine ⟨.bool (!bb), ?_, rfl, .c (.val _)⟩
       simp only [Sem.run_bind, hg, Result.andThen_ok, run_neq_struct, q3']
 ·cases he
theorem lenOf_sim {x : SC} {v : Value} {n : Nat} (hx : SimS w m M x v) (hl : lenOf x = some n) : ∃ a c, v = .slice a n c := by
 unfold lenOf at hl
 cases hx with
 | c hx =>
  cases hx with
  | val v =>
   cases v <;> first | (cases hl; done) | skip
   simp only [Option.some.injEq] at hl; subst hl; exact ⟨_, _, rfl⟩
  | e0 a => simp only [Option.some.injEq] at hl; subst hl; exact ⟨_, _, rfl⟩
  | rd0 => simp only [Option.some.injEq] at hl; subst hl; exact ⟨_, _, rfl⟩
  | rd => simp only [Option.some.injEq] at hl; subst hl; exact ⟨_, _, rfl⟩
  | ls => cases hl
  | lsn => cases hl
 | sl => simp only [Option.some.injEq] at hl; subst hl; exact ⟨_, _, rfl⟩
 | _ => cases hl
theorem strLen_sim {x : SV} {v : Value} {n : Nat} (hx : SimV w m M x v) (hl : strLen x = some n) : ∃ s, v = .string s ∧ n = s.size := by
 unfold strLen at hl
 split at hl
 ·cases hl
  cases hx with
  | c hx => cases hx; exact ⟨_, rfl, rfl⟩
 ·cases hl
theorem run_evLen {X : Mu} {h : List AObj} (H : HeapRel X w m h) {t ty : TypeId} {ts : List TypeId} {x : SV} {v : Value} {eff : Eff} (hx : SimV w m (MX X m h) x v) (he : evLen P (getO h) t x = some eff) :
  ∃ u, (Builtin.len_ (t :: ts).toArray ty #[v]).run P w = .ok u w ∧ eff.ws = [] ∧ SimV w m (MX X m h) eff.r u := by
 unfold evLen at he
 cases hu : P.underlying t with
 | none => rw [hu] at he; cases he
 | some d =>
  rw [hu] at he
  cases d with
  | string =>
   simp only at he
   cases hs : strLen x with
   | none => rw [hs] at he; cases he
   | some n =>
    rw [hs] at he; cases he
    obtain ⟨s, rfl, rfl⟩ := strLen_sim hx hs
    refine ⟨_, ?_, rfl, .c (.val _)⟩
    simp [Builtin.len_, run_underlying hu, goInt]
  | slice e =>
   simp only at he
   cases x with
   | tup vs => cases he
   | one a =>
    cases a with
    | agg cs => cases he
    | s y =>
     simp only at he
     cases hl : lenOf (vw (getO h) y) with
     | none => rw [hl] at he; cases he
     | some n =>
      rw [hl] at he
      cases he
      obtain ⟨a, c, rfl⟩ := lenOf_sim (SimS.vw H (fun _ _ => rfl) hx) hl
      refine ⟨_, ?_, rfl, .c (.val _)⟩
      simp [Builtin.len_, run_underlying hu, goInt]
  | array n e =>
   cases he
   refine ⟨_, ?_, rfl, .c (.val _)⟩
   simp [Builtin.len_, run_underlying hu, goInt]
  | _ => cases he
theorem run_minI : ∀ (r : List Value) (acc : Value) (v : Value), r.foldl (fun acc v => match acc, v with
  | some (.int k x), .int _ y => some (.int k (if y < x then y else x))
  | _, _ => none) (some acc) = some v → (r.foldlM Builtin.min2 acc : Sem Value).run P w = .ok v w
 | [], acc, v, hv => by simp at hv; subst hv; simp
 | u :: r, acc, v, hv => by
  rw [List.foldl_cons] at hv
  have hnone : ∀ r : List Value, r.foldl (fun acc v => match acc, v with
    | some (.int k x), .int _ y => some (.int k (if y < x then y else x))
    | _, _ => none) (none : Option Value) = none := by
   intro r; induction r with
   | nil => rfl
   | cons a r ih => rw [List.foldl_cons]; exact ih
  cases acc <;> try (simp only [hnone] at hv; cases hv; done)
  cases u <;> try (simp only [hnone] at hv; cases hv; done)
  simp only at hv
  have ih := run_minI r _ v hv
  simp only [List.foldlM_cons, Sem.run_bind, Builtin.min2, Sem.run_pure, Result.andThen_ok]
  exact ih
theorem run_maxI : ∀ (r : List Value) (acc : Value) (v : Value), r.foldl (fun acc v => match acc, v with
  | some (.int k x), .int _ y => some (.int k (if x < y then y else x))
  | _, _ => none) (some acc) = some v → (r.foldlM Builtin.max2 acc : Sem Value).run P w = .ok v w
 | [], acc, v, hv => by simp at hv; subst hv; simp
 | u :: r, acc, v, hv => by
  rw [List.foldl_cons] at hv
  have hnone : ∀ r : List Value, r.foldl (fun acc v => match acc, v with
    | some (.int k x), .int _ y => some (.int k (if x < y then y else x))
    | _, _ => none) (none : Option Value) = none := by
   intro r; induction r with
   | nil => rfl
   | cons a r ih => rw [List.foldl_cons]; exact ih
  cases acc <;> try (simp only [hnone] at hv; cases hv; done)
  cases u <;> try (simp only [hnone] at hv; cases hv; done)
  simp only at hv
  have ih := run_maxI r _ v hv
  simp only [List.foldlM_cons, Sem.run_bind, Builtin.max2, Sem.run_pure, Result.andThen_ok]
  exact ih
theorem run_min {vs : List Value} {v : Value} (hv : minI vs = some v) (ts : Array TypeId) (ty : TypeId) : (Builtin.min_ ts ty vs.toArray).run P w = .ok v w := by
 cases vs with
 | nil => cases hv
 | cons x r =>
  cases x <;> try (cases hv; done)
  simp only [minI] at hv
  simp only [Builtin.min_]
  exact run_minI r _ v hv
theorem run_max {vs : List Value} {v : Value} (hv : maxI vs = some v) (ts : Array TypeId) (ty : TypeId) : (Builtin.max_ ts ty vs.toArray).run P w = .ok v w := by
 cases vs with
 | nil => cases hv
 | cons x r =>
  cases x <;> try (cases hv; done)
  simp only [maxI] at hv
  simp only [Builtin.max_]
  exact run_maxI r _ v hv
theorem allVals_sim {ρ : Operand → Option SV} {ev : Operand → Value} (hρ : ∀ x s, ρ x = some s → SimV w m M s (ev x)) : ∀ {xs : List Operand} {vs : List Value}, allVals ρ xs = some vs → xs.map ev = vs
 | [], vs, hv => by simp [allVals] at hv; subst hv; rfl
 | x :: xs, vs, hv => by
  simp only [allVals] at hv
  split at hv
  ·rename_i v l h1 h2
   cases hv
   have := hρ x _ h1
   cases this with
   | c hc => cases hc; rw [List.map_cons, allVals_sim hρ h2]
  ·cases hv
theorem partsOf_sim {ρ : Operand → Option SV} {ev : Operand → Value} (hρ : ∀ x s, ρ x = some s → SimV w m M s (ev x)) : ∀ {ps : List (Nat × Operand)} {l : List (Nat × AV)}, partsOf ρ ps = some l →
  All2 (fun (a : Nat × AV) (b : Nat × Value) => a.1 = b.1 ∧ SimA w m M a.2 b.2) l (ps.map fun (i, x) => (i, ev x))
 | [], l, hv => by simp [partsOf] at hv; subst hv; exact .nil
 | (i, x) :: ps, l, hv => by
  simp only [partsOf] at hv
  split at hv
  ·rename_i v l' h1 h2
   cases hv
   exact .cons ⟨rfl, hρ x _ h1⟩ (partsOf_sim hρ h2)
  ·cases hv
theorem capsOf_sim {ρ : Operand → Option SV} {ev : Operand → Value} (hρ : ∀ x s, ρ x = some s → SimV w m M s (ev x)) : ∀ {xs : List Operand} {ks : List Nat}, capsOf ρ xs = some ks →
  xs.length = ks.length ∧ ∀ (i : Nat) k, ks[i]? = some k → ∃ l b, m k = some l ∧ l.blk = some b ∧ (xs.map ev)[i]? = some (.pointer (some ⟨b, 0, none⟩))
 | [], ks, hv => by simp [capsOf] at hv; subst hv; exact ⟨rfl, fun i k hi => by simp at hi⟩
 | x :: xs, ks, hv => by
  simp only [capsOf] at hv
  split at hv
  ·rename_i k l h1 h2
   cases hv
   obtain ⟨q1, q2⟩ := capsOf_sim hρ h2
   refine ⟨by simp [q1], fun i k' hi => ?_⟩
   cases i with
   | zero =>
    simp at hi; subst hi
    have := hρ x _ h1
    generalize hev : ev x = v at this
    cases this with
    | pb _ _ b l hk hb => exact ⟨l, b, hk, hb, by simp [hev]⟩
   | succ i => simpa using q2 i k' (by simpa using hi)
  ·cases hv
theorem intOpt_sim {ρ : Operand → Option SV} {ev : Operand → Value} (hρ : ∀ x s, ρ x = some s → SimV w m M s (ev x)) {o : Option Operand} {r : Option Int} (hr : intOpt ρ o = some r) :
  (r = none ∧ o.map ev = none) ∨ ∃ k n, r = some n ∧ o.map ev = some (.int k n) := by
 cases o with
 | none => simp [intOpt] at hr; subst hr; exact .inl ⟨rfl, rfl⟩
 | some x =>
  simp only [intOpt] at hr
  split at hr
  ·rename_i k n h1
   cases hr
   have := hρ x _ h1
   generalize hev : ev x = v at this
   cases this with
   | c hc => cases hc; exact .inr ⟨k, n, rfl, by simp [hev]⟩
  ·cases hr
end
end Go.AM
namespace Go.AM
open Go Go.RowKit
set_option linter.unusedVariables false
set_option linter.unusedSimpArgs false
def pairV (p : Int × Int) : Value × Value := (.int .i64 p.1, .int .i64 p.2)
def rowV (e : MapEntry) : Value × Value := (e.key, e.val)
theorem putM_none {n u : Int} : ∀ {es : List (Int × Int)}, (∀ p ∈ es, p.1 ≠ n) → putM es n u = es ++ [(n, u)]
 | [], _ => rfl
 | (a, b) :: r, h => by
  have h1 : a ≠ n := h (a, b) (by simp)
  simp only [putM, h1, decide_false, cond_false, List.cons_append]
  rw [putM_none fun p hp => h p (by simp [hp])]
theorem lookM_none {z n : Int} : ∀ {es : List (Int × Int)}, (∀ p ∈ es, p.1 ≠ n) → lookM z es n = z
 | [], _ => rfl
 | (a, b) :: r, h => by
  have h1 : a ≠ n := h (a, b) (by simp)
  simp only [lookM, h1, decide_false, cond_false]
  exact lookM_none fun p hp => h p (by simp [hp])
theorem find_rows {n : Int} : ∀ (rows : List MapEntry) (es : List (Int × Int)) (i : Nat), rows.map rowV = es.map pairV →
  (Instr.findNow (.int .i64) (.int .i64 n) rows i = some none ∧ ∀ p ∈ es, p.1 ≠ n) ∨
  ∃ j e v, Instr.findNow (.int .i64) (.int .i64 n) rows i = some (some (i + j, .int .i64 v)) ∧ rows[j]? = some e ∧ e.key = .int .i64 n ∧ (∀ z, lookM z es n = v) ∧
   ∀ u, (rows.modify j fun e => { e with key := .int .i64 n, val := .int .i64 u }).map rowV = (putM es n u).map pairV
 | [], [], i, _ => .inl ⟨rfl, by simp⟩
 | [], _ :: _, i, h => by simp at h
 | _ :: _, [], i, h => by simp at h
 | e :: rows, (a, b) :: es, i, h => by
  simp only [List.map_cons, List.cons.injEq] at h
  obtain ⟨h1, h2⟩ := h
  have hk : e.key = .int .i64 a := (Prod.mk.inj h1).1
  have hv : e.val = .int .i64 b := (Prod.mk.inj h1).2
  by_cases ha : a = n
  ·subst ha
   refine .inr ⟨0, e, b, ?_, rfl, hk, fun z => by simp [lookM], fun u => ?_⟩
   ·simp [Instr.findNow, Instr.sameNow, hk, hv]
   ·simp [List.modify, putM, rowV, pairV, h2]
  ·rcases find_rows (n := n) rows es (i + 1) h2 with ⟨q1, q2⟩ | ⟨j, e', v, q1, q2, q3, q4, q5⟩
   ·refine .inl ⟨?_, ?_⟩
    ·have : (n == a) = false := beq_eq_false_iff_ne.2 fun h => ha h.symm
     simp [Instr.findNow, Instr.sameNow, hk, this, q1]
    ·intro p hp
     rcases List.mem_cons.1 hp with rfl | hp
     ·exact ha
     ·exact q2 p hp
   ·refine .inr ⟨j + 1, e', v, ?_, by simpa using q2, q3, fun z => ?_, fun u => ?_⟩
    ·have : (n == a) = false := beq_eq_false_iff_ne.2 fun h => ha h.symm
     simp [Instr.findNow, Instr.sameNow, hk, this, q1, Nat.add_assoc, Nat.add_comm 1 j]
    ·simp [lookM, ha, q4 z]
    ·have := q5 u
     simp only [putM, ha, decide_false, cond_false, List.map_cons, List.modify_succ_cons, h1, this]
section
variable {P : Program} {X : Mu} {w : World} {m : Locs} {h : List AObj}
theorem mapTy_spec {t : TypeId} {z : Int} (ht : mapTy P t = some z) : ∃ k e i, P.underlying t = some (.map k e) ∧ P.underlying k = some (.int .i64) ∧ P.info? e = some i ∧ i.zero = some (.int .i64 z) := by
 unfold mapTy at ht
 split at ht
 ·rename_i k e h1
  split at ht
  ·rename_i i h2 h3
   split at ht
   ·rename_i z' h4; cases ht; exact ⟨k, e, i, h1, h2, h3, h4⟩
   ·cases ht
  ·cases ht
 ·cases ht
theorem run_makeMap (H : HeapRel X w m h) {id : Nat} (hid : h[id]? = some .dead) (hm : m id = none) (t : TypeId) :
  ∃ w' m' v, (Instr.makeMap t none).run P w = .ok v w' ∧ Stp X w m h w' m' (applyWs h [(id, .mp [])]) ∧ SimS w' m' (MX X m' (applyWs h [(id, .mp [])])) (.mp id) v := by
 let l : Loc := ⟨some ⟨w.heap.size, 0, none⟩, 0, 0, some w.heap.size, 0⟩
 refine ⟨w.alloc (.map #[] 0), setM m id l, .map (some w.heap.size), by simp [Instr.makeMap, Result.andThen], ?_, .mp id w.heap.size l (by simp [setM]) rfl⟩
 refine Stp.make H hid hm none l (.mp []) trivial rfl rfl ⟨rfl, Nat.le_refl _⟩ (by simp) (fun b hb => .inl (heap_push_old w _ b hb)) (fun b hb => ?_) (fun hLt => ?_)
 ·cases hb; exact .inl (Nat.le_refl _)
 ·exact ⟨l, w.heap.size, #[], 0, by simp [setM], rfl, alloc_new w _, rfl⟩
theorem run_evLook (H : HeapRel X w m h) {t : TypeId} {ok : Bool} {sx si : Option SV} {x i : Value} {eff : Eff} (hx : ∀ s, sx = some s → SimV w m (MX X m h) s x) (hi : ∀ s, si = some s → SimV w m (MX X m h) s i)
  (he : evLook P (getO h) t sx si ok = some eff) : ∃ v, (Instr.lookup t x i ok).run P w = .ok v w ∧ eff.ws = [] ∧ SimV w m (MX X m h) eff.r v := by
 unfold evLook at he
 split at he
 ·rename_i z k n ht
  split at he
  ·rename_i es hg
   cases he
   have h1 := hx _ rfl
   have h2 := hi _ rfl
   cases h1 with
   | mp _ b l hk hb =>
   cases h2 with
   | c h2 =>
   cases h2
   obtain ⟨kt, et, inf, u1, u2, u3, u4⟩ := mapTy_spec ht
   obtain ⟨l', b', rows, clock, e1, e2, e3, e4⟩ := H.obj k _ (getO_eq hg trivial)
   rw [hk] at e1; cases e1; rw [hb] at e2; cases e2
   have hkey : MapKept.IsKey (.int .i64) (.int .i64 n) := rfl
   have e4' : rows.toList.map rowV = es.map pairV := e4
   rcases find_rows (n := n) rows.toList es 0 e4' with ⟨q1, q2⟩ | ⟨j, e, v, q1, q2, q3, q4, q5⟩
   ·refine ⟨.int .i64 z, ?_, rfl, ?_⟩
    ·simp [Instr.lookup, run_underlying u1, MapKept.run_getObj_map e3, MapKept.run_checkKey u2 hkey, MapKept.run_findKey u2 q1, run_zeroValue' u3 u4, Result.andThen]
    ·rw [lookM_none q2]; exact .c (.val _)
   ·refine ⟨.int .i64 v, ?_, rfl, ?_⟩
    ·simp [Instr.lookup, run_underlying u1, MapKept.run_getObj_map e3, MapKept.run_checkKey u2 hkey, MapKept.run_findKey u2 q1, Result.andThen]
    ·rw [q4 z]; exact .c (.val _)
  ·cases he
 ·cases he
theorem run_evPut (H : HeapRel X w m h) {t : TypeId} {sx si sv : Option SV} {x i v : Value} {eff : Eff} (hx : ∀ s, sx = some s → SimV w m (MX X m h) s x) (hi : ∀ s, si = some s → SimV w m (MX X m h) s i)
  (hv : ∀ s, sv = some s → SimV w m (MX X m h) s v) (he : evPut P (getO h) t sx si sv = some eff) :
  ∃ w', (Instr.mapUpdate t x i v).run P w = .ok () w' ∧ eff.r = mkv undef ∧ Stp X w m h w' m (applyWs h eff.ws) := by
 unfold evPut at he
 split at he
 ·rename_i z k n u ht
  split at he
  ·rename_i es hg
   cases he
   have h1 := hx _ rfl
   have h2 := hi _ rfl
   have h3 := hv _ rfl
   cases h1 with
   | mp _ b l hk hb =>
   cases h2 with
   | c h2 =>
   cases h2
   cases h3 with
   | c h3 =>
   cases h3
   obtain ⟨kt, et, inf, u1, u2, u3, u4⟩ := mapTy_spec ht
   have hget := getO_eq hg trivial
   obtain ⟨l', b', rows, clock, e1, e2, e3, e4⟩ := H.obj k _ hget
   rw [hk] at e1; cases e1; rw [hb] at e2; cases e2
   have hkey : MapKept.IsKey (.int .i64) (.int .i64 n) := rfl
   have e4' : rows.toList.map rowV = es.map pairV := e4
   have write : ∀ (rows' : Array MapEntry) (c' : Nat), rows'.toList.map rowV = (putM es n u).map pairV →
     Stp X w m h { w with heap := w.heap.setIfInBounds b (.map rows' c') } m (applyWs h [(k, .mp (putM es n u))]) := by
    intro rows' c' hr
    refine Stp.write H hget trivial hk hb rfl rfl ⟨rfl, Nat.le_refl _⟩ (by simp) (fun c _ hc => (MapKept.heap_set e3).2 c hc) (fun hLt => ?_)
    exact ⟨l, b, rows', c', hk, hb, (MapKept.heap_set e3).1, hr⟩
   rcases find_rows (n := n) rows.toList es 0 e4' with ⟨q1, q2⟩ | ⟨j, e, v', q1, q2, q3, q4, q5⟩
   ·refine ⟨_, ?_, rfl, write (rows.push { key := .int .i64 n, val := .int .i64 u, born := clock }) (clock + 1) ?_⟩
    ·simp [Instr.mapUpdate, run_underlying u1, MapKept.run_getObj_map e3, MapKept.run_checkKey u2 hkey, MapKept.run_findKey u2 q1, MapKept.run_setObj_map _ e3, Result.andThen]
    ·rw [putM_none q2, Array.toList_push, List.map_append, List.map_append, e4']; rfl
   ·have hj : rows[j]? = some e := by simpa using q2
    refine ⟨_, ?_, rfl, write (rows.modify j fun e => { e with key := .int .i64 n, val := .int .i64 u }) clock ?_⟩
    ·simp [Instr.mapUpdate, run_underlying u1, MapKept.run_getObj_map e3, MapKept.run_checkKey u2 hkey, MapKept.run_findKey u2 q1, hj, q3, MapKept.run_keyThatStays hkey, MapKept.run_setObj_map _ e3, Result.andThen]
    ·rw [Array.toList_modify]; exact q5 u
  ·cases he
 ·cases he
end
end Go.AM
namespace Go.AM
open Go Go.RowKit
set_option linter.unusedVariables false
set_option linter.unusedSimpArgs false
section
variable {P : Program} {X : Mu} {w : World} {m : Locs} {h : List AObj}
theorem run_cap_nil {t ty : TypeId} {e : TypeId} {ts : List TypeId} (hu : P.underlying t = some (.slice e)) : (Builtin.cap_ (t :: ts).toArray ty #[.slice none 0 0]).run P w = .ok (.int .i64 0) w := by
 simp [Builtin.cap_, run_underlying hu, goInt]
theorem run_zeros {t u e ty : TypeId} {i : TypeInfo} {zv : Value} {q k : IntKind} {n : Int} (hu : P.underlying t = some (.slice e)) (hu' : P.underlying u = some (.int q)) (hi : P.info? e = some i) (hz : i.zero = some zv)
  (h1 : i.size = 1) (hb : 0 < i.bytes) (hn : 0 < n ∧ n * i.bytes ≤ 140737488355328) :
  (Builtin.append_ #[t, u] ty #[.slice none 0 0, .int k n]).run P w =
   .ok (.slice (some ⟨w.heap.size, 0, none⟩) n.toNat (grownCap w n.toNat 0 e))
    (w.drew.alloc (.cells (Builtin.zeroCells zv.cells n.toNat ++ Builtin.zeroCells zv.cells (grownCap w n.toNat 0 e - n.toNat)) e)) := by
 obtain ⟨N, rfl⟩ : ∃ N : Nat, n = (N : Int) := ⟨n.toNat, by omega⟩
 obtain ⟨hn1, hn2⟩ := hn
 have hN : (N : Int) ≤ N * i.bytes := by
  have : N * 1 ≤ N * i.bytes := Nat.mul_le_mul_left _ hb
  rw [Nat.mul_one] at this
  exact_mod_cast this
 have wl : IntKind.i64.wrap (N : Int) = (N : Int) := IntWalk.i64_in _ (by omega)
 have h9 : ((N * i.bytes : Nat) : Int) ≤ 140737488355328 := by rw [Int.natCast_mul]; exact hn2
 have hN2 : N * i.bytes ≤ 140737488355328 := by omega
 have c1 : ¬ ((N : Int) < 0) := by omega
 have c2 : ¬ (281474976710656 < (N : Int) * i.bytes) := by omega
 have c3 : ¬ N = 0 := by omega
 have c4 : ¬ (9223372036854775807 < (N : Int)) := by omega
 have c5 : Builtin.nextslicecap N 0 = N := by unfold Builtin.nextslicecap; rw [if_pos (by omega)]
 have c6 : ¬ (281474976710656 < N * i.bytes) := by omega
 simp [Builtin.append_, run_underlying hu, run_underlying hu', sizeOf, typeInfo, zeroValue, hi, hz, h1, asInt, asIntOf, wl, c1, c2, c3, c4, c5, c6, Question.forced, Builtin.firstCells, newRow, grownCap]
theorem run_evGrow (H : HeapRel X w m h) {id : Nat} (hid : h[id]? = some .dead) (hm : m id = none) {t u ty : TypeId} {q k : IntKind} {n : Int} (hu' : P.underlying u = some (.int q)) {eff : Eff}
  (he : evGrow P t id n = some eff) (hc : ∀ q ∈ eff.bs, q = true) :
  ∃ v w' m', (Builtin.append_ #[t, u] ty #[.slice none 0 0, .int k n]).run P w = .ok v w' ∧ Stp X w m h w' m' (applyWs h eff.ws) ∧ SimV w' m' (MX X m' (applyWs h eff.ws)) eff.r v := by
 unfold evGrow at he
 cases hei : elemInfo P t with
 | none => rw [hei] at he; cases he
 | some qq =>
  obtain ⟨e, i, z⟩ := qq
  rw [hei] at he
  simp only at he
  cases hs1 : Nat.beq i.size 1 with
  | false => rw [hs1] at he; cases he
  | true =>
   rw [hs1] at he
   cases he
   have hs1 := Nat.eq_of_beq_eq_true hs1
   obtain ⟨hu, hi, ⟨zv, hz, hzc⟩, hzs, hz1, hpos, hbpos⟩ := elemInfo_spec hei
   have hn : 0 < n ∧ n * i.bytes ≤ 140737488355328 := of_decide_eq_true (hc _ (by simp))
   have hrun := run_zeros (P := P) (w := w) (ty := ty) (k := k) hu hu' hi hz hs1 hbpos hn
   have hge := grownCap_ge w n.toNat 0 e
   generalize grownCap w n.toNat 0 e = nc at hrun hge
   rw [hzc] at hrun
   have hsz : (Builtin.zeroCells z n.toNat ++ Builtin.zeroCells z (nc - n.toNat)).size = nc * i.size := by
    simp only [Array.size_append, size_zeroCells, hzs, hs1]; omega
   have hat : ∀ j, j < nc → (Builtin.zeroCells z n.toNat ++ Builtin.zeroCells z (nc - n.toNat)).getD j undef = z[0]'(by omega) := by
    intro j hj
    have hz0 : 0 < z.size := by omega
    have hm1 : ∀ a : Nat, a % z.size = 0 := fun a => by rw [hzs, hs1]; exact Nat.mod_one a
    rcases Nat.lt_or_ge j n.toNat with h1 | h1
    ·simp [Array.getD, Builtin.zeroCells, Array.getElem_append, hzs, hs1, h1, hm1, hz0, Nat.mod_one]
     omega
    ·simp [Array.getD, Builtin.zeroCells, Array.getElem_append, hzs, hs1, Nat.not_lt.2 h1, hm1, hz0, Nat.mod_one]
     omega
   obtain ⟨m', hSt, hsim⟩ := Stp.newArr H hid hm (w1 := w.drew) rfl rfl rfl ⟨rfl, Nat.le_succ _⟩ none (z := i.size) (n := n.toNat) (cap := nc) (f := fun _ => z.toList.map .val)
    (vs := Builtin.zeroCells z n.toNat ++ Builtin.zeroCells z (nc - n.toNat)) e hge hsz
    (fun j hj => by
     rw [hsz, hs1] at hj
     rw [hat j (by omega)]
     exact (Array.all_eq_true.1 hz1) _ (by omega))
    (fun j hj => by
     refine ⟨by simp [hzs], fun q x hx => ?_⟩
     rw [List.getElem?_map] at hx
     cases hzj : z.toList[q]? with
     | none => rw [hzj] at hx; cases hx
     | some v =>
      rw [hzj] at hx; cases hx
      have hq : q < z.size := by have := lt_of_getElem? hzj; simpa using this
      have hq0 : q = 0 := by omega
      subst hq0
      rw [hs1, Nat.mul_one, Nat.add_zero, hat j (by omega)]
      have : z[0]'(by omega) = v := by simp [hq] at hzj; exact hzj
      rw [this]
      exact .val v)
   exact ⟨_, _, m', hrun, hSt, hsim⟩
end
end Go.AM
