/- How the values of the models lie in memory. -/
import Derived.Test.YtemmdajenjhhbaaAmShort
import Derived.Test.YtemmdajenjhhbaaCpModel
namespace Go.CP
open Go Go.AM
def e_ApiWindow (s : ApiWindow) : List CV := [.val (.int .i64 s.Cell), .val (.int .i64 s.Epoch), .val (.int .i64 s.Version), .val (.int .i64 s.From), .val (.int .i64 s.Until)]
theorem pv_ApiWindow (a : ApiWindow) : ∀ x ∈ e_ApiWindow a, x.isVal := by
  intro x hx
  simp only [e_ApiWindow, List.mem_cons, List.not_mem_nil, or_false] at hx
  rcases hx with rfl | rfl | rfl | rfl | rfl <;> trivial
def e_ApiTenantState (s : ApiTenantState) : List CV := [.val (.bool s.Placed), .val (.bool s.Shed), .val (.int .i64 s.Home), .val (.int .i64 s.Standby), .val (.int .i64 s.Next), .val (.int .i64 s.Target), .val (.int .i64 s.Epoch), .val (.int .i64 s.Window.Cell), .val (.int .i64 s.Window.Epoch), .val (.int .i64 s.Window.Version), .val (.int .i64 s.Window.From), .val (.int .i64 s.Window.Until)]
theorem pv_ApiTenantState (a : ApiTenantState) : ∀ x ∈ e_ApiTenantState a, x.isVal := by
  intro x hx
  simp only [e_ApiTenantState, List.mem_cons, List.not_mem_nil, or_false] at hx
  rcases hx with rfl | rfl | rfl | rfl | rfl | rfl | rfl | rfl | rfl | rfl | rfl | rfl <;> trivial
def e_ApiCellState (s : ApiCellState) : List CV := [.val (.int .i64 s.Mode), .val (.int .i64 s.Running), .val (.int .i64 s.Wanted), .val (.int .i64 s.Since)]
theorem pv_ApiCellState (a : ApiCellState) : ∀ x ∈ e_ApiCellState a, x.isVal := by
  intro x hx
  simp only [e_ApiCellState, List.mem_cons, List.not_mem_nil, or_false] at hx
  rcases hx with rfl | rfl | rfl | rfl <;> trivial
def e_ApiZone (s : ApiZone) : List CV := [.val (.int .i64 s.Region)]
theorem pv_ApiZone (a : ApiZone) : ∀ x ∈ e_ApiZone a, x.isVal := by
  intro x hx
  simp only [e_ApiZone, List.mem_cons, List.not_mem_nil, or_false] at hx
  rcases hx with rfl <;> trivial
def e_ApiCell (s : ApiCell) : List CV := [.val (.int .i64 s.Zone), .val (.int .i64 s.Capacity)]
theorem pv_ApiCell (a : ApiCell) : ∀ x ∈ e_ApiCell a, x.isVal := by
  intro x hx
  simp only [e_ApiCell, List.mem_cons, List.not_mem_nil, or_false] at hx
  rcases hx with rfl | rfl <;> trivial
def e_ApiTenant (s : ApiTenant) : List CV := [.val (.int .i64 s.Load), .val (.int .i64 s.Shadow), .val (.int .i64 s.Priority), .val (.int .i64 s.Lag), .val (.int .i64 s.Allowed), .val (.int .i64 s.Group), .val (.bool s.Noisy)]
theorem pv_ApiTenant (a : ApiTenant) : ∀ x ∈ e_ApiTenant a, x.isVal := by
  intro x hx
  simp only [e_ApiTenant, List.mem_cons, List.not_mem_nil, or_false] at hx
  rcases hx with rfl | rfl | rfl | rfl | rfl | rfl | rfl <;> trivial
def e_ApiVersion (s : ApiVersion) : List CV := [.val (.int .i64 s.Low), .val (.int .i64 s.High)]
theorem pv_ApiVersion (a : ApiVersion) : ∀ x ∈ e_ApiVersion a, x.isVal := by
  intro x hx
  simp only [e_ApiVersion, List.mem_cons, List.not_mem_nil, or_false] at hx
  rcases hx with rfl | rfl <;> trivial
def e_ApiConfig (s : ApiConfig) : List CV := [.val (.int .i64 s.Regions), rdL 1 e_ApiZone s.Zones, rdL 2 e_ApiCell s.Cells, rdL 7 e_ApiTenant s.Tenants, rdL 2 e_ApiVersion s.Versions, rdL 1 (e_int .i64) s.Replicas, rdL 1 (e_int .i64) s.Observers, .val (.int .i64 s.Blast), .val (.int .i64 s.Lease), .val (.int .i64 s.Bake)]
def e_ApiState (s : ApiState) : List CV := [.val (.int .i64 s.Tick), .val (.int .i64 s.Count), rdL 12 e_ApiTenantState s.Tenants, rdL 4 e_ApiCellState s.Cells, .val (.int .i64 s.Proven), .val (.int .i64 s.Evacuating), .val (.int .i64 s.Low), .val (.int .i64 s.High)]
def e_MakeTape (s : MakeTape) : List CV := [rdL 1 (e_int .i64) s.L, .val (.int .i64 s.At)]
def e_ApiEntry (s : ApiEntry) : List CV := [.val (.int .i64 s.Kind), .val (.int .i64 s.Tick), .val (.int .i64 s.Tenant), .val (.int .i64 s.Cell), .val (.int .i64 s.Other), .val (.int .i64 s.Epoch), .val (.int .i64 s.From), .val (.int .i64 s.Until), .val (.int .i64 s.N)]
theorem pv_ApiEntry (a : ApiEntry) : ∀ x ∈ e_ApiEntry a, x.isVal := by
  intro x hx
  simp only [e_ApiEntry, List.mem_cons, List.not_mem_nil, or_false] at hx
  rcases hx with rfl | rfl | rfl | rfl | rfl | rfl | rfl | rfl | rfl <;> trivial
abbrev ar0 (xs : List ApiWindow) : AObj := arL 5 e_ApiWindow xs
abbrev rd0 (xs : List ApiWindow) : SC := r1 5 e_ApiWindow xs
abbrev bx0 (x : ApiWindow) : AObj := bX (e_ApiWindow x)
abbrev ag0 (x : ApiWindow) : SV := aG (e_ApiWindow x)
abbrev ar1 (xs : List ApiTenantState) : AObj := arL 12 e_ApiTenantState xs
abbrev rd1 (xs : List ApiTenantState) : SC := r1 12 e_ApiTenantState xs
abbrev bx1 (x : ApiTenantState) : AObj := bX (e_ApiTenantState x)
abbrev ag1 (x : ApiTenantState) : SV := aG (e_ApiTenantState x)
abbrev ar2 (xs : List ApiCellState) : AObj := arL 4 e_ApiCellState xs
abbrev rd2 (xs : List ApiCellState) : SC := r1 4 e_ApiCellState xs
abbrev bx2 (x : ApiCellState) : AObj := bX (e_ApiCellState x)
abbrev ag2 (x : ApiCellState) : SV := aG (e_ApiCellState x)
abbrev ar3 (xs : List ApiZone) : AObj := arL 1 e_ApiZone xs
abbrev rd3 (xs : List ApiZone) : SC := r1 1 e_ApiZone xs
abbrev bx3 (x : ApiZone) : AObj := bX (e_ApiZone x)
abbrev ag3 (x : ApiZone) : SV := aG (e_ApiZone x)
abbrev ar4 (xs : List ApiCell) : AObj := arL 2 e_ApiCell xs
abbrev rd4 (xs : List ApiCell) : SC := r1 2 e_ApiCell xs
abbrev bx4 (x : ApiCell) : AObj := bX (e_ApiCell x)
abbrev ag4 (x : ApiCell) : SV := aG (e_ApiCell x)
abbrev ar5 (xs : List ApiTenant) : AObj := arL 7 e_ApiTenant xs
abbrev rd5 (xs : List ApiTenant) : SC := r1 7 e_ApiTenant xs
abbrev bx5 (x : ApiTenant) : AObj := bX (e_ApiTenant x)
abbrev ag5 (x : ApiTenant) : SV := aG (e_ApiTenant x)
abbrev ar6 (xs : List ApiVersion) : AObj := arL 2 e_ApiVersion xs
abbrev rd6 (xs : List ApiVersion) : SC := r1 2 e_ApiVersion xs
abbrev bx6 (x : ApiVersion) : AObj := bX (e_ApiVersion x)
abbrev ag6 (x : ApiVersion) : SV := aG (e_ApiVersion x)
abbrev L_ApiConfig (s : ApiConfig) (q1 q2 q3 q4 q5 q6 : SC) : List SC := [i1 .i64 s.Regions, q1, q2, q3, q4, q5, q6, i1 .i64 s.Blast, i1 .i64 s.Lease, i1 .i64 s.Bake]
abbrev ar7 (xs : List ApiConfig) : AObj := arL 10 e_ApiConfig xs
abbrev rd7 (xs : List ApiConfig) : SC := r1 10 e_ApiConfig xs
abbrev bx7 (x : ApiConfig) : AObj := bX (e_ApiConfig x)
abbrev ag7 (x : ApiConfig) : SV := aG (e_ApiConfig x)
abbrev L_ApiState (s : ApiState) (q1 q2 : SC) : List SC := [i1 .i64 s.Tick, i1 .i64 s.Count, q1, q2, i1 .i64 s.Proven, i1 .i64 s.Evacuating, i1 .i64 s.Low, i1 .i64 s.High]
abbrev ar8 (xs : List ApiState) : AObj := arL 8 e_ApiState xs
abbrev rd8 (xs : List ApiState) : SC := r1 8 e_ApiState xs
abbrev bx8 (x : ApiState) : AObj := bX (e_ApiState x)
abbrev ag8 (x : ApiState) : SV := aG (e_ApiState x)
abbrev ar9 (xs : List MakeTape) : AObj := arL 2 e_MakeTape xs
abbrev rd9 (xs : List MakeTape) : SC := r1 2 e_MakeTape xs
abbrev bx9 (x : MakeTape) : AObj := bX (e_MakeTape x)
abbrev ag9 (x : MakeTape) : SV := aG (e_MakeTape x)
abbrev ar10 (xs : List ApiEntry) : AObj := arL 9 e_ApiEntry xs
abbrev rd10 (xs : List ApiEntry) : SC := r1 9 e_ApiEntry xs
abbrev bx10 (x : ApiEntry) : AObj := bX (e_ApiEntry x)
abbrev ag10 (x : ApiEntry) : SV := aG (e_ApiEntry x)
end Go.CP
