/- The table's array, loaded and compared. -/
import Derived.Test.YtjaafdjgogpbdaaCrcTable
namespace Go.Proofs.Ytjaafdjgogpbdaa.CrcWalk
open Go.RowKit
theorem eql_tab (w : World) : (binOp .eql 28 (.agg tab) (.agg tab)).run Try.prog w = .ok (.bool true) w := by kernel_rfl
theorem guard_tab (x y : Operand) (w : World) : (eqGuard .eql 28 x y (.agg tab) (.agg tab)).run Try.prog w = .ok () w := by kernel_rfl
def TabAt (b : Nat) (w : World) : Prop := w.heap[b]? = some (.cells tab 28 (0, 0))
theorem sz_tab : (tabV z256).size = tab.size := by rw [tab, tabV_size, tabV_size, tabL_length]; exact List.length_replicate
theorem one_tab : tab.all (·.oneCell') = true := tabV_one _
theorem inf_tab : (Try.prog.info? 28).map (·.size) = some tab.size := info28s
theorem exec_load {ρ : Operand → Value} {o : Oper} {x : Operand} {g : Nat} {w : World} (ho : o.op = .load 28 x) (hx : ρ x = .pointer (some ⟨g, 0, none⟩)) (hg : TabAt g w) : (execOp ρ o).run Try.prog w = .ok (.value (.agg tab)) w := by
  unfold execOp
  simp only [ho, hx, Instr.loadAt, Instr.sureAddr, Sem.run_bind, Sem.run_pure, Result.andThen_ok, run_loadVar_row w g 28 28 tab (0, 0) _ hg Try.underlying28 rfl inf_tab]
theorem exec_eql {ρ : Operand → Value} {o : Oper} {x y : Operand} {w : World} (ho : o.op = .binOp .eql 28 x y 28) (hx : ρ x = .agg tab) (hy : ρ y = .agg tab) : (execOp ρ o).run Try.prog w = .ok (.value (.bool true)) w := by
  unfold execOp
  simp only [ho, hx, hy, Sem.run_bind, Sem.run_pure, Result.andThen_ok, eql_tab, guard_tab]
end Go.Proofs.Ytjaafdjgogpbdaa.CrcWalk
