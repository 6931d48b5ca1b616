/- A part of a proof: see the text's own remark. No conditions beyond its theorems' own. -/
import Derived.Test.YtjmhjhmlcjkjeaaDoorAs18
import Derived.Deep.QuietTactic
import Derived.BigQuiet
/-! errors.Is(a *api.Fault, its own Errno); the law's told. Lines of the worked proof 'sentry', turned to this program. -/
namespace Go.Proofs.YtjmhjhmlcjkjeaaDoor.Tab
open Go.RowKit Go.Extern.Stop Go.Stop Go.Extern Go.Proofs.YtjmhjhmlcjkjeaaDoorW.PrintWords Go.Proofs.YtjmhjhmlcjkjeaaDoorW.PrintLast Go.Proofs.YtjmhjhmlcjkjeaaDoorW.PrintMore
set_option linter.unusedVariables false
set_option linter.unusedSimpArgs false
theorem Is.typeOf (v : Value) (w : World) : (Extern.ReflectliteType.typeOf #[.iface 25 v]).run Tryd.prog w = .ok (.iface 99 (.agg #[.pointer (some ⟨2, 25, none⟩)])) w := by kernel_rfl
def Is.entry : Array Value → Sem Value := Extern.ReflectliteType.method fun t => do Extern.Rtype.noPackHeld "Comparable" t; pure (.bool (← typeInfo t).comparable)
theorem Is.comparable (w : World) : (Is.entry #[.agg #[.pointer (some ⟨2, 25, none⟩)]]).run Tryd.prog w = .ok (.bool true) w := by kernel_rfl
theorem Is.methodComparable (v : Value) (w : World) : (Go.method 243 99 v "Comparable").run Tryd.prog w = .ok (81, v) w := by kernel_rfl
theorem Is.comp : (Tryd.prog.info? 25).map (·.comparable) = some true := by kernel_rfl
theorem Is.noIs (v : Value) (xT : TypeId) (w : World) : (Instr.typeAssert (.iface 64 v) xT 111 true).run Tryd.prog w = .ok (.tuple #[.nilIface, .bool false]) w := run_typeAssert_lacksB Tryd.underlying111 (by kernel_rfl) (by kernel_rfl) v xT w
theorem Is.hasUnwrap (v : Value) (xT : TypeId) (w : World) : (Instr.typeAssert (.iface 64 v) xT 106 true).run Tryd.prog w = .ok (.tuple #[.iface 64 v, .bool true]) w := run_typeAssert_hasB Tryd.underlying106 (by kernel_rfl) v xT w
theorem Is.methodUnwrap (v : Value) (w : World) : (Go.method 243 64 v "Unwrap").run Tryd.prog w = .ok (75, v) w := by kernel_rfl
theorem Is.eql (er : Int) (w : World) : (binOp .eql 31 (.iface 25 (.int .i64 er)) (.iface 25 (.int .i64 er))).run Tryd.prog w = .ok (.bool true) w := by
  obtain ⟨i, hi, hcmp⟩ := Option.map_eq_some_iff.1 Is.comp
  have h : ∀ d : Nat, (Op.equalIn (d + 2) 31 (.iface 25 (.int .i64 er)) (.iface 25 (.int .i64 er))).run Tryd.prog w = .ok true w := fun d => by
    simp [Op.equalIn, run_underlying Tryd.underlying31, run_underlying Tryd.underlying25, typeInfo, hi, hcmp]
  simp only [binOp]
  simp [Op.equal, Op.maxDepth, h 9998]
set_option maxHeartbeats 4000000 in
theorem is_unwrap (g : Nat) (er : Int) (w : World) (h1 : w.cell? ⟨g, 0 + 1, none⟩ = some (.int .i64 er)) :
    Calls Tryd.prog 41 #[.iface 64 (.pointer (some ⟨g, 0, none⟩)), .iface 25 (.int .i64 er)] w fun e w' => e = .returned (.bool true) ∧ w' = w := by
  have h8 := @run_callFunc_extern Tryd.prog 52 _ Extern.ReflectliteType.typeOf Tryd.func52 (by kernel_rfl) (by kernel_rfl) (by kernel_rfl) (by kernel_rfl)
  have h32 := @run_callFunc_extern Tryd.prog 81 _ Is.entry Tryd.func81 (by kernel_rfl) (by kernel_rfl) (by kernel_rfl) (by kernel_rfl)
  have tT := Is.typeOf
  have cT := Is.comparable
  have mR := Is.methodComparable
  have nW := Is.noIs
  have uW := Is.hasUnwrap
  have mU := Is.methodUnwrap
  have heq := Is.eql er
  have hty := run_eql_iface_types (P := Tryd.prog) 64 25 (.pointer (some ⟨g, 0, none⟩)) (.int .i64 er) Tryd.underlying31 (by decide) w
  go_enter Tryd.func41, Tryd.ntmps41
  go_wp2
  refine wp_loop_rounds 2 ?_
  rw [rounds_succ]
  go_wp2
  rw [rounds_succ]
  go_wp2
  go_ret
  exact ⟨rfl, rfl⟩
/-- the cell of errors.errorType -/
def HandAt (w : World) : Prop := 1 < w.heap.size ∧ w.cell? ⟨1, 0, none⟩ = some (.iface 99 (.agg #[.pointer (some ⟨2, 31, none⟩)]))
theorem HandAt.below {w0 w : World} (h : HandAt w0) (hb : Below w0.heap.size w0 w) : HandAt w := ⟨Nat.lt_of_lt_of_le h.1 hb.size, (hb.cell h.1).trans h.2⟩
theorem as_told (g : Nat) (at_ er : Int) (w : World) (hH : HandAt w) (hg : w.heap[g]? = some (.cells #[.int .i64 at_, .int .i64 er] 66 (0, 0))) :
    Calls Tryd.prog 40 #[.iface 64 (.pointer (some ⟨g, 0, none⟩)), .iface 79 (.pointer (some ⟨w.heap.size, 0, none⟩))] (w.alloc (.cells #[.pointer none] 64))
      fun e w' => e = .returned (.bool true) ∧ Below w.heap.size w w' ∧ w'.cell? ⟨w.heap.size, 0, none⟩ = some (.pointer (some ⟨g, 0, none⟩)) ∧ w'.heap[g]? = some (.cells #[.int .i64 at_, .int .i64 er] 66 (0, 0)) := by
  have hn := blk_new w (.cells #[.pointer none] 64)
  have hB0 : Below w.heap.size w (w.alloc (.cells #[.pointer none] 64)) := below_alloc (Below.refl _ _) _
  have hgl := blk_lt hg
  refine (as_hit ⟨g, 0, none⟩ ⟨w.heap.size, 0, none⟩ (.pointer none) _ (hH.below hB0).2 (by rw [blk_cell hn]; rfl) (blk_frozen hn 0)).mono ?_
  rintro e w' ⟨rfl, rfl⟩
  refine ⟨rfl, below_set (below_alloc (below_alloc (below_alloc (below_alloc hB0 _) _) _) _) (Nat.le_refl _), ?_, ?_⟩
  · rw [blk_cell (blk_set (blk_alloc (blk_alloc (blk_alloc (blk_alloc hn _) _) _) _) 0 _)]; rfl
  · exact blk_far (blk_alloc (blk_alloc (blk_alloc (blk_alloc (blk_alloc hg _) _) _) _) _) (Nat.ne_of_lt hgl) _
/-- an error as Number hands it out -/
def Err (w : World) (E : Value) (at_ er : Int) : Prop := (at_ = 0 ∧ er = 0 ∧ E = .nilIface) ∨ (∃ g, E = .iface 64 (.pointer (some ⟨g, 0, none⟩)) ∧ w.heap[g]? = some (.cells #[.int .i64 at_, .int .i64 er] 66 (0, 0)))
theorem Err.below {w0 w : World} {E : Value} {at_ er : Int} (h : Err w0 E at_ er) (hb : Below w0.heap.size w0 w) : Err w E at_ er := by
  rcases h with h | ⟨g, rfl, hg⟩
  · exact .inl h
  · exact .inr ⟨g, rfl, blk_below hg hb⟩
set_option maxHeartbeats 4000000 in
theorem told_nil (w : World) : Calls Tryd.prog 23 #[.nilIface] w fun e w' => e = .returned (.tuple #[.int .i64 0, .int .i64 0, .bool true]) ∧ w' = w := by
  go_enter Tryd.func23, Tryd.ntmps23
  go_wp2
  go_ret3
  exact ⟨rfl, rfl⟩
set_option maxHeartbeats 4000000 in
theorem told_err (g : Nat) (at_ er : Int) (w : World) (hH : HandAt w) (hg : w.heap[g]? = some (.cells #[.int .i64 at_, .int .i64 er] 66 (0, 0))) :
    Calls Tryd.prog 23 #[.iface 64 (.pointer (some ⟨g, 0, none⟩))] w fun e w' => e = .returned (.tuple #[.int .i64 at_, .int .i64 er, .bool true]) ∧ Below w.heap.size w w' := by
  have HA := Aside0.mk (as_told g at_ er w hH hg)
  clear hH hg
  go_enter Tryd.func23, Tryd.ntmps23
  go_wp2_with (first | (go_at_call 40; refine HA.out.mono ?_; rintro e w1 ⟨rfl, hB, hl, hgw⟩))
  have c0 : w1.cell? ⟨g, 0, none⟩ = some (.int .i64 at_) := (blk_cell hgw 0).trans rfl
  have c1 : w1.cell? ⟨g, 0 + 1, none⟩ = some (.int .i64 er) := (blk_cell hgw 1).trans rfl
  have c2 : w1.cell? ⟨g, 1, none⟩ = some (.int .i64 er) := c1
  have HB : Aside0 (Below w.heap.size w w1) := ⟨hB⟩
  clear hB
  go_wp2
  go_quiet (first | (go_at_call 41; refine Calls.quiet_of_same (is_unwrap g er _ ?_); exact c1))
  go_wp2
  go_ret3
  exact ⟨rfl, pw_below_drewN HB.out _⟩
theorem told_calls (E : Value) (at_ er : Int) (w : World) (hH : HandAt w) (hE : Err w E at_ er) :
    Calls Tryd.prog 23 #[E] w fun e w' => e = .returned (.tuple #[.int .i64 at_, .int .i64 er, .bool true]) ∧ Below w.heap.size w w' := by
  rcases hE with ⟨rfl, rfl, rfl⟩ | ⟨g, rfl, hg⟩
  · exact (told_nil w).mono fun e w' ⟨a, b⟩ => ⟨a, b ▸ Below.refl _ _⟩
  · exact told_err g at_ er w hH hg
end Go.Proofs.YtjmhjhmlcjkjeaaDoor.Tab
