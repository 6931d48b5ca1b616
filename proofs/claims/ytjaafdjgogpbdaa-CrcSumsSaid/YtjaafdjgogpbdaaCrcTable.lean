/- The walk of the crc layer's Table. -/
import Derived.Test.YtjaafdjgogpbdaaPCrcSumsx0
import Derived.Test.YtjaafdjgogpbdaaMath
import Derived.Test.YtjaafdjgogpbdaaBits
import Derived.Outline
import Derived.Great.Walk
import Derived.Lib.Hide
namespace Go.Proofs.Ytjaafdjgogpbdaa.CrcWalk
open Go.RowKit Go.Proofs.YtjaafdjgogpbdaaW.PrintWords Go.Proofs.Ytjaafdjgogpbdaa.Math Go.Proofs.Ytjaafdjgogpbdaa.Bits
/-- an array of 256 numbers of 32 bits, in memory -/
def tabV (l : List Int) : Array Value := (l.map (Value.int .u32)).toArray
def z256 : List Int := List.replicate 256 0
/-- the table, as far as it is filled -/
def tabL (k : Nat) : List Int := (List.range 256).map fun i => if i < k then ((Crc.Xn 8 (i * 2 ^ 24) : Nat) : Int) else 0
theorem tabL_0 : tabL 0 = z256 := by
  unfold tabL z256
  simp [List.map_const']
theorem tset (f g : Nat → Int) (n k : Nat) (h : ∀ i, g i = if i = k then g k else f i) : ((List.range n).map f).set k (g k) = (List.range n).map g := by
  apply List.ext_getElem
  · simp
  · intro i h1 h2
    simp only [List.getElem_set, List.getElem_map, List.getElem_range]
    rw [h i]
    by_cases e : k = i
    · rw [if_pos e, if_pos e.symm]
    · rw [if_neg e, if_neg (fun x => e x.symm)]
theorem tabL_set (k : Nat) : (tabL k).set k ((Crc.Xn 8 (k * 2 ^ 24) : Nat) : Int) = tabL (k + 1) := by
  have h := tset (fun i => if i < k then ((Crc.Xn 8 (i * 2 ^ 24) : Nat) : Int) else 0) (fun i => if i < k + 1 then ((Crc.Xn 8 (i * 2 ^ 24) : Nat) : Int) else 0) 256 k (by
    intro i
    show (if i < k + 1 then ((Crc.Xn 8 (i * 2 ^ 24) : Nat) : Int) else 0) = if i = k then (if k < k + 1 then ((Crc.Xn 8 (k * 2 ^ 24) : Nat) : Int) else 0) else (if i < k then ((Crc.Xn 8 (i * 2 ^ 24) : Nat) : Int) else 0)
    by_cases e : i = k
    · subst e; rw [if_pos rfl]
    · rw [if_neg e]
      by_cases h2 : i < k
      · rw [if_pos h2, if_pos (by omega)]
      · rw [if_neg h2, if_neg (by omega)])
  rw [if_pos (by omega)] at h
  exact h
theorem tabL_length (k : Nat) : (tabL k).length = 256 := by simp [tabL]
theorem tabL_get (k i : Nat) (hi : i < 256) (hk : i < k) : (tabL k)[i]? = some ((Crc.Xn 8 (i * 2 ^ 24) : Nat) : Int) := by
  unfold tabL; rw [List.getElem?_map, List.getElem?_range hi]; simp [hk]
theorem tabV_size (l : List Int) : (tabV l).size = l.length := by simp [tabV]
theorem tabV_get (l : List Int) (i : Nat) : (tabV l)[i]? = l[i]?.map (Value.int .u32) := by simp [tabV]
theorem tabV_set (l : List Int) (i : Nat) (v : Int) : (tabV l).setIfInBounds i (.int .u32 v) = tabV (l.set i v) := by
  unfold tabV; rw [List.setIfInBounds_toArray, List.map_set]
theorem info28 : (Try.prog.info? 28).map (fun i => (i.zero, i.size, i.bytes)) = some (some (.agg (tabV z256)), 256, 1024) := by kernel_rfl
theorem info28s : (Try.prog.info? 28).map (·.size) = some (tabV (tabL 256)).size := by rw [tabV_size, tabL_length]; kernel_rfl
theorem wpList_alloc28 {ops : Array Oper} {rest : List Oper} {o : Oper} {a : Act} {w : World} {Q : Exit → Act → World → Prop} (hg : o.guard = none) (ho : o.op = .alloc 28) (d : Nat) (hd : o.dst = some d)
    (h : wpList Try.prog ops Q rest (a.put (some d) (.pointer (some ⟨w.heap.size, 0, none⟩))) (w.alloc (.cells (tabV z256) 28))) : wpList Try.prog ops Q (o :: rest) a w := by
  refine Great.wpList_runTo hg (some d) hd _ _ ?_ h
  unfold execOp
  rw [ho]
  kernel_rfl
theorem hi_bit (x : Nat) (hx : x < 2 ^ 32) (h : 2 ^ 31 ≤ x) : (((x : Int) / 2147483648 == 1) = true) ∧ Go.bits .xor .u32 ((x : Int) * 2 % 4294967296) 79764919 = ((Crc.X x : Nat) : Int) := by
  constructor
  · rw [beq_iff_eq]; omega
  · have e : (x : Int) * 2 % 4294967296 = ((2 * (x - 2 ^ 31) : Nat) : Int) := by omega
    rw [e, show (79764919 : Int) = ((79764919 : Nat) : Int) from rfl, xor_u32 _ _ (by omega) (by decide)]
    congr 1
    have := Crc.X_big (v := x - 2 ^ 31) (by omega)
    rw [show x - 2 ^ 31 + 2 ^ 31 = x from by omega] at this
    exact this.symm
theorem lo_bit (x : Nat) (h : x < 2 ^ 31) : (((x : Int) / 2147483648 == 1) = false) ∧ (x : Int) * 2 % 4294967296 = ((Crc.X x : Nat) : Int) := by
  constructor
  · rw [beq_eq_false_iff_ne]; omega
  · rw [Crc.X_small h]; omega
/-- the table's array, filled as far as k, in the block b -/
def Tab (b : Nat) (k : Nat) (w : World) : Prop := w.heap[b]? = some (.cells (tabV (tabL k)) 28 (0, 0))
def Zer (b : Nat) (w : World) : Prop := w.heap[b]? = some (.cells (tabV z256) 28 (0, 0))
theorem Tab.cell {b k : Nat} {w : World} (h : Tab b k w) (i : Nat) (hi : i < 256) : w.cell? ⟨b, i, none⟩ = some (.int .u32 ((tabL k).getD i 0)) := by
  rw [cell_of_row w b i _ 28 (0, 0) h, tabV_get, List.getD_eq_getElem?_getD, List.getElem?_eq_getElem (by rw [tabL_length]; exact hi)]; rfl
theorem Tab.free {b k : Nat} {w : World} (h : Tab b k w) (i : Nat) : w.frozen? ⟨b, i, none⟩ = false := frozen_of_row w b i _ 28 h
theorem Tab.step {b k : Nat} {w : World} (h : Tab b k w) : Tab b (k + 1) (w.setCell ⟨b, k, none⟩ (.int .u32 ((Crc.Xn 8 (k * 2 ^ 24) : Nat) : Int))) := by
  unfold Tab
  rw [heap_setCell_same w b k _ 28 _ h, tabV_set, tabL_set]
theorem Zer.far {b b' k : Nat} {w : World} {v : Value} (h : Zer b w) (hne : b ≠ b') : Zer b (w.setCell ⟨b', k, none⟩ v) := by
  unfold Zer; rw [heap_setCell_other w ⟨b', k, none⟩ b v hne]; exact h
theorem tabV_one (l : List Int) : (tabV l).all (·.oneCell') = true := by
  rw [Array.all_eq_true_iff_forall_mem]
  intro v hv
  simp only [tabV, List.mem_toArray, List.mem_map] at hv
  obtain ⟨x, _, rfl⟩ := hv
  rfl
theorem below_setRow {B : Nat} {a w : World} (h : Below B a w) {g : Nat} (hg : B ≤ g) (cs : Array Value) : Below B a (w.setRow g cs) := by
  refine ⟨h.os, h.tape, h.output, by rw [setRow_size]; exact h.size, fun k hk => ?_⟩
  rw [← h.block k hk]
  unfold World.setRow
  simp only [Array.getElem?_modify]
  rw [if_neg (by omega)]
/-- the whole table -/
def tab : Array Value := tabV (tabL 256)
set_option maxHeartbeats 400000 in
set_option maxRecDepth 100000 in
theorem table_calls (w : World) : Calls Try.prog 13 #[] w fun e w' => e = .returned (.agg tab) ∧ Below w.heap.size w w' := by
  go_enter Try.func13, Try.ntmps13
  go_wp2_with (first | (refine wpList_alloc28 rfl rfl _ rfl ?_))
  go_loopw [4] (fun i wr => ∃ k : Nat, k ≤ 256 ∧ i = .int .i64 k ∧ Tab (w.heap.size + 1) k wr ∧ Zer w.heap.size wr ∧ Below w.heap.size w wr) (fun i _ => 256 - (intOf i).toNat)
  case atStart => exact ⟨0, by omega, rfl, (show Tab (w.heap.size + 1) 0 _ by unfold Tab; rw [tabL_0]; exact heap_alloc2_new _ _ _), heap_alloc2_old _ _ _, ((Below.refl _ _).alloc (Nat.le_refl _) _).alloc (by simp) _⟩
  case round =>
    obtain ⟨k, hk, rfl, ht, hz, hb⟩ := hrel
    have HT := Aside0.mk ht
    have HZ := Aside0.mk hz
    have HB := Aside0.mk hb
    clear ht hz hb
    by_cases hlt : k < 256
    · go_wp2
      go_loop [3, 10] (fun v j => ∃ m : Nat, m ≤ 8 ∧ j = .int .i64 m ∧ v = .int .u32 ((Crc.Xn m (k * 16777216) : Nat) : Int)) (fun _ j => 8 - (intOf j).toNat)
      case atStart => exact ⟨0, by omega, rfl, by simp [Crc.Xn]⟩
      case round =>
        obtain ⟨m, hm, rfl, rfl⟩ := hrel
        have hx := Crc.Xn_lt m (v := k * 16777216) (by omega)
        have hs := Crc.Xn_succ m (k * 16777216)
        have HX := Lib.hid hx
        have HS := Lib.hid hs
        clear hx hs
        by_cases hm8 : m < 8
        · generalize Crc.Xn m (k * 16777216) = x at *
          by_cases h31 : 2 ^ 31 ≤ x
          · obtain ⟨hb1, hb2⟩ := hi_bit x HX.out h31
            have HV := Lib.hid hb2
            clear hb2 h31
            go_wp2
            go_round
            case rel => exact ⟨m + 1, by omega, by go_num, by rw [HS.out, HV.out]⟩
            case measure => simp [intOf]; omega
          · obtain ⟨hb1, hb2⟩ := lo_bit x (by omega)
            have HV := Lib.hid hb2
            clear hb2 h31
            go_wp2
            go_round
            case rel => exact ⟨m + 1, by omega, by go_num, by rw [HS.out, HV.out]⟩
            case measure => simp [intOf]; omega
        · obtain rfl : m = 8 := by omega
          have hc := HT.out.cell k hlt
          have hf := HT.out.free k
          go_wp2
          go_roundw
          case rel => exact ⟨k + 1, by omega, by go_num, HT.out.step, HZ.out.far (by omega), HB.out.setCell (by simp) _⟩
          case measure => simp [intOf]; omega
    · obtain rfl : k = 256 := by omega
      go_wp2_with (first | (refine wpList_load_row rfl 28 (.tmp 1) rfl (w.heap.size + 1) rfl 28 (tabV (tabL 256)) (0, 0) _ HT.out Try.underlying28 rfl info28s ?_) | (refine wpList_store_row rfl 28 (.tmp 0) (.tmp 25) rfl w.heap.size (tabV (tabL 256)) rfl rfl 28 (tabV z256) HZ.out info28s (by rw [tabV_size, tabV_size, tabL_length]; rfl) (tabV_one _) ?_))
      exact bodyPost_ret (v := .agg tab) (results_cell_row Try.results13 _ _ w.heap.size 28 (tabV (tabL 256)) (0, 0) _ rfl (setRow_heap _ _ _ _ _ _ HZ.out) Try.underlying28 rfl info28s) rfl ⟨rfl, below_setRow HB.out (Nat.le_refl _) _⟩
end Go.Proofs.Ytjaafdjgogpbdaa.CrcWalk
