/- Rows that lie behind one another in one block; parity.cut and parity.add, walked. No conditions beyond the theorems' own. -/
import Derived.Test.YtdhajlkiiphlfaaQBaseParityWidex
import Derived.Test.YtdhajlkiiphlfaaSolveMath
import Derived.Test.YtdhajlkiiphlfaaBits
import Derived.Great.Walk
import Derived.StillTailTactics
import Derived.Test.YtdhajlkiiphlfaaCau05
/-! rows that lie behind one another in one block (parity.cut), and what cut does -/
namespace Go.Proofs.Ytdhajlkiiphlfaa.Par
open Go.RowKit Go.Proofs.Ytdhajlkiiphlfaa.QBaseParityWide Go.Proofs.YtdhajlkiiphlfaaW.PrintWords Go.Proofs.YtdhajlkiiphlfaaW.PrintLast Go.Proofs.YtdhajlkiiphlfaaW.PrintMore
set_option linter.unusedVariables false
set_option linter.unusedSimpArgs false
def up (ls : List Nat) : List Int := ls.map (fun (k : Nat) => (k : Int))
theorem up_length (ls : List Nat) : (up ls).length = ls.length := by unfold up; simp
theorem up_rd (ls : List Nat) {i : Nat} (hi : i < ls.length) : rd (up ls) (i : Int) = ((ls[i] : Nat) : Int) := by
  unfold rd up; simp [List.getD_eq_getElem?_getD, hi]
theorem take_sum (ls : List Nat) {i : Nat} (hi : i < ls.length) : (ls.take (i + 1)).sum = (ls.take i).sum + ls[i] := by
  rw [List.take_succ_eq_append_getElem hi, List.sum_append_nat]; rfl
theorem drop_sum (ls : List Nat) {i : Nat} (hi : i < ls.length) : (ls.drop i).sum = ls[i] + (ls.drop (i + 1)).sum := by
  rw [List.drop_eq_getElem_cons hi, List.sum_cons]
theorem take_drop_sum (ls : List Nat) (i : Nat) : (ls.take i).sum + (ls.drop i).sum = ls.sum := by
  rw [← List.sum_append_nat, List.take_append_drop]
/-- rows m, one behind the other in the block b; their headers in the block g -/
structure Cu (w : World) (base g b : Nat) (m : List (List Int)) : Prop where
  hg : base ≤ g
  hb : base ≤ b
  ne : g ≠ b
  few : m.length ≤ 1000
  many : m.flatten.length ≤ 281474976710656
  data : w.heap[b]? = some (.cells (m.flatten.map (Value.int .u8)).toArray 5 (0, 0))
  heads : ∃ hs : List Value, w.heap[g]? = some (.cells hs.toArray 41 (0, 0)) ∧ hs.length = m.length ∧ ∀ (i : Nat) (r : List Int), m[i]? = some r → ∃ o : Nat, hs[i]? = some (Value.slice (some ⟨b, o, none⟩) r.length r.length) ∧ o ≤ m.flatten.length ∧ (0 < r.length → o = ((m.take i).flatten).length)
structure Cing (w0 w : World) (g b : Nat) (ls : List Nat) (i : Nat) : Prop where
  below : Below w0.heap.size w0 w
  hg : w0.heap.size ≤ g
  hb : w0.heap.size ≤ b
  ne : g ≠ b
  data : w.heap[b]? = some (.cells (List.replicate ls.sum (Value.int .u8 0)).toArray 5 (0, 0))
  heads : ∃ hs : List Value, w.heap[g]? = some (.cells hs.toArray 41 (0, 0)) ∧ hs.length = ls.length ∧ ∀ (j k : Nat), j < i → ls[j]? = some k → ∃ o : Nat, hs[j]? = some (Value.slice (some ⟨b, o, none⟩) k k) ∧ o ≤ ls.sum ∧ (0 < k → o = (ls.take j).sum)
theorem Cing.put {w0 w : World} {g b : Nat} {ls : List Nat} {i : Nat} (h : Cing w0 w g b ls i) (hi : i < ls.length) {o : Nat} (ho : o ≤ ls.sum) (hA : 0 < ls[i] → o = (ls.take i).sum) :
    (∃ u, w.cell? ⟨g, i, none⟩ = some u) ∧ w.frozen? ⟨g, i, none⟩ = false ∧ Cing w0 (w.setCell ⟨g, i, none⟩ (.slice (some ⟨b, o, none⟩) ls[i] ls[i])) g b ls (i + 1) := by
  obtain ⟨hs, hh, hl, hx⟩ := h.heads
  refine ⟨⟨hs[i], by rw [blk_cell hh]; simp [hl, hi]⟩, blk_frozen hh i, ⟨below_set h.below h.hg, h.hg, h.hb, h.ne, blk_far h.data (by exact (Ne.symm h.ne)) _, hs.set i (.slice (some ⟨b, o, none⟩) ls[i] ls[i]), by rw [blk_set hh]; simp, by simp [hl], fun j k hj hk => ?_⟩⟩
  by_cases e : j = i
  · subst e
    rw [List.getElem?_eq_getElem hi] at hk
    obtain rfl := Option.some.inj hk
    exact ⟨o, by rw [List.getElem?_set_self (by omega)], ho, hA⟩
  · obtain ⟨o', h1, h2⟩ := hx j k (by omega) hk
    exact ⟨o', by rw [List.getElem?_set_ne (Ne.symm e)]; exact h1, h2⟩
theorem Cing.done {w0 w : World} {g b : Nat} {ls : List Nat} (h : Cing w0 w g b ls ls.length) (hn : ls.length ≤ 1000) (hs0 : ls.sum ≤ 281474976710656) : Cu w w0.heap.size g b (ls.map fun k => List.replicate k (0 : Int)) := by
  have hfl : ∀ l : List Nat, (l.map fun k => List.replicate k (0 : Int)).flatten = List.replicate l.sum 0 := by
    intro l
    induction l with
    | nil => rfl
    | cons a l ih => simp [ih, List.replicate_append_replicate]
  obtain ⟨hs, hh, hl, hx⟩ := h.heads
  refine ⟨h.hg, h.hb, h.ne, by rw [List.length_map]; exact hn, by rw [hfl, List.length_replicate]; exact hs0, by rw [hfl]; simpa using h.data, hs, hh, by simp [hl], fun i r hr => ?_⟩
  rw [List.getElem?_map] at hr
  obtain ⟨k, hk, rfl⟩ := Option.map_eq_some_iff.1 hr
  have hi : i < ls.length := (List.getElem?_eq_some_iff.1 hk).1
  obtain ⟨o, h1, h3, h2⟩ := hx i k hi hk
  refine ⟨o, by simpa using h1, by rw [hfl, List.length_replicate]; exact h3, fun hp => ?_⟩
  rw [h2 (by simpa using hp), ← List.map_take, hfl]
  simp
theorem info41' : (Try.prog.info? 41).map (fun i => (i.zero, i.size, i.bytes)) = some (some (.slice none 0 0), 1, 24) := by kernel_rfl
theorem info5' : (Try.prog.info? 5).map (fun i => (i.zero, i.size, i.bytes)) = some (some (.int .u8 0), 1, 1) := by kernel_rfl
theorem elem41 : Try.prog.underlying 41 = some (.slice (Try.prog.elem 41)) := by kernel_rfl
theorem cut_lm (a : Option Addr) (n m c : Nat) (h1 : n ≤ c) (W : World) : (Instr.sliceAt 41 (.slice a m c) none (some (.int .i64 (n : Int))) (some (.int .i64 (n : Int)))).run Try.prog W = .ok (.slice a n n) W := by
  rw [run_sliceAt_slice W 41 _ _ _ _ elem41, run_slice_hm W 41 a m c elem41 .i64 .i64 n n (by omega) (by omega) (by omega)]
  have hs : ((sizeOf (Try.prog.elem 41)).run Try.prog W) = .ok 1 W := by kernel_rfl
  simp only [hs, Result.andThen, sliced, Int.toNat_natCast, Nat.sub_zero]
  refine congrArg (fun z => Result.ok (Value.slice z n n) W) ?_
  split
  · rfl
  · cases a <;> rfl
theorem cut_h (a : Option Addr) (n m c : Nat) (h1 : n ≤ c) (W : World) : (Instr.sliceAt 41 (.slice a m c) none (some (.int .i64 (n : Int))) none).run Try.prog W = .ok (.slice a n c) W := by
  rw [run_sliceAt_slice W 41 _ _ _ _ elem41, run_slice_h W 41 a m c elem41 .i64 n (by omega) (by omega)]
  have hs : ((sizeOf (Try.prog.elem 41)).run Try.prog W) = .ok 1 W := by kernel_rfl
  simp only [hs, Result.andThen, sliced, Int.toNat_natCast, Nat.sub_zero]
  refine congrArg (fun z => Result.ok (Value.slice z n c) W) ?_
  split
  · rfl
  · cases a <;> rfl
theorem cut_l (a : Option Addr) (n c : Nat) (h1 : n ≤ c) (W : World) : (Instr.sliceAt 41 (.slice a c c) (some (.int .i64 (n : Int))) none none).run Try.prog W = .ok (.slice (if n = c then a else a.map (·.add n)) (c - n) (c - n)) W := by
  rw [run_sliceAt_slice W 41 _ _ _ _ elem41, run_slice_l W 41 a c c elem41 .i64 n (by omega) (by omega)]
  have hs : ((sizeOf (Try.prog.elem 41)).run Try.prog W) = .ok 1 W := by kernel_rfl
  simp only [hs, Result.andThen, sliced, Int.toNat_natCast, Nat.mul_one, eq_comm]
theorem made_rep (v : Value) (n : Nat) : madeCells #[v] n = (List.replicate n v).toArray := by
  apply Array.ext
  · simp [madeCells]
  · intro i h1 h2; simp [madeCells, Nat.mod_one]
theorem size_alloc' (w : World) (o : Obj) : (w.alloc o).heap.size = w.heap.size + 1 := by simp
theorem meas {n i : Nat} {x : Int} (h : x = ((i + 1 : Nat) : Int)) (hl : i < n) : n - (intOf (.int .i64 x)).toNat < n - (intOf (.int .i64 (i : Int))).toNat := by subst h; simp only [intOf, Int.toNat_natCast]; omega
theorem wr1 {i n : Nat} (h : i < n) (hn : n ≤ 140737488355328) : wrap64 ((i : Int) + 1) = ((i + 1 : Nat) : Int) := by unfold wrap64; omega
theorem wrs {a b : Nat} (h : a + b ≤ 4611686018427387904) : wrap64 ((a : Int) + (b : Int)) = ((a + b : Nat) : Int) := by unfold wrap64; omega
set_option maxHeartbeats 400000 in
set_option maxRecDepth 100000 in
theorem cut_calls (A0 : Option Addr) (c0 : Nat) (ls : List Nat) (w : World) (hr0 : Kd.C (Kd.int .i64) w A0 ls.length (up ls)) (hn : ls.length ≤ 1000) (hs : ls.sum ≤ 281474976710656) :
    Calls Try.prog 32 #[.slice A0 ls.length c0] w fun e w' => ∃ g b, e = .returned (.slice (some ⟨g, 0, none⟩) ls.length ls.length) ∧ Cu w' w.heap.size g b (ls.map fun k => List.replicate k (0 : Int)) ∧ Below w.heap.size w w' := by
  have HR0 := Aside0.mk hr0
  have HN := Aside0.mk hn
  have HS := Aside0.mk hs
  clear hr0 hn hs
  go_enter Try.func32, Try.ntmps32
  go_wp2
  go_loopw [3, 12] (fun v3 v12 wr => ∃ i : Nat, i ≤ ls.length ∧ v12 = .int .i64 (i : Int) ∧ v3 = .int .i64 (((ls.take i).sum : Nat) : Int) ∧ Aside0 (Below w.heap.size w wr)) (fun _ v12 _ => ls.length - (intOf v12).toNat)
  case atStart => exact ⟨0, Nat.zero_le _, rfl, rfl, ⟨by repeat (first | (with_reducible first | exact Below.refl _ _ | apply below_alloc | apply pw_below_drewN | apply below_drew1))⟩⟩
  case round =>
    obtain ⟨i, hi, rfl, rfl, HB⟩ := hrel
    by_cases hlt : i < ls.length
    · obtain ⟨ad, rfl, hx⟩ := Kd.at_int HR0.out (i : Int) (by omega) (by omega)
      rw [up_rd ls hlt, Int.toNat_natCast] at hx
      replace hx := (HB.out.cell (World.block_lt_of_cell? w _ hx)).trans hx
      have hw1 := wr1 hlt (by have := HN.out; omega)
      have hts := take_sum ls hlt
      have htd := take_drop_sum ls (i + 1)
      have hw2 : wrap64 (((((ls.take i).sum : Nat) : Int)) + ((ls[i] : Nat) : Int)) = (((ls.take (i + 1)).sum : Nat) : Int) := by
        rw [hts]; exact wrs (by have := HS.out; omega)
      have HW1 := Aside0.mk hw1
      have HW2 := Aside0.mk hw2
      have HLT := Aside0.mk hlt
      clear hts htd hw1 hw2
      go_wp2
      go_roundw
      case rel => exact ⟨i + 1, HLT.out, by rw [HW1.out], by rw [HW2.out], HB⟩
      case measure => exact meas HW1.out HLT.out
    · obtain rfl : i = ls.length := by omega
      rw [List.take_length]
      have hmk := print_make_of (P := Try.prog) 41 5 (.int .u8 0) 1 Try.underlying41 info5' rfl (by decide) ls.sum (by have := HS.out; omega)
      have hmk2 := print_make_of (P := Try.prog) 35 41 (.slice none 0 0) 24 Try.underlying35 info41' rfl (by decide) ls.length (by have := HN.out; omega)
      go_wp2
      clear hmk hmk2
      have HCI : Aside0 (Cing w ((wr.alloc (Obj.cells (madeCells #[Value.int IntKind.u8 0] ls.sum) 5)).alloc (Obj.cells (madeCells #[Value.slice none 0 0] ls.length) 41)) (wr.heap.size + 1) wr.heap.size ls 0) := by
        refine ⟨⟨below_alloc (below_alloc HB.out _) _, by have := below_size HB.out; omega, below_size HB.out, by omega, ?_, (madeCells #[Value.slice none 0 0] ls.length).toList, ?_, ?_, fun j k hj => absurd hj (by omega)⟩⟩
        · refine (blk_alloc (blk_new _ _) _).trans ?_
          rw [made_rep]
        · have h2 := blk_new (wr.alloc (Obj.cells (madeCells #[Value.int IntKind.u8 0] ls.sum) 5)) (Obj.cells (madeCells #[Value.slice none 0 0] ls.length) 41)
          rw [size_alloc'] at h2
          rw [h2, Array.toArray_toList]
        · rw [made_rep]; simp
      generalize ((wr.alloc (Obj.cells (madeCells #[Value.int IntKind.u8 0] ls.sum) 5)).alloc (Obj.cells (madeCells #[Value.slice none 0 0] ls.length) 41)) = W2 at HCI ⊢
      generalize wr.heap.size + 1 = g at HCI ⊢
      generalize wr.heap.size = b at HCI ⊢
      clear HB
      go_loopw [6, 27] (fun v6 v27 wr => ∃ (i o : Nat), i ≤ ls.length ∧ v27 = .int .i64 (i : Int) ∧ v6 = .slice (some ⟨b, o, none⟩) (ls.drop i).sum (ls.drop i).sum ∧ Aside0 (o ≤ ls.sum) ∧ Aside0 (0 < (ls.drop i).sum → o = (ls.take i).sum) ∧ Aside0 (Cing w wr g b ls i)) (fun _ v27 _ => ls.length - (intOf v27).toNat)
      case atStart => exact ⟨0, 0, Nat.zero_le _, rfl, rfl, ⟨Nat.zero_le _⟩, ⟨fun _ => rfl⟩, HCI⟩
      case round =>
        clear HCI
        obtain ⟨i, o, hi, rfl, rfl, HLE, HO, HCI⟩ := hrel
        by_cases hlt : i < ls.length
        · obtain ⟨ad', ead, hx⟩ := Kd.at_int HR0.out (i : Int) (by omega) (by omega)
          cases ead
          rw [up_rd ls hlt, Int.toNat_natCast] at hx
          replace hx := (HCI.out.below.cell (World.block_lt_of_cell? w _ hx)).trans hx
          have hds := drop_sum ls hlt
          have hA : 0 < ls[i] → o = (ls.take i).sum := fun hp => HO.out (by omega)
          obtain ⟨⟨u, hu⟩, hf, hput⟩ := HCI.out.put hlt HLE.out hA
          have HPUT := Aside0.mk hput
          have HW1 := Aside0.mk (wr1 hlt (by have := HN.out; omega))
          have HLT := Aside0.mk hlt
          have hc1 := cut_lm (some ⟨b, o, none⟩) ls[i] (ls.drop i).sum (ls.drop i).sum (by omega)
          have hc2 := cut_l (some ⟨b, o, none⟩) ls[i] (ls.drop i).sum (by omega)
          have htd := take_drop_sum ls i
          obtain ⟨o', ho', ho3, ho2⟩ : ∃ o', (if ls[i] = (ls.drop i).sum then some (⟨b, o, none⟩ : Addr) else (some (⟨b, o, none⟩ : Addr)).map (·.add ls[i])) = some ⟨b, o', none⟩ ∧ o' ≤ ls.sum ∧ (0 < (ls.drop (i + 1)).sum → o' = (ls.take (i + 1)).sum) := by
            by_cases he : ls[i] = (ls.drop i).sum
            · exact ⟨o, if_pos he, HLE.out, fun hp => by omega⟩
            · refine ⟨o + ls[i], by rw [if_neg he]; simp [Addr.add], by have := HO.out (by omega); omega, fun hp => ?_⟩
              rw [take_sum ls hlt, HO.out (by omega)]
          rw [ho', show (ls.drop i).sum - ls[i] = (ls.drop (i + 1)).sum by omega] at hc2
          have HO2 := Aside0.mk ho2
          have HO3 := Aside0.mk ho3
          clear hA hput ho' ho2 ho3 hds htd
          go_wp2
          go_roundw
          case rel => exact ⟨i + 1, o', HLT.out, by rw [HW1.out], rfl, HO3, HO2, ⟨by exact HPUT.out⟩⟩
          case measure => exact meas HW1.out HLT.out
        · obtain rfl : i = ls.length := by omega
          have HCU := Aside0.mk (HCI.out.done HN.out HS.out)
          have HB := Aside0.mk HCI.out.below
          clear HCI HO
          go_wp2
          go_ret
          exact ⟨_, _, rfl, HCU.out, HB.out⟩
theorem cut_calls' (A0 : Option Addr) (c0 n : Nat) (ls : List Nat) (hnl : ls.length = n) (w : World) (hr0 : Kd.C (Kd.int .i64) w A0 n (up ls)) (hn : n ≤ 1000) (hs : ls.sum ≤ 281474976710656) :
    Calls Try.prog 32 #[.slice A0 n c0] w fun e w' => ∃ g b, e = .returned (.slice (some ⟨g, 0, none⟩) n n) ∧ Cu w' w.heap.size g b (ls.map fun k => List.replicate k (0 : Int)) ∧ Below w.heap.size w w' := by
  subst hnl; exact cut_calls A0 c0 ls w hr0 hn hs
end Go.Proofs.Ytdhajlkiiphlfaa.Par
/-! parity.add, walked -/
namespace Go.Proofs.Ytdhajlkiiphlfaa.Par
open Go.RowKit Go.Proofs.Ytdhajlkiiphlfaa.QBaseParityWide Go.Proofs.YtdhajlkiiphlfaaW.PrintWords Go.Proofs.YtdhajlkiiphlfaaW.PrintLast Go.Proofs.YtdhajlkiiphlfaaW.PrintMore Go.Proofs.Ytdhajlkiiphlfaa.Solve
set_option linter.unusedVariables false
set_option linter.unusedSimpArgs false
def z256 : List Int := List.replicate 256 0
/-- a block of bytes -/
def bytesV (l : List Int) : Array Value := (l.map (Value.int .u8)).toArray
theorem bytesV_set (l : List Int) (i : Nat) (v : Int) : (bytesV l).setIfInBounds i (.int .u8 v) = bytesV (l.set i v) := by
  unfold bytesV; rw [List.setIfInBounds_toArray, List.map_set]
theorem bytesV_get (l : List Int) (i : Nat) : (bytesV l)[i]? = l[i]?.map (Value.int .u8) := by simp [bytesV]
theorem bytesV_size (l : List Int) : (bytesV l).size = l.length := by simp [bytesV]
def tabL (b : Int) (k : Nat) : List Int := (List.range 256).map fun i => if i < k then mulZ b (i : Int) else 0
theorem tabL_0 (b : Int) : tabL b 0 = z256 := by
  unfold tabL z256
  simp [List.map_const']
theorem tabL_get (b : Int) (k i : Nat) (hi : i < 256) (hk : i < k) : (tabL b k)[i]? = some (mulZ b (i : Int)) := by
  unfold tabL; rw [List.getElem?_map, List.getElem?_range hi]; simp [hk]
theorem tabL_length (b : Int) (k : Nat) : (tabL b k).length = 256 := by simp [tabL]
theorem tabL_set (b : Int) (k : Nat) : (tabL b k).set k (mulZ b (k : Int)) = tabL b (k + 1) := by
  unfold tabL
  apply List.ext_getElem
  · simp
  · intro i h1 h2
    simp only [List.getElem_set, List.getElem_map, List.getElem_range]
    by_cases e : k = i
    · subst e; rw [if_pos rfl, if_pos (by omega)]
    · rw [if_neg e]
      by_cases h : i < k
      · rw [if_pos h, if_pos (by omega)]
      · rw [if_neg h, if_neg (by omega)]
theorem info88 : (Try.prog.info? 88).map (fun i => (i.zero, i.size, i.bytes)) = some (some (.agg (bytesV z256)), 256, 256) := by kernel_rfl
theorem wpList_alloc88 {ops : Array Oper} {rest : List Oper} {o : Oper} {a : Act} {w : World} {Q : Exit → Act → World → Prop} (hg : o.guard = none) (ho : o.op = .alloc 88) (d : Nat) (hd : o.dst = some d)
    (h : wpList Try.prog ops Q rest (a.put (some d) (.pointer (some ⟨w.heap.size, 0, none⟩))) (w.alloc (.cells (bytesV z256) 88))) : wpList Try.prog ops Q (o :: rest) a w := by
  refine Great.wpList_runTo hg (some d) hd _ _ ?_ h
  unfold execOp
  rw [ho]
  kernel_rfl
/-- the bytes of a block, behind add: row times b put to what stands at o -/
def addAt (b : Int) : List Int → Nat → List Int → List Int
  | [], _, D => D
  | v :: l, o, D => addAt b l (o + 1) (D.set o (xorZ (D.getD o 0) (mulZ b v)))
theorem addAt_snoc (b : Int) (v : Int) : ∀ (l : List Int) (o : Nat) (D : List Int), addAt b (l ++ [v]) o D = (addAt b l o D).set (o + l.length) (xorZ ((addAt b l o D).getD (o + l.length) 0) (mulZ b v))
  | [], o, D => by simp [addAt]
  | x :: l, o, D => by
    rw [List.cons_append, addAt, addAt, addAt_snoc b v l]
    simp only [List.length_cons]
    rw [show o + 1 + l.length = o + (l.length + 1) by omega]
theorem addAt_length (b : Int) : ∀ (l : List Int) (o : Nat) (D : List Int), (addAt b l o D).length = D.length
  | [], _, _ => rfl
  | v :: l, o, D => by rw [addAt, addAt_length b l]; simp
theorem addAt_in (b : Int) (hb : In8 b) : ∀ (l : List Int) (o : Nat) (D : List Int), (∀ y ∈ D, In8 y) → ∀ y ∈ addAt b l o D, In8 y
  | [], _, _, h => h
  | v :: l, o, D, h => by
    rw [addAt]
    refine addAt_in b hb l _ _ (fun y hy => ?_)
    rcases List.mem_or_eq_of_mem_set hy with h1 | rfl
    · exact h y h1
    · refine xorZ_in ?_ (mulZ_in hb)
      rw [List.getD_eq_getElem?_getD]
      by_cases hlt : o < D.length
      · rw [List.getElem?_eq_getElem hlt]; exact h _ (List.getElem_mem hlt)
      · rw [List.getElem?_eq_none (by omega)]; exact ⟨by decide, by decide⟩
theorem xor_u8 {x y : Int} (hx : In8 x) (hy : In8 y) : Go.bits .xor .u8 x y = xorZ x y := by
  obtain ⟨m, rfl, hm⟩ := hx.nat
  obtain ⟨n, rfl, hn⟩ := hy.nat
  exact Bits.xor_u8 m n hm hn
theorem take_one {α : Type} (l : List α) {i : Nat} (hi : i < l.length) : l.take (i + 1) = l.take i ++ [l[i]] := List.take_succ_eq_append_getElem hi
/-- the cells of a block, behind add: row times b put to what stands at o (xs: what stood there) -/
def addV (b : Int) : List Int → List Int → Nat → Array Value → Array Value
  | v :: l, y :: xs, o, D => addV b l xs (o + 1) (D.setIfInBounds o (.int .u8 (xorZ y (mulZ b v))))
  | _, _, _, D => D
theorem addV_snoc (b v y : Int) : ∀ (l xs : List Int) (o : Nat) (D : Array Value), l.length = xs.length → addV b (l ++ [v]) (xs ++ [y]) o D = (addV b l xs o D).setIfInBounds (o + l.length) (.int .u8 (xorZ y (mulZ b v)))
  | [], [], o, D, _ => by simp [addV]
  | x :: l, z :: xs, o, D, h => by
    rw [List.cons_append, List.cons_append, addV, addV, addV_snoc b v y l xs _ _ (by simpa using h)]
    simp only [List.length_cons]
    rw [show o + 1 + l.length = o + (l.length + 1) by omega]
theorem addV_get (b : Int) : ∀ (l xs : List Int) (o : Nat) (D : Array Value) (k : Nat), k < o ∨ o + l.length ≤ k → (addV b l xs o D)[k]? = D[k]?
  | [], _, _, _, _, _ => by simp [addV]
  | _ :: _, [], _, _, _, _ => by simp [addV]
  | v :: l, y :: xs, o, D, k, h => by
    rw [List.length_cons] at h
    rw [addV, addV_get b l xs (o + 1) _ k (by omega), Array.getElem?_setIfInBounds, if_neg (by omega)]
theorem addV_size (b : Int) : ∀ (l xs : List Int) (o : Nat) (D : Array Value), (addV b l xs o D).size = D.size
  | [], _, _, _ => by simp [addV]
  | _ :: _, [], _, _ => by simp [addV]
  | v :: l, y :: xs, o, D => by rw [addV, addV_size b l xs, Array.size_setIfInBounds]
theorem addV_bytes (b : Int) : ∀ (l : List Int) (o : Nat) (D : List Int), o + l.length ≤ D.length → addV b l ((D.drop o).take l.length) o (bytesV D) = bytesV (addAt b l o D)
  | [], _, _, _ => by simp [addV, addAt]
  | v :: l, o, D, h => by
    rw [List.length_cons] at h
    rw [List.drop_eq_getElem_cons (by omega), List.length_cons, List.take_succ_cons, addV, addAt, bytesV_set, ← addV_bytes b l (o + 1) _ (by rw [List.length_set]; omega)]
    rw [List.drop_set_of_lt (by omega), List.getD_eq_getElem?_getD, List.getElem?_eq_getElem (by omega)]
    rfl
structure Adding (w0 w1 w : World) (g t : Nat) (D : Array Value) (b : Int) (k : Nat) : Prop where
  below : Below w0.heap.size w0 w
  kept : Kept w1 w (fun j => j = g)
  hg : w0.heap.size ≤ g
  glt : g < w1.heap.size
  ht : w1.heap.size ≤ t
  le : w0.heap.size ≤ w1.heap.size
  data : w.heap[g]? = some (.cells D 5 (0, 0))
  tab : w.heap[t]? = some (.cells (bytesV (tabL b k)) 88 (0, 0))
namespace Adding
variable {w0 w1 w : World} {g t : Nat} {D : Array Value} {b : Int} {k : Nat}
theorem drewN (h : Adding w0 w1 w g t D b k) (n : Nat) : Adding w0 w1 (w.drewN n) g t D b k := ⟨pw_below_drewN h.below n, h.kept.drewN n, h.hg, h.glt, h.ht, h.le, h.data, h.tab⟩
theorem drew (h : Adding w0 w1 w g t D b k) : Adding w0 w1 w.drew g t D b k := ⟨below_drew1 h.below, h.kept.drew, h.hg, h.glt, h.ht, h.le, h.data, h.tab⟩
theorem tabCell (h : Adding w0 w1 w g t D b k) (i : Nat) : w.cell? ⟨t, i, none⟩ = (tabL b k)[i]?.map (Value.int .u8) := by rw [blk_cell h.tab, bytesV_get]
theorem tabCell' (h : Adding w0 w1 w g t D b k) (i : Nat) (hi : i < 256) : ∃ u, w.cell? ⟨t, i, none⟩ = some u := by
  rw [h.tabCell, List.getElem?_eq_getElem (by rw [tabL_length]; exact hi)]; exact ⟨_, rfl⟩
theorem tabSet (h : Adding w0 w1 w g t D b k) : Adding w0 w1 (w.setCell ⟨t, k, none⟩ (.int .u8 (mulZ b (k : Int)))) g t D b (k + 1) := by
  have := h.glt; have := h.ht; have := h.le
  refine ⟨below_set h.below (by omega), h.kept.setCell (.inr h.ht) _, h.hg, h.glt, h.ht, h.le, blk_far h.data (by show g ≠ t; omega) _, ?_⟩
  rw [blk_set h.tab, bytesV_set, tabL_set]
theorem set (h : Adding w0 w1 w g t D b k) (i : Nat) (v : Value) : Adding w0 w1 (w.setCell ⟨g, i, none⟩ v) g t (D.setIfInBounds i v) b k := by
  have := h.glt; have := h.ht; have := h.hg
  exact ⟨below_set h.below h.hg, h.kept.setCell (.inl rfl) _, h.hg, h.glt, h.ht, h.le, blk_set h.data i v, blk_far h.tab (by show t ≠ g; omega) _⟩
end Adding
set_option maxHeartbeats 800000 in
set_option maxRecDepth 100000 in
theorem add_gen (w0 w : World) (g o n c : Nat) (D : Array Value) (xs : List Int) (A1 : Option Addr) (c1 : Nat) (l : List Int) (b : Int) (hB : Below w0.heap.size w0 w) (hg : w0.heap.size ≤ g) (hD : w.heap[g]? = some (.cells D 5 (0, 0))) (hxl : xs.length = l.length) (hxs : ∀ x y, xs[x]? = some y → D[o + x]? = some (.int .u8 y)) (hDi : ∀ y ∈ xs, In8 y)
    (hl : l.length ≤ n) (hnn : n ≤ 140737488355328) (hr1 : ∀ W, Kept w W (fun j => j = g) → Kd.C (Kd.int .u8) W A1 l.length l) (hli : ∀ y ∈ l, In8 y) (hb : In8 b) :
    Calls Try.prog 34 #[.slice (some ⟨g, o, none⟩) n c, .slice A1 l.length c1, .int .u8 b] w fun e w' => e = .returned (.tuple #[]) ∧ Below w0.heap.size w0 w' ∧ Kept w w' (fun j => j = g) ∧ w'.heap[g]? = some (.cells (addV b l xs o D) 5 (0, 0)) := by
  have HR := Aside0.mk hr1
  have HDI := Aside0.mk hDi
  have HLI := Aside0.mk hli
  have HBI := Aside0.mk hb
  have HL := Aside0.mk hl
  have HXL := Aside0.mk hxl
  have HXS := Aside0.mk hxs
  have HNN := Aside0.mk hnn
  have HA : Aside0 (Adding w0 w (w.alloc (.cells (bytesV z256) 88)) g w.heap.size D b 0) := ⟨below_alloc hB _, (Kept.refl _ _).alloc _, hg, blk_lt hD, Nat.le_refl _, hB.size, blk_alloc hD _, by rw [tabL_0]; exact blk_new _ _⟩
  clear hr1 hDi hli hb hl hB hg hD hnn hxl hxs
  go_enter Try.func34, Try.ntmps34
  go_wp2_with (first | (refine wpList_alloc88 rfl rfl _ rfl ?_))
  generalize (w.alloc (.cells (bytesV z256) 88)) = w2 at HA ⊢
  generalize w.heap.size = t at HA ⊢
  go_loopw [10] (fun v10 wr => ∃ k : Nat, k ≤ 256 ∧ v10 = .int .i64 (k : Int) ∧ Aside0 (Adding w0 w wr g t D b k)) (fun v10 _ => 256 - (intOf v10).toNat)
  case atStart => exact ⟨0, Nat.zero_le _, rfl, HA⟩
  case round =>
    clear HA
    obtain ⟨k, hk, rfl, HA⟩ := hrel
    by_cases hlt : k < 256
    · have hm : (k : Int) % 256 = (k : Int) := by omega
      obtain ⟨u, hu⟩ := HA.out.tabCell' k hlt
      have hf := blk_frozen HA.out.tab k
      have HW1 := Aside0.mk (wr1 (i := k) hlt (by omega))
      have HLT := Aside0.mk hlt
      have HM : Aside0 (field_Mul.f 9 b (k : Int) = some (mulZ b (k : Int))) := ⟨Mul_z HBI.out ⟨by omega, by omega⟩ (by omega)⟩
      go_wp2_with (first | (go_at_call 19; (with_reducible refine (field_Mul.calls 9 b (k : Int) (mulZ b (k : Int)) _ HM.out).mono ?_); rintro e w' ⟨rfl, ⟨nd, rfl⟩⟩))
      go_roundw
      case rel => exact ⟨k + 1, HLT.out, by go_num, ⟨by exact (HA.out.drewN nd).tabSet⟩⟩
      case measure => exact meas (by omega) HLT.out
    · obtain rfl : k = 256 := by omega
      rw [show ((256 : Nat) : Int) = 256 from rfl]
      go_wp2
      go_loopw [22] (fun v22 wr => ∃ i : Nat, i ≤ l.length ∧ v22 = .int .i64 (i : Int) ∧ Aside0 (Adding w0 w wr g t (addV b (l.take i) (xs.take i) o D) b 256)) (fun v22 _ => l.length - (intOf v22).toNat)
      case atStart => exact ⟨0, Nat.zero_le _, rfl, ⟨by exact HA.out⟩⟩
      case round =>
        clear HA
        obtain ⟨i, hi, rfl, HA⟩ := hrel
        by_cases hlt : i < l.length
        · have hC := HR.out _ HA.out.kept
          obtain ⟨ad, rfl, hx⟩ := Kd.at_int hC (i : Int) (by omega) (by omega)
          have hrd : rd l (i : Int) = l[i] := by unfold rd; simp [List.getD_eq_getElem?_getD, hlt]
          rw [hrd, Int.toNat_natCast] at hx
          have hv8 : In8 l[i] := HLI.out _ (List.getElem_mem hlt)
          obtain ⟨v, hv⟩ : ∃ v, v = l[i] := ⟨_, rfl⟩
          rw [← hv] at hx hv8
          have hxi : i < xs.length := by rw [HXL.out]; exact hlt
          obtain ⟨y, hy⟩ : ∃ y, y = xs[i] := ⟨_, rfl⟩
          have hts : addV b (l.take (i + 1)) (xs.take (i + 1)) o D = (addV b (l.take i) (xs.take i) o D).setIfInBounds (o + i) (.int .u8 (xorZ y (mulZ b v))) := by
            rw [take_one l hlt, take_one xs hxi, addV_snoc _ _ _ _ _ _ _ (by rw [List.length_take, List.length_take, HXL.out]), List.length_take, Nat.min_eq_left hi, hv, hy]
          have hcell : wr.cell? ⟨g, o + i, none⟩ = some (.int .u8 y) := by
            rw [blk_cell HA.out.data, addV_get _ _ _ _ _ _ (.inr (by rw [List.length_take]; omega))]
            exact HXS.out i y (by rw [hy]; exact List.getElem?_eq_getElem hxi)
          have hdin : In8 y := by rw [hy]; exact HDI.out _ (List.getElem_mem hxi)
          obtain ⟨vn, rfl, hvn⟩ := hv8.nat
          have htc : wr.cell? ⟨t, vn, none⟩ = some (.int .u8 (mulZ b (vn : Int))) := by rw [HA.out.tabCell, tabL_get b 256 vn hvn hvn]; rfl
          have hxx := xor_u8 hdin (mulZ_in (b := (vn : Int)) HBI.out)
          have HTS := Aside0.mk hts
          have HXX := Aside0.mk hxx
          have hfz := blk_frozen HA.out.data (o + i)
          have hin : (i : Int) < (n : Int) := by have := HL.out; omega
          have HW1 := Aside0.mk (wr1 (i := i) hlt (by have := HL.out; have := HNN.out; omega))
          have HLT := Aside0.mk hlt
          clear hts hxx hv hy hrd hC hxi
          have hvi : (vn : Int) < 256 := by omega
          go_wp2_with (fail)
          go_still_tail 9, (by kernel_rfl)
          change wpList _ _ _ _ _ wr.drew
          rw [HXX.out]
          have hHA : Adding w0 w (wr.drew.setCell ⟨g, o + i, none⟩ (.int .u8 (xorZ y (mulZ b (vn : Int))))) g t (addV b (l.take (i + 1)) (xs.take (i + 1)) o D) b 256 := by rw [HTS.out]; exact HA.out.drew.set _ _
          have HA2 := Aside0.mk hHA
          clear hHA
          go_wp2
          go_roundw
          case rel => exact ⟨i + 1, HLT.out, by rw [HW1.out], ⟨by exact HA2.out⟩⟩
          case measure => exact meas HW1.out HLT.out
        · obtain rfl : i = l.length := by omega
          rw [List.take_length, ← HXL.out, List.take_length] at HA
          go_wp2
          first | go_end0 | ((try simp only [Exit.inBlock, Exit.then]); refine bodyPost_ret (results_none rfl _ _ _) rfl ?_)
          exact ⟨rfl, by exact HA.out.below, by exact HA.out.kept, by exact HA.out.data⟩
set_option maxHeartbeats 800000 in
set_option maxRecDepth 100000 in
theorem add_nil (w : World) (T A1 : Option Addr) (n c c1 : Nat) (b : Int) (hb : In8 b) :
    Calls Try.prog 34 #[.slice T n c, .slice A1 0 c1, .int .u8 b] w fun e w' => e = .returned (.tuple #[]) ∧ Below w.heap.size w w' := by
  have HBI := Aside0.mk hb
  have HA : Aside0 (Below w.heap.size w (w.alloc (.cells (bytesV z256) 88)) ∧ (w.alloc (.cells (bytesV z256) 88)).heap[w.heap.size]? = some (.cells (bytesV (tabL b 0)) 88 (0, 0))) := ⟨below_alloc (Below.refl _ _) _, by rw [tabL_0]; exact blk_new _ _⟩
  clear hb
  go_enter Try.func34, Try.ntmps34
  go_wp2_with (first | (refine wpList_alloc88 rfl rfl _ rfl ?_))
  generalize (w.alloc (.cells (bytesV z256) 88)) = w2 at HA ⊢
  go_loopw [10] (fun v10 wr => ∃ k : Nat, k ≤ 256 ∧ v10 = .int .i64 (k : Int) ∧ Aside0 (Below w.heap.size w wr ∧ wr.heap[w.heap.size]? = some (.cells (bytesV (tabL b k)) 88 (0, 0)))) (fun v10 _ => 256 - (intOf v10).toNat)
  case atStart => exact ⟨0, Nat.zero_le _, rfl, HA⟩
  case round =>
    clear HA
    obtain ⟨k, hk, rfl, HA⟩ := hrel
    by_cases hlt : k < 256
    · have hm : (k : Int) % 256 = (k : Int) := by omega
      obtain ⟨u, hu⟩ : ∃ u, wr.cell? ⟨w.heap.size, k, none⟩ = some u := by
        rw [blk_cell HA.out.2, bytesV_get, List.getElem?_eq_getElem (by rw [tabL_length]; exact hlt)]; exact ⟨_, rfl⟩
      have hf := blk_frozen HA.out.2 k
      have HLT := Aside0.mk hlt
      have HM : Aside0 (field_Mul.f 9 b (k : Int) = some (mulZ b (k : Int))) := ⟨Mul_z HBI.out ⟨by omega, by omega⟩ (by omega)⟩
      go_wp2_with (first | (go_at_call 19; (with_reducible refine (field_Mul.calls 9 b (k : Int) (mulZ b (k : Int)) _ HM.out).mono ?_); rintro e w' ⟨rfl, ⟨nd, rfl⟩⟩))
      go_roundw
      case rel => exact ⟨k + 1, HLT.out, by go_num, ⟨below_set (pw_below_drewN HA.out.1 nd) (Nat.le_refl _), by
        have h2 : (wr.drewN nd).heap[w.heap.size]? = some (.cells (bytesV (tabL b k)) 88 (0, 0)) := HA.out.2
        rw [blk_set h2, bytesV_set, tabL_set]⟩⟩
      case measure => exact meas (by omega) HLT.out
    · obtain rfl : k = 256 := by omega
      rw [show ((256 : Nat) : Int) = 256 from rfl]
      go_wp2
      go_loopw [22] (fun v22 wr => v22 = .int .i64 0 ∧ Aside0 (Below w.heap.size w wr)) (fun v22 _ => 0)
      case atStart => exact ⟨rfl, ⟨HA.out.1⟩⟩
      case round =>
        clear HA
        obtain ⟨rfl, HA⟩ := hrel
        go_wp2
        first | go_end0 | ((try simp only [Exit.inBlock, Exit.then]); refine bodyPost_ret (results_none rfl _ _ _) rfl ?_)
        exact ⟨rfl, HA.out⟩
theorem add_calls (w0 w : World) (g o n c : Nat) (D : List Int) (A1 : Option Addr) (c1 : Nat) (l : List Int) (b : Int) (hB : Below w0.heap.size w0 w) (hg : w0.heap.size ≤ g) (hD : w.heap[g]? = some (.cells (bytesV D) 5 (0, 0))) (hDi : ∀ y ∈ D, In8 y)
    (hl : l.length ≤ n) (ho : o + l.length ≤ D.length) (hn : D.length ≤ 140737488355328) (hnn : n ≤ 140737488355328) (hr1 : ∀ W, Kept w W (fun j => j = g) → Kd.C (Kd.int .u8) W A1 l.length l) (hli : ∀ y ∈ l, In8 y) (hb : In8 b) :
    Calls Try.prog 34 #[.slice (some ⟨g, o, none⟩) n c, .slice A1 l.length c1, .int .u8 b] w fun e w' => e = .returned (.tuple #[]) ∧ Below w0.heap.size w0 w' ∧ Kept w w' (fun j => j = g) ∧ w'.heap[g]? = some (.cells (bytesV (addAt b l o D)) 5 (0, 0)) := by
  rw [← addV_bytes b l o D ho]
  refine add_gen w0 w g o n c (bytesV D) ((D.drop o).take l.length) A1 c1 l b hB hg hD (by rw [List.length_take, List.length_drop]; omega) (fun x y hx => ?_) (fun y hy => hDi y (List.mem_of_mem_drop (List.mem_of_mem_take hy))) hl hnn hr1 hli hb
  have hlt : x < l.length := by
    have := (List.getElem?_eq_some_iff.1 hx).1
    rw [List.length_take] at this; omega
  rw [List.getElem?_take, if_pos hlt, List.getElem?_drop] at hx
  rw [bytesV_get, hx]; rfl
end Go.Proofs.Ytdhajlkiiphlfaa.Par
/-! what the small functions of parity answer -/
namespace Go.Proofs.Ytdhajlkiiphlfaa.Par
open Go.RowKit Go.Proofs.Ytdhajlkiiphlfaa.QBaseParityWide Go.Proofs.YtdhajlkiiphlfaaW.PrintWords Go.Proofs.YtdhajlkiiphlfaaW.PrintLast Go.Proofs.YtdhajlkiiphlfaaW.PrintMore Go.Proofs.Ytdhajlkiiphlfaa.Solve
set_option linter.unusedVariables false
set_option linter.unusedSimpArgs false
def wideN (ls : List Nat) : Nat := ls.foldl max 0
theorem foldl_max (ls : List Nat) (a : Nat) : ls.foldl max a = max a (wideN ls) := by
  unfold wideN
  induction ls generalizing a with
  | nil => simp
  | cons x l ih => rw [List.foldl_cons, List.foldl_cons, ih, ih (max 0 x)]; omega
theorem wideN_cons (x : Nat) (l : List Nat) : wideN (x :: l) = max x (wideN l) := by
  show l.foldl max (max 0 x) = _
  rw [foldl_max]; omega
theorem wideN_le {ls : List Nat} {B : Nat} (h : ∀ x ∈ ls, x ≤ B) : wideN ls ≤ B := by
  induction ls with
  | nil => exact Nat.zero_le _
  | cons x l ih =>
    rw [wideN_cons]
    have := h x List.mem_cons_self
    have := ih (fun y hy => h y (List.mem_cons_of_mem _ hy))
    omega
theorem le_wideN {ls : List Nat} {x : Nat} (h : x ∈ ls) : x ≤ wideN ls := by
  induction ls with
  | nil => cases h
  | cons y l ih =>
    rw [wideN_cons]
    rcases List.mem_cons.1 h with rfl | h
    · omega
    · have := ih h; omega
theorem wideN_take (ls : List Nat) {i : Nat} (hi : i < ls.length) : wideN (ls.take (i + 1)) = max (wideN (ls.take i)) ls[i] := by
  show (ls.take (i + 1)).foldl max 0 = max ((ls.take i).foldl max 0) ls[i]
  rw [List.take_succ_eq_append_getElem hi, List.foldl_append]; rfl
theorem wide_l0 (ls : List Nat) (hl : ls.length ≤ 1000) : ∀ (d i k : Nat), i + d = ls.length → d < k → parity_wide.l0 k ((wideN (ls.take i) : Nat) : Int) (up ls) ((up ls).length : Int) (i : Int) = some ((wideN ls : Nat) : Int) := by
  intro d
  induction d with
  | zero =>
    intro i k hi hk
    obtain ⟨k, rfl⟩ : ∃ m, k = m + 1 := ⟨k - 1, by omega⟩
    obtain rfl : i = ls.length := by omega
    rw [parity_wide.l0, up_length, if_neg (by omega), List.take_length]
  | succ d ih =>
    intro i k hi hk
    obtain ⟨k, rfl⟩ : ∃ m, k = m + 1 := ⟨k - 1, by omega⟩
    have hlt : i < ls.length := by omega
    have h1 : mx ((wideN (ls.take i) : Nat) : Int) (rd (up ls) (i : Int)) = ((wideN (ls.take (i + 1)) : Nat) : Int) := by
      rw [up_rd ls hlt, wideN_take ls hlt]; unfold mx; split <;> omega
    have h2 := ih (i + 1) k (by omega) (by omega)
    rw [parity_wide.l0, up_length, if_pos (by omega), if_pos (by omega), if_pos (by omega), h1, wr1 hlt (by omega), ← up_length ls]
    exact h2
theorem wide_f (ls : List Nat) (hl : ls.length ≤ 1000) {k : Nat} (hk : 1000 < k) : parity_wide.f k (up ls) = some ((wideN ls : Nat) : Int) := by
  have := wide_l0 ls hl ls.length 0 k (by omega) (by omega)
  exact this
theorem same_l0 (n : Int) (t : Nat) (ht : t ≤ 1000) : ∀ (d i k : Nat), i + d = t → d < k → parity_same.l0 k n (List.replicate i n ++ List.replicate d 0) (t : Int) (i : Int) = some (List.replicate t n) := by
  intro d
  induction d with
  | zero =>
    intro i k hi hk
    obtain ⟨k, rfl⟩ : ∃ m, k = m + 1 := ⟨k - 1, by omega⟩
    obtain rfl : i = t := by omega
    rw [parity_same.l0, if_neg (by omega), List.replicate_zero, List.append_nil]
  | succ d ih =>
    intro i k hi hk
    obtain ⟨k, rfl⟩ : ∃ m, k = m + 1 := ⟨k - 1, by omega⟩
    have hlt : i < t := by omega
    have e : (List.replicate i n ++ List.replicate (d + 1) (0 : Int)).set i n = List.replicate (i + 1) n ++ List.replicate d 0 := by
      rw [List.set_append_right _ _ (by simp)]
      rw [List.length_replicate, Nat.sub_self, List.replicate_succ, List.set_cons_zero, List.replicate_succ', List.append_assoc]; rfl
    have h2 := ih (i + 1) k (by omega) (by omega)
    have hlen : ((List.replicate i n ++ List.replicate (d + 1) (0 : Int)).length : Int) = (t : Int) := by simp; omega
    rw [parity_same.l0, if_pos (by omega), if_pos (by omega), hlen, if_pos (by omega), Int.toNat_natCast, e, wr1 hlt (by omega)]
    exact h2
theorem same_f (n : Int) (t : Nat) (ht : t ≤ 1000) {k : Nat} (hk : 1000 < k) : parity_same.f k n (t : Int) = some (List.replicate t n) := by
  have := same_l0 n t ht t 0 k (by omega) (by omega)
  rw [List.replicate_zero, List.nil_append] at this
  unfold parity_same.f
  rw [if_pos (by omega), if_pos (by omega), Option.bind_some, Int.toNat_natCast, List.length_replicate]
  exact this
theorem lengths_l0 (rows : List (List Int)) (hl : rows.length ≤ 1000) : ∀ (d i k : Nat), i + d = rows.length → d < k → parity_lengths.l0 k (up ((rows.take i).map List.length) ++ List.replicate d 0) rows (rows.length : Int) (i : Int) = some (up (rows.map List.length)) := by
  intro d
  induction d with
  | zero =>
    intro i k hi hk
    obtain ⟨k, rfl⟩ : ∃ m, k = m + 1 := ⟨k - 1, by omega⟩
    obtain rfl : i = rows.length := by omega
    rw [parity_lengths.l0, if_neg (by omega), List.replicate_zero, List.append_nil, List.take_length]
  | succ d ih =>
    intro i k hi hk
    obtain ⟨k, rfl⟩ : ∃ m, k = m + 1 := ⟨k - 1, by omega⟩
    have hlt : i < rows.length := by omega
    have hul : (up ((rows.take i).map List.length)).length = i := by rw [up_length]; simp; omega
    have hr : rd_L2 rows (i : Int) = rows[i] := by unfold rd_L2; simp [List.getD_eq_getElem?_getD, hlt]
    have e : (up ((rows.take i).map List.length) ++ List.replicate (d + 1) (0 : Int)).set i ((rd_L2 rows (i : Int)).length : Int) = up ((rows.take (i + 1)).map List.length) ++ List.replicate d 0 := by
      rw [List.set_append_right _ _ (by omega), hul, Nat.sub_self, List.replicate_succ, List.set_cons_zero, take_one rows hlt, hr]
      unfold up
      rw [List.map_append, List.map_append, List.append_assoc]; rfl
    have h2 := ih (i + 1) k (by omega) (by omega)
    have hlen : ((up ((rows.take i).map List.length) ++ List.replicate (d + 1) (0 : Int)).length : Int) = (rows.length : Int) := by
      rw [List.length_append, hul, List.length_replicate]; omega
    rw [parity_lengths.l0, if_pos (by omega), if_pos (by omega), if_pos (by omega), hlen, if_pos (by omega), Int.toNat_natCast, e, wr1 hlt (by omega)]
    exact h2
theorem lengths_f (rows : List (List Int)) (hl : rows.length ≤ 1000) {k : Nat} (hk : 1000 < k) : parity_lengths.f k rows = some (up (rows.map List.length)) := by
  have := lengths_l0 rows hl rows.length 0 k (by omega) (by omega)
  unfold parity_lengths.f
  rw [if_pos (by omega), Int.toNat_natCast, if_pos (by omega)]
  exact this
/-- the element of Cauchy's matrix -/
def cE (i j : Nat) : Int := invZ (xorZ ((255 - i : Nat) : Int) (j : Int))
theorem cE_in {i j : Nat} (hj : j < 256) : In8 (cE i j) := invZ_in (xorZ_in (In8.of (by omega)) (In8.of hj))
def cau (p n : Nat) : List (List Int) := (List.range p).map fun i => (List.range n).map fun j => cE i j
theorem cau_sh (p n : Nat) (hn : n ≤ 256) : Sh p n (cau p n) := by
  refine ⟨by simp [cau], fun r hr => ?_, fun r hr y hy => ?_⟩
  · obtain ⟨i, _, rfl⟩ := List.mem_map.1 hr; simp
  · obtain ⟨i, _, rfl⟩ := List.mem_map.1 hr
    obtain ⟨j, hj, rfl⟩ := List.mem_map.1 hy
    exact cE_in (by have := List.mem_range.1 hj; omega)
theorem cau_row {p n i : Nat} (hi : i < p) : (cau p n)[i]? = some ((List.range n).map fun j => cE i j) := by
  unfold cau; rw [List.getElem?_map, List.getElem?_range hi]; rfl
theorem cau_of {p n : Nat} (hn : n ≤ 256) {m : List (List Int)} (h : Sh p n m) (hv : ∀ a c, a < p → c < n → rd (rd_L2 m (a : Int)) (c : Int) = cE a c) : m = cau p n := by
  have hc := cau_sh p n hn
  refine eq_of_fn h hc (fun i j hi hj => ?_)
  obtain ⟨r, h1, h2, _, _, h3⟩ := fn_row h hi j
  rw [h3]
  have := hv i j hi hj
  rw [h2] at this
  rw [this, fn_at (cau_row hi) (y := cE i j) (by rw [List.getElem?_map, List.getElem?_range hj]; rfl)]
theorem cauchy_ok {p n : Nat} (h1 : 1 ≤ p) (h2 : 1 ≤ n) (hR : p + n ≤ 256) {k : Nat} (hk : 80000 ≤ k) : field_Cauchy.f k (p : Int) (n : Int) = some (cau p n, 0) := by
  obtain ⟨m, e, hs, hv⟩ := Cau.cauchy_f p n h1 h2 hR k hk
  rw [e, cau_of (by omega) hs hv]
theorem cauchy_no {p n : Nat} (h : p = 0 ∨ n = 0) {k : Nat} (hk : 1 ≤ k) : field_Cauchy.f k (p : Int) (n : Int) = some ([], 42) := by
  obtain ⟨k, rfl⟩ : ∃ m, k = m + 1 := ⟨k - 1, by omega⟩
  unfold field_Cauchy.f
  by_cases hp : (p : Int) < 1
  · rw [if_pos hp, field_Cauchy.j0, if_pos rfl]
  · rw [if_neg hp, if_pos (by omega), field_Cauchy.j0, if_pos rfl]
def matL (p n : Nat) : List (List Int) := if p = 0 ∨ n = 0 then List.replicate p [] else cau p n
theorem matrix_f {p n : Nat} (hp : p ≤ 16) (hn : n ≤ 200) {k : Nat} (hk : 80000 ≤ k) : parity_matrix.f k (p : Int) (n : Int) = some (matL p n) := by
  unfold parity_matrix.f matL
  by_cases h : p = 0 ∨ n = 0
  · rw [cauchy_no h (by omega), Option.bind_some, if_pos h]
    show (if (42 : Int) = 0 then _ else _) = _
    rw [if_neg (by decide), if_pos (by omega), Int.toNat_natCast, if_pos (by omega)]
  · rw [cauchy_ok (by omega) (by omega) (by omega) hk, Option.bind_some, if_neg h]
    show (if (0 : Int) = 0 then _ else _) = _
    rw [if_pos rfl]
end Go.Proofs.Ytdhajlkiiphlfaa.Par
/-! rows in one block: what reads, what an add leaves -/
namespace Go.Proofs.Ytdhajlkiiphlfaa.Par
open Go.RowKit Go.Proofs.Ytdhajlkiiphlfaa.QBaseParityWide Go.Proofs.YtdhajlkiiphlfaaW.PrintWords Go.Proofs.YtdhajlkiiphlfaaW.PrintLast Go.Proofs.YtdhajlkiiphlfaaW.PrintMore Go.Proofs.Ytdhajlkiiphlfaa.Solve
set_option linter.unusedVariables false
set_option linter.unusedSimpArgs false
theorem flat_split {m : List (List Int)} {i : Nat} {r : List Int} (h : m[i]? = some r) : m.flatten = (m.take i).flatten ++ (r ++ (m.drop (i + 1)).flatten) := by
  obtain ⟨hi, rfl⟩ := List.getElem?_eq_some_iff.1 h
  conv => lhs; rw [← List.take_append_drop i m, List.drop_eq_getElem_cons hi]
  rw [List.flatten_append, List.flatten_cons]
theorem flat_set {m : List (List Int)} {i : Nat} {r r' : List Int} (h : m[i]? = some r) : (m.set i r').flatten = (m.take i).flatten ++ (r' ++ (m.drop (i + 1)).flatten) := by
  have hi := (List.getElem?_eq_some_iff.1 h).1
  rw [List.set_eq_take_append_cons_drop, if_pos hi, List.flatten_append, List.flatten_cons]
theorem addAt_mid (c : Int) (pre post : List Int) : ∀ (l : List Int) (o : Nat) (r : List Int), o + l.length ≤ r.length → addAt c l (pre.length + o) (pre ++ (r ++ post)) = pre ++ (addAt c l o r ++ post)
  | [], _, _, _ => rfl
  | v :: l, o, r, h => by
    rw [List.length_cons] at h
    have hg : (pre ++ (r ++ post)).getD (pre.length + o) 0 = r.getD o 0 := by
      rw [List.getD_eq_getElem?_getD, List.getD_eq_getElem?_getD, List.getElem?_append_right (by omega), Nat.add_sub_cancel_left, List.getElem?_append_left (by omega)]
    rw [addAt, addAt, hg, List.set_append_right _ _ (by omega), Nat.add_sub_cancel_left, List.set_append_left _ _ (by omega), Nat.add_assoc]
    exact addAt_mid c pre post l (o + 1) _ (by rw [List.length_set]; omega)
theorem addAt_flat {m : List (List Int)} {i : Nat} {r l : List Int} (h : m[i]? = some r) (hl : l.length ≤ r.length) (c : Int) : addAt c l ((m.take i).flatten.length) m.flatten = (m.set i (addAt c l 0 r)).flatten := by
  rw [flat_split h, flat_set h, ← addAt_mid c _ _ l 0 r (by omega)]; rfl
theorem add_off (b o n : Nat) : (⟨b, o, none⟩ : Addr).add n = ⟨b, o + n, none⟩ := by
  unfold Addr.add
  split
  · rename_i h; subst h; rfl
  · rfl
namespace Cu
variable {w w' : World} {base g b : Nat} {m : List (List Int)}
theorem head (h : Cu w base g b m) {i : Nat} {r : List Int} (hi : m[i]? = some r) : ∃ o, w.cell? ⟨g, i, none⟩ = some (.slice (some ⟨b, o, none⟩) r.length r.length) ∧ o ≤ m.flatten.length ∧ (0 < r.length → o = ((m.take i).flatten).length) := by
  obtain ⟨hs, hh, _, hx⟩ := h.heads
  obtain ⟨o, h1, h2, h3⟩ := hx i r hi
  exact ⟨o, by rw [blk_cell hh]; simpa using h1, h2, h3⟩
theorem rowC (h : Cu w base g b m) {i : Nat} {r : List Int} (hi : m[i]? = some r) {o : Nat} (ho : 0 < r.length → o = ((m.take i).flatten).length) : Kd.C (Kd.int .u8) w (some ⟨b, o, none⟩) r.length r := by
  refine ⟨rfl, ?_, fun hp => ⟨_, rfl, fun j p hj => ⟨[.int .u8 p], rfl, rfl, fun t u ht => ?_⟩⟩⟩
  · have := h.many
    rw [flat_split hi, List.length_append, List.length_append] at this
    omega
  · have hjl := (List.getElem?_eq_some_iff.1 hj).1
    match t, ht with
    | 0, ht =>
      obtain rfl := Option.some.inj ht
      rw [show (⟨b, o, none⟩ : Addr).add (j * (Kd.int .u8).sz + 0) = ⟨b, o + (j * 1 + 0), none⟩ from add_off b o _]
      rw [blk_cell h.data, ho hp, flat_split hi]
      simp only [List.getElem?_toArray, List.getElem?_map]
      rw [List.getElem?_append_right (by omega), show (List.take i m).flatten.length + (j * 1 + 0) - (List.take i m).flatten.length = j by omega, List.getElem?_append_left hjl, hj]
      rfl
    | t + 1, ht => simp at ht
theorem reads (h : Cu w base g b m) : Kd.C (Kd.slice 5 (Kd.int .u8)) w (some ⟨g, 0, none⟩) m.length m := by
  refine ⟨rfl, by have := h.few; omega, fun hp => ⟨_, rfl, fun j p hj => ?_⟩⟩
  obtain ⟨o, h1, h2, h3⟩ := h.head hj
  refine ⟨[.slice (some ⟨b, o, none⟩) p.length p.length], rfl, ⟨_, _, rfl, Nat.le_refl _, h.rowC hj h3⟩, fun t u ht => ?_⟩
  match t, ht with
  | 0, ht =>
    obtain rfl := Option.some.inj ht
    rw [show (⟨g, 0, none⟩ : Addr).add (j * (Kd.slice 5 (Kd.int .u8)).sz + 0) = ⟨g, j, none⟩ from (add_off g 0 _).trans (by rw [Nat.zero_add]; exact congrArg (fun z => (⟨g, z, none⟩ : Addr)) (Nat.mul_one j))]
    exact h1
  | t + 1, ht => simp at ht
/-- the data were written -/
theorem put (h : Cu w base g b m) (hk : Kept w w' (fun k => k = b)) {i : Nat} {r r' : List Int} (hi : m[i]? = some r) (hl : r'.length = r.length) (hd : w'.heap[b]? = some (.cells (bytesV (m.set i r').flatten) 5 (0, 0))) : Cu w' base g b (m.set i r') := by
  obtain ⟨hs, hh, hle, hx⟩ := h.heads
  have hil := (List.getElem?_eq_some_iff.1 hi).1
  have hfl : (m.set i r').flatten.length = m.flatten.length := by rw [flat_set hi, flat_split hi]; simp [hl]
  refine ⟨h.hg, h.hb, h.ne, by rw [List.length_set]; exact h.few, by rw [hfl]; exact h.many, hd, hs, blk_kept hh hk h.ne, by rw [List.length_set]; exact hle, fun j q hj => ?_⟩
  rw [hfl]
  have htk : ((m.set i r').take j).flatten.length = (m.take j).flatten.length := by
    by_cases hij : i < j
    · have e : (m.take j)[i]? = some r := by rw [List.getElem?_take, if_pos hij]; exact hi
      rw [List.take_set, flat_set e, flat_split e]; simp [hl]
    · rw [List.take_set_of_le (by omega)]
  rw [htk]
  by_cases hij : i = j
  · subst hij
    rw [List.getElem?_set_self hil] at hj
    obtain rfl := Option.some.inj hj
    rw [hl]
    exact hx i r hi
  · rw [List.getElem?_set_ne hij] at hj
    exact hx j q hj
theorem kept (h : Cu w base g b m) {S : Nat → Prop} (hk : Kept w w' S) (h1 : ¬ S g) (h2 : ¬ S b) : Cu w' base g b m := by
  obtain ⟨hs, hh, hx⟩ := h.heads
  exact ⟨h.hg, h.hb, h.ne, h.few, h.many, blk_kept h.data hk h2, hs, blk_kept hh hk h1, hx⟩
theorem below (h : Cu w base g b m) (hb : Below w.heap.size w w') : Cu w' base g b m := h.kept (Kept.of_below hb (fun _ => False)) (fun h => h) (fun h => h)
theorem base_down {base' : Nat} (h : Cu w base g b m) (hb : base' ≤ base) : Cu w base' g b m := ⟨Nat.le_trans hb h.hg, Nat.le_trans hb h.hb, h.ne, h.few, h.many, h.data, h.heads⟩
theorem lt_b (h : Cu w base g b m) : b < w.heap.size := blk_lt h.data
theorem lt_g (h : Cu w base g b m) : g < w.heap.size := by obtain ⟨hs, hh, _⟩ := h.heads; exact blk_lt hh
end Cu
end Go.Proofs.Ytdhajlkiiphlfaa.Par
