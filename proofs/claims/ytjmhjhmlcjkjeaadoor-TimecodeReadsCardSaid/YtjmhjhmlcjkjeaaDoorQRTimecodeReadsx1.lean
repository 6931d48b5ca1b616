-- Printed by a program of this session (wrap.py) over the kit's print.py, with hand-proved contracts among its functions.
import Derived.Test.YtjmhjhmlcjkjeaaDoorQRTimecodeReadsx0
namespace Go.Proofs.YtjmhjhmlcjkjeaaDoor.QRTimecodeReads
open Go.RowKit Go.Proofs.YtjmhjhmlcjkjeaaDoorW.PrintWords Go.Proofs.YtjmhjhmlcjkjeaaDoorW.PrintLast Go.Proofs.YtjmhjhmlcjkjeaaDoorW.PrintMore
attribute [local go_sem] max2_int min2_int max_two min_two max_three min_three max_four min_four   -- for this text's walks alone
set_option linter.unusedVariables false
set_option linter.unusedSimpArgs false

/-! ### dailieslaw18_shown: function 9 -/
def dailieslaw18_shown.f : Option (Bool) := some true
theorem dailieslaw18_shown.calls (r : Bool) (w : World) (hG : Tab.TabAt w) (h : dailieslaw18_shown.f = some r) :
    Calls Tryd.prog 9 #[] w fun e w' => e = .returned (.bool r) ∧ Below w.heap.size w w' := by
  simp only [dailieslaw18_shown.f, Option.some.injEq] at h
  subst h
  exact Tab.shown_calls w hG

/-! ### timecode_find: function 25 -/
def timecode_find.f (a0 : Int) : Option (Int × Int × Int × Int × Bool) := Tab.findF a0
theorem timecode_find.calls (a0 : Int) (r1 r2 r3 r4 : Int) (r5 : Bool) (w : World) (hG : Tab.TabAt w) (h : timecode_find.f a0 = some (r1, r2, r3, r4, r5)) :
    Calls Tryd.prog 25 #[.int .i64 a0] w fun e w' => e = .returned (.tuple #[.agg #[.int .i64 r1, .int .i64 r2, .int .i64 r3, .int .i64 r4], .bool r5]) ∧ Below w.heap.size w w' := Tab.find_calls a0 r1 r2 r3 r4 r5 w hG h

/-! ### timecode_rate_mark: function 30 -/
def timecode_rate_mark.f (a0_0 : Int) (a0_1 : Int) (a0_2 : Int) (a0_3 : Int) : Option (Int) := if a0_3 > 0 then (some 59) else (some 58)
set_option maxHeartbeats 8000000 in
set_option maxRecDepth 100000 in
theorem timecode_rate_mark.calls (a0_0 : Int) (a0_1 : Int) (a0_2 : Int) (a0_3 : Int) (r : Int) (w : World) (h : timecode_rate_mark.f a0_0 a0_1 a0_2 a0_3 = some r) :
    Calls Tryd.prog 30 #[.agg #[.int .i64 a0_0, .int .i64 a0_1, .int .i64 a0_2, .int .i64 a0_3]] w fun e w' => e = .returned (.int .u8 r) ∧ Below w.heap.size w w' := by
  have hu54 := Tryd.underlying54
  have HB := Aside0.mk (Below.refl w.heap.size w)
  have H : (if a0_3 > 0 then (some 59) else (some 58)) = some r := h
  clear h
  by_cases c2 : a0_3 > 0
  · rw [if_pos c2] at H
    have c2b0 : decide (0 < a0_3) = true := decide_eq_true c2
    clear c2
    obtain rfl := Option.some.inj H
    go_enter Tryd.func30, Tryd.ntmps30
    go_wp2_with (first | ((with_reducible refine gate_dst (N := 1) rfl ?_); refine box_event ?hg (N := 1) ?hd (cs := #[.int .i64 a0_0, .int .i64 a0_1, .int .i64 a0_2, .int .i64 a0_3]) (t := 54) ?hr ?_; (case hd => rfl); (case hg => rfl); (case hr => first | (go_simp; done) | (go_simp; rfl)); intro gb101 hg w3 hbox hb; have n0_ := Aside0.mk (below_step (by repeat (first | (with_reducible first | exact HB.out | apply below_alloc | apply pw_below_drewN | apply below_drew1) | exact HB.out)) hb); have n1_ := Aside0.mk (hbox); have n2_ := Aside0.mk ((by rw [hg]; exact (below_size (by repeat (first | (with_reducible first | exact HB.out | apply below_alloc | apply pw_below_drewN | apply below_drew1) | exact HB.out))) : w.heap.size ≤ gb101)); have n3_ := Aside0.mk ((by rw [hg]; exact (below_size (by repeat (first | (with_reducible first | exact HB.out | apply below_alloc | apply pw_below_drewN | apply below_drew1) | exact HB.out))) : w.heap.size ≤ gb101)); clear HB; have HB := n0_; have BK101 := n1_; have GW101 := n2_; have GE101 := n3_; clear n0_ n1_ n2_ n3_; clear hb hbox hg; have hcz4_0 : w3.cell? ⟨gb101, 0, none⟩ = some (.int .i64 a0_0) := (blk_cell BK101.out 0).trans rfl; have hcz4_1 : w3.cell? ⟨gb101, 1, none⟩ = some (.int .i64 a0_1) := (blk_cell BK101.out 1).trans rfl; have hcz4_2 : w3.cell? ⟨gb101, 2, none⟩ = some (.int .i64 a0_2) := (blk_cell BK101.out 2).trans rfl; have hcz4_3 : w3.cell? ⟨gb101, 3, none⟩ = some (.int .i64 a0_3) := (blk_cell BK101.out 3).trans rfl; have hfz4_0 := blk_frozen BK101.out 0; have hfz4_1 := blk_frozen BK101.out 1; have hfz4_2 := blk_frozen BK101.out 2; have hfz4_3 := blk_frozen BK101.out 3))
    go_ret
    exact ⟨by first | rfl | (simp [errW_none, errW_some] <;> rfl) | (simp [*, errW_none, errW_some] <;> rfl), by repeat (first | (with_reducible first | exact HB.out | apply below_alloc | apply pw_below_drewN | apply below_drew1 | refine below_set ?_ GE101.out) | exact HB.out)⟩
  · rw [if_neg c2] at H
    have c2b0 : decide (0 < a0_3) = false := decide_eq_false c2
    clear c2
    obtain rfl := Option.some.inj H
    go_enter Tryd.func30, Tryd.ntmps30
    go_wp2_with (first | ((with_reducible refine gate_dst (N := 1) rfl ?_); refine box_event ?hg (N := 1) ?hd (cs := #[.int .i64 a0_0, .int .i64 a0_1, .int .i64 a0_2, .int .i64 a0_3]) (t := 54) ?hr ?_; (case hd => rfl); (case hg => rfl); (case hr => first | (go_simp; done) | (go_simp; rfl)); intro gb101 hg w5 hbox hb; have n0_ := Aside0.mk (below_step (by repeat (first | (with_reducible first | exact HB.out | apply below_alloc | apply pw_below_drewN | apply below_drew1) | exact HB.out)) hb); have n1_ := Aside0.mk (hbox); have n2_ := Aside0.mk ((by rw [hg]; exact (below_size (by repeat (first | (with_reducible first | exact HB.out | apply below_alloc | apply pw_below_drewN | apply below_drew1) | exact HB.out))) : w.heap.size ≤ gb101)); have n3_ := Aside0.mk ((by rw [hg]; exact (below_size (by repeat (first | (with_reducible first | exact HB.out | apply below_alloc | apply pw_below_drewN | apply below_drew1) | exact HB.out))) : w.heap.size ≤ gb101)); clear HB; have HB := n0_; have BK101 := n1_; have GW101 := n2_; have GE101 := n3_; clear n0_ n1_ n2_ n3_; clear hb hbox hg; have hcz6_0 : w5.cell? ⟨gb101, 0, none⟩ = some (.int .i64 a0_0) := (blk_cell BK101.out 0).trans rfl; have hcz6_1 : w5.cell? ⟨gb101, 1, none⟩ = some (.int .i64 a0_1) := (blk_cell BK101.out 1).trans rfl; have hcz6_2 : w5.cell? ⟨gb101, 2, none⟩ = some (.int .i64 a0_2) := (blk_cell BK101.out 2).trans rfl; have hcz6_3 : w5.cell? ⟨gb101, 3, none⟩ = some (.int .i64 a0_3) := (blk_cell BK101.out 3).trans rfl; have hfz6_0 := blk_frozen BK101.out 0; have hfz6_1 := blk_frozen BK101.out 1; have hfz6_2 := blk_frozen BK101.out 2; have hfz6_3 := blk_frozen BK101.out 3))
    go_ret
    exact ⟨by first | rfl | (simp [errW_none, errW_some] <;> rfl) | (simp [*, errW_none, errW_some] <;> rfl), by repeat (first | (with_reducible first | exact HB.out | apply below_alloc | apply pw_below_drewN | apply below_drew1 | refine below_set ?_ GE101.out) | exact HB.out)⟩

-- NOT PRINTED: function 46 (timecode_rate_form)

-- NOT PRINTED: function 31 (timecode_rate_read)

-- NOT PRINTED: function 13 (timecode_Number)

-- NOT PRINTED: function 48 (reflectlite_ValueOf)

-- NOT PRINTED: function 49 (reflectlite_Value_Type)

-- NOT PRINTED: function 50 (reflectlite_Value_IsNil)

-- NOT PRINTED: function 52 (reflectlite_TypeOf)

-- NOT PRINTED: function 54 (reflectlite_Value_Elem)

-- NOT PRINTED: function 55 (reflectlite_Value_Set)

-- NOT PRINTED: function 51 (errors_as)

-- NOT PRINTED: function 40 (errors_As)

-- NOT PRINTED: function 53 (errors_is)

-- NOT PRINTED: function 41 (errors_Is)

-- NOT PRINTED: function 23 (dailieslaw18_told)

/-! ### dailiesref18_Rate: function 32 -/
def dailiesref18_Rate.f (a0 : Int) : Option (Bool) := if a0 ≥ 1 then (some (decide (a0 ≤ 7))) else (some false)
set_option maxHeartbeats 8000000 in
set_option maxRecDepth 100000 in
theorem dailiesref18_Rate.calls (a0 : Int) (r : Bool) (w : World) (h : dailiesref18_Rate.f a0 = some r) :
    Calls Tryd.prog 32 #[.int .i64 a0] w fun e w' => e = .returned (.bool r) ∧ Drawn0 w w' := by
  have H : (if a0 ≥ 1 then (some (decide (a0 ≤ 7))) else (some false)) = some r := h
  clear h
  by_cases c2 : a0 ≥ 1
  · rw [if_pos c2] at H
    have c2b0 : decide (1 ≤ a0) = true := decide_eq_true c2
    clear c2
    obtain rfl := Option.some.inj H
    go_enter Tryd.func32, Tryd.ntmps32
    go_wp2
    go_ret
    exact ⟨by first | rfl | (simp; done) | (simp [*]; done), by repeat (first | exact Drawn0.refl _ | apply Drawn0.step)⟩
  · rw [if_neg c2] at H
    have c2b0 : decide (1 ≤ a0) = false := decide_eq_false c2
    clear c2
    obtain rfl := Option.some.inj H
    go_enter Tryd.func32, Tryd.ntmps32
    go_wp2
    go_ret
    exact ⟨by first | rfl | (simp; done) | (simp [*]; done), by repeat (first | exact Drawn0.refl _ | apply Drawn0.step)⟩

/-! ### dailiesref18_count: function 35 -/
def dailiesref18_count.f (a0 : Int) : Option (Int) := if a0 = 1 then (some 24) else (if a0 = 2 then (some 25) else (if a0 = 5 then (some 50) else (if a0 = 6 then (some 60) else (if a0 = 7 then (some 60) else (some 30)))))
set_option maxHeartbeats 8000000 in
set_option maxRecDepth 100000 in
theorem dailiesref18_count.calls (a0 : Int) (r : Int) (w : World) (h : dailiesref18_count.f a0 = some r) :
    Calls Tryd.prog 35 #[.int .i64 a0] w fun e w' => e = .returned (.int .i64 r) ∧ Drawn0 w w' := by
  have H : (if a0 = 1 then (some 24) else (if a0 = 2 then (some 25) else (if a0 = 5 then (some 50) else (if a0 = 6 then (some 60) else (if a0 = 7 then (some 60) else (some 30)))))) = some r := h
  clear h
  by_cases c2 : a0 = 1
  · rw [if_pos c2] at H
    have c2b0 : (a0 == 1) = true := beq_iff_eq.mpr c2
    have c2b1 : (a0 != 1) = false := bne_eq_false_iff_eq.mpr c2
    clear c2
    obtain rfl := Option.some.inj H
    go_enter Tryd.func35, Tryd.ntmps35
    go_wp2
    go_ret
    exact ⟨by first | rfl | (simp; done) | (simp [*]; done), by repeat (first | exact Drawn0.refl _ | apply Drawn0.step)⟩
  · rw [if_neg c2] at H
    have c2b0 : (a0 == 1) = false := beq_eq_false_iff_ne.mpr c2
    have c2b1 : (a0 != 1) = true := bne_iff_ne.mpr c2
    by_cases c3 : a0 = 2
    · rw [if_pos c3] at H
      have c3b0 : (a0 == 2) = true := beq_iff_eq.mpr c3
      have c3b1 : (a0 != 2) = false := bne_eq_false_iff_eq.mpr c3
      clear c3
      obtain rfl := Option.some.inj H
      go_enter Tryd.func35, Tryd.ntmps35
      go_wp2
      go_ret
      exact ⟨by first | rfl | (simp; done) | (simp [*]; done), by repeat (first | exact Drawn0.refl _ | apply Drawn0.step)⟩
    · rw [if_neg c3] at H
      have c3b0 : (a0 == 2) = false := beq_eq_false_iff_ne.mpr c3
      have c3b1 : (a0 != 2) = true := bne_iff_ne.mpr c3
      by_cases c4 : a0 = 5
      · rw [if_pos c4] at H
        have c4b0 : (a0 == 5) = true := beq_iff_eq.mpr c4
        have c4b1 : (a0 != 5) = false := bne_eq_false_iff_eq.mpr c4
        clear c4
        obtain rfl := Option.some.inj H
        go_enter Tryd.func35, Tryd.ntmps35
        go_wp2
        go_ret
        exact ⟨by first | rfl | (simp; done) | (simp [*]; done), by repeat (first | exact Drawn0.refl _ | apply Drawn0.step)⟩
      · rw [if_neg c4] at H
        have c4b0 : (a0 == 5) = false := beq_eq_false_iff_ne.mpr c4
        have c4b1 : (a0 != 5) = true := bne_iff_ne.mpr c4
        by_cases c5 : a0 = 6
        · rw [if_pos c5] at H
          have c5b0 : (a0 == 6) = true := beq_iff_eq.mpr c5
          have c5b1 : (a0 != 6) = false := bne_eq_false_iff_eq.mpr c5
          clear c5
          obtain rfl := Option.some.inj H
          go_enter Tryd.func35, Tryd.ntmps35
          go_wp2
          go_ret
          exact ⟨by first | rfl | (simp; done) | (simp [*]; done), by repeat (first | exact Drawn0.refl _ | apply Drawn0.step)⟩
        · rw [if_neg c5] at H
          have c5b0 : (a0 == 6) = false := beq_eq_false_iff_ne.mpr c5
          have c5b1 : (a0 != 6) = true := bne_iff_ne.mpr c5
          by_cases c6 : a0 = 7
          · rw [if_pos c6] at H
            have c6b0 : (a0 == 7) = true := beq_iff_eq.mpr c6
            have c6b1 : (a0 != 7) = false := bne_eq_false_iff_eq.mpr c6
            clear c6
            obtain rfl := Option.some.inj H
            go_enter Tryd.func35, Tryd.ntmps35
            go_wp2
            go_ret
            exact ⟨by first | rfl | (simp; done) | (simp [*]; done), by repeat (first | exact Drawn0.refl _ | apply Drawn0.step)⟩
          · rw [if_neg c6] at H
            have c6b0 : (a0 == 7) = false := beq_eq_false_iff_ne.mpr c6
            have c6b1 : (a0 != 7) = true := bne_iff_ne.mpr c6
            obtain rfl := Option.some.inj H
            go_enter Tryd.func35, Tryd.ntmps35
            go_wp2
            go_ret
            exact ⟨by first | rfl | (simp; done) | (simp [*]; done), by repeat (first | exact Drawn0.refl _ | apply Drawn0.step)⟩

/-! ### dailiesref18_left: function 36 -/
def dailiesref18_left.f (a0 : Int) (a1 : Int) : Option (Int) := if (Int.tmod a1 10) = 0 then (some 0) else (if a0 = 4 then (some 2) else (if a0 = 7 then (some 4) else (some 0)))
set_option maxHeartbeats 8000000 in
set_option maxRecDepth 100000 in
theorem dailiesref18_left.calls (a0 : Int) (a1 : Int) (r : Int) (w : World) (h : dailiesref18_left.f a0 a1 = some r) :
    Calls Tryd.prog 36 #[.int .i64 a0, .int .i64 a1] w fun e w' => e = .returned (.int .i64 r) ∧ Drawn0 w w' := by
  have H : (if (Int.tmod a1 10) = 0 then (some 0) else (if a0 = 4 then (some 2) else (if a0 = 7 then (some 4) else (some 0)))) = some r := h
  clear h
  by_cases c3 : (Int.tmod a1 10) = 0
  · rw [if_pos c3] at H
    have c3b0 : ((Int.tmod a1 10) == 0) = true := beq_iff_eq.mpr c3
    have c3b1 : ((Int.tmod a1 10) != 0) = false := bne_eq_false_iff_eq.mpr c3
    clear c3
    obtain rfl := Option.some.inj H
    go_enter Tryd.func36, Tryd.ntmps36
    go_wp2
    go_ret
    exact ⟨by first | rfl | (simp; done) | (simp [*]; done), by repeat (first | exact Drawn0.refl _ | apply Drawn0.step)⟩
  · rw [if_neg c3] at H
    have c3b0 : ((Int.tmod a1 10) == 0) = false := beq_eq_false_iff_ne.mpr c3
    have c3b1 : ((Int.tmod a1 10) != 0) = true := bne_iff_ne.mpr c3
    by_cases c4 : a0 = 4
    · rw [if_pos c4] at H
      have c4b0 : (a0 == 4) = true := beq_iff_eq.mpr c4
      have c4b1 : (a0 != 4) = false := bne_eq_false_iff_eq.mpr c4
      clear c4
      obtain rfl := Option.some.inj H
      go_enter Tryd.func36, Tryd.ntmps36
      go_wp2
      go_ret
      exact ⟨by first | rfl | (simp; done) | (simp [*]; done), by repeat (first | exact Drawn0.refl _ | apply Drawn0.step)⟩
    · rw [if_neg c4] at H
      have c4b0 : (a0 == 4) = false := beq_eq_false_iff_ne.mpr c4
      have c4b1 : (a0 != 4) = true := bne_iff_ne.mpr c4
      by_cases c5 : a0 = 7
      · rw [if_pos c5] at H
        have c5b0 : (a0 == 7) = true := beq_iff_eq.mpr c5
        have c5b1 : (a0 != 7) = false := bne_eq_false_iff_eq.mpr c5
        clear c5
        obtain rfl := Option.some.inj H
        go_enter Tryd.func36, Tryd.ntmps36
        go_wp2
        go_ret
        exact ⟨by first | rfl | (simp; done) | (simp [*]; done), by repeat (first | exact Drawn0.refl _ | apply Drawn0.step)⟩
      · rw [if_neg c5] at H
        have c5b0 : (a0 == 7) = false := beq_eq_false_iff_ne.mpr c5
        have c5b1 : (a0 != 7) = true := bne_iff_ne.mpr c5
        obtain rfl := Option.some.inj H
        go_enter Tryd.func36, Tryd.ntmps36
        go_wp2
        go_ret
        exact ⟨by first | rfl | (simp; done) | (simp [*]; done), by repeat (first | exact Drawn0.refl _ | apply Drawn0.step)⟩

/-! ### dailiesref18_behind: function 39 -/
def dailiesref18_behind.f (a0 : Int) : Option (ByteArray) := (dailiesref18_left.f a0 1).bind fun t102 => (if t102 > 0 then (some (⟨#[59]⟩ : ByteArray)) else (some (⟨#[58]⟩ : ByteArray)))
set_option maxHeartbeats 8000000 in
set_option maxRecDepth 100000 in
theorem dailiesref18_behind.calls (a0 : Int) (r : ByteArray) (w : World) (h : dailiesref18_behind.f a0 = some r) :
    Calls Tryd.prog 39 #[.int .i64 a0] w fun e w' => e = .returned (.string r) ∧ Drawn0 w w' := by
  have H : ((dailiesref18_left.f a0 1).bind fun t102 => (if t102 > 0 then (some (⟨#[59]⟩ : ByteArray)) else (some (⟨#[58]⟩ : ByteArray)))) = some r := h
  clear h
  replace H := Option.bind_eq_some_iff.mp H
  obtain ⟨t102, A20, H⟩ := H
  replace H : (if t102 > 0 then (some (⟨#[59]⟩ : ByteArray)) else (some (⟨#[58]⟩ : ByteArray))) = some r := H
  have A2 := Aside0.mk A20
  clear A20
  by_cases c3 : t102 > 0
  · rw [if_pos c3] at H
    have c3b0 : decide (0 < t102) = true := decide_eq_true c3
    clear c3
    obtain rfl := Option.some.inj H
    go_enter Tryd.func39, Tryd.ntmps39
    go_wp2_with (first | ((with_reducible refine gate_callee (f := 36) rfl ?_); refine goesL_ (some 4) rfl rfl Tryd.func36 (by kernel_rfl) rfl #[.int .i64 a0, .int .i64 1] rfl (by (try simp only [List.map_toArray, List.map_cons, List.map_nil]); first | done | rfl | (simp only [List.length_drop, List.length_take]; rfl)) ?_; (with_reducible refine (dailiesref18_left.calls a0 1 t102 _ A2.out).mono ?_); rintro e w' ⟨rfl, ⟨nd, rfl⟩⟩; refine ⟨_, rfl, ?_⟩))
    go_ret
    exact ⟨by first | rfl | (simp; done) | (simp [*]; done), by repeat (first | exact Drawn0.refl _ | apply Drawn0.step)⟩
  · rw [if_neg c3] at H
    have c3b0 : decide (0 < t102) = false := decide_eq_false c3
    clear c3
    obtain rfl := Option.some.inj H
    go_enter Tryd.func39, Tryd.ntmps39
    go_wp2_with (first | ((with_reducible refine gate_callee (f := 36) rfl ?_); refine goesL_ (some 4) rfl rfl Tryd.func36 (by kernel_rfl) rfl #[.int .i64 a0, .int .i64 1] rfl (by (try simp only [List.map_toArray, List.map_cons, List.map_nil]); first | done | rfl | (simp only [List.length_drop, List.length_take]; rfl)) ?_; (with_reducible refine (dailiesref18_left.calls a0 1 t102 _ A2.out).mono ?_); rintro e w' ⟨rfl, ⟨nd, rfl⟩⟩; refine ⟨_, rfl, ?_⟩))
    go_ret
    exact ⟨by first | rfl | (simp; done) | (simp [*]; done), by repeat (first | exact Drawn0.refl _ | apply Drawn0.step)⟩

/-! ### dailiesref18_formed: function 42 -/
def dailiesref18_formed.l0 : Nat → ByteArray → ByteArray → Int → Option (Int)
  | 0, _, _, _ => none
  | k + 1, x1, x5, x6 => if x6 < (x5.size : Int) then (if x6 ≥ (x1.size : Int) then (some x6) else (if 0 ≤ x6 then (if x6 < (x1.size : Int) then (if (bt x1 x6) ≥ 48 then (if (bt x5 x6) = 100 then (if ((bt x1 x6) ≤ 57) then (dailiesref18_formed.l0 k x1 x5 (wrap64 (x6 + 1))) else (some x6)) else (if (bt x1 x6) = (bt x5 x6) then (dailiesref18_formed.l0 k x1 x5 (wrap64 (x6 + 1))) else (some x6))) else (if (bt x5 x6) = 100 then (some x6) else (if (bt x1 x6) = (bt x5 x6) then (dailiesref18_formed.l0 k x1 x5 (wrap64 (x6 + 1))) else (some x6)))) else (none)) else (none))) else (if (x1.size : Int) > (x5.size : Int) then (some (x5.size : Int)) else (some (-1)))
def dailiesref18_formed.f (k : Nat) (a0 : Int) (a1 : ByteArray) : Option (Int) := (dailiesref18_behind.f a0).bind fun t103 => (if 8 + t103.size ≤ 9223372036854775807 then (if ((⟨#[100, 100, 58, 100, 100, 58, 100, 100]⟩ : ByteArray) ++ t103).size + 2 ≤ 9223372036854775807 then (dailiesref18_formed.l0 k a1 (((⟨#[100, 100, 58, 100, 100, 58, 100, 100]⟩ : ByteArray) ++ t103) ++ (⟨#[100, 100]⟩ : ByteArray)) 0) else (none)) else (none))
theorem dailiesref18_formed.mono_l : ∀ k, (∀ y0 y1 y2, LeO (dailiesref18_formed.l0 k y0 y1 y2) (dailiesref18_formed.l0 (k + 1) y0 y1 y2))
  | 0 => fun _ _ _ r h => by simp [dailiesref18_formed.l0] at h
  | k + 1 => by
    have ih0 := dailiesref18_formed.mono_l k
    · intro y0 y1 y2
      unfold dailiesref18_formed.l0
      repeat' first
      | (with_reducible exact ih0 _ _ _)
      | (with_reducible exact LeO.refl _)
      | (with_reducible exact LeO.none _)
      | (with_reducible refine LeO.ite ?_ ?_)
      | (with_reducible refine LeO.bind ?_ (fun _ => ?_))
      | exact ih0 _ _ _
      | exact LeO.none _
      | refine LeO.ite ?_ ?_
      | refine LeO.bind ?_ (fun _ => ?_)
theorem dailiesref18_formed.mono : ∀ a0 a1 k, LeO (dailiesref18_formed.f k a0 a1) (dailiesref18_formed.f (k + 1) a0 a1) := by
  intro a0 a1 k
  have ih0 := dailiesref18_formed.mono_l k
  unfold dailiesref18_formed.f
  repeat' first
      | (with_reducible exact ih0 _ _ _)
      | (with_reducible exact LeO.refl _)
      | (with_reducible exact LeO.none _)
      | (with_reducible refine LeO.ite ?_ ?_)
      | (with_reducible refine LeO.bind ?_ (fun _ => ?_))
      | exact ih0 _ _ _
      | exact LeO.none _
      | refine LeO.ite ?_ ?_
      | refine LeO.bind ?_ (fun _ => ?_)
set_option maxHeartbeats 8000000 in
set_option maxRecDepth 100000 in
theorem dailiesref18_formed.calls (k : Nat) (a0 : Int) (a1 : ByteArray) (r : Int) (w : World) (h : dailiesref18_formed.f k a0 a1 = some r) :
    Calls Tryd.prog 42 #[.int .i64 a0, .string a1] w fun e w' => e = .returned (.int .i64 r) ∧ Drawn0 w w' := by
  have H : ((dailiesref18_behind.f a0).bind fun t103 => (if 8 + t103.size ≤ 9223372036854775807 then (if ((⟨#[100, 100, 58, 100, 100, 58, 100, 100]⟩ : ByteArray) ++ t103).size + 2 ≤ 9223372036854775807 then (dailiesref18_formed.l0 k a1 (((⟨#[100, 100, 58, 100, 100, 58, 100, 100]⟩ : ByteArray) ++ t103) ++ (⟨#[100, 100]⟩ : ByteArray)) 0) else (none)) else (none))) = some r := h
  clear h
  replace H := Option.bind_eq_some_iff.mp H
  obtain ⟨t103, A30, H⟩ := H
  replace H : (if 8 + t103.size ≤ 9223372036854775807 then (if ((⟨#[100, 100, 58, 100, 100, 58, 100, 100]⟩ : ByteArray) ++ t103).size + 2 ≤ 9223372036854775807 then (dailiesref18_formed.l0 k a1 (((⟨#[100, 100, 58, 100, 100, 58, 100, 100]⟩ : ByteArray) ++ t103) ++ (⟨#[100, 100]⟩ : ByteArray)) 0) else (none)) else (none)) = some r := H
  have A3 := Aside0.mk A30
  clear A30
  by_cases c4 : 8 + t103.size ≤ 9223372036854775807
  · rw [if_pos c4] at H
    have c4b0 := eq_true c4
    have c4b1 : decide (8 + t103.size ≤ 9223372036854775807) = true := decide_eq_true c4
    try have c4b2 : (9223372036854775807 < 8 + t103.size) = False := eq_false (Nat.not_lt.2 c4)
    (try (have c4b3 := c4b2; simp only [ByteArray.size_append, show (⟨#[58]⟩ : ByteArray).size = 1 from rfl, show (⟨#[100, 100, 58, 100, 100, 58, 100, 100]⟩ : ByteArray).size = 8 from rfl] at c4b3))
    by_cases c5 : ((⟨#[100, 100, 58, 100, 100, 58, 100, 100]⟩ : ByteArray) ++ t103).size + 2 ≤ 9223372036854775807
    · rw [if_pos c5] at H
      have c5b0 := eq_true c5
      have c5b1 : decide (((⟨#[100, 100, 58, 100, 100, 58, 100, 100]⟩ : ByteArray) ++ t103).size + 2 ≤ 9223372036854775807) = true := decide_eq_true c5
      try have c5b2 : (9223372036854775807 < ((⟨#[100, 100, 58, 100, 100, 58, 100, 100]⟩ : ByteArray) ++ t103).size + 2) = False := eq_false (Nat.not_lt.2 c5)
      (try (have c5b3 := c5b2; simp only [ByteArray.size_append, show (⟨#[58]⟩ : ByteArray).size = 1 from rfl, show (⟨#[100, 100, 58, 100, 100, 58, 100, 100]⟩ : ByteArray).size = 8 from rfl] at c5b3))
      have H' := Aside0.mk H
      clear H
      go_enter Tryd.func42, Tryd.ntmps42
      go_wp2_with (first | (go_at_call 39; (with_reducible refine (dailiesref18_behind.calls a0 t103 _ A3.out).mono ?_); rintro e w' ⟨rfl, ⟨nd, rfl⟩⟩; (try first | exact ⟨rfl, _, World.drewN_drewN _ _ _⟩ | exact ⟨rfl, _, Eq.trans (World.drewN_drewN _ _ _) (congrArg (World.drewN _) (Nat.add_assoc _ _ _))⟩)))
      repeat (go_quiet (first | (go_at_call 39; (with_reducible refine (dailiesref18_behind.calls a0 t103 _ A3.out).mono ?_); rintro e w' ⟨rfl, ⟨nd, rfl⟩⟩; (try first | exact ⟨rfl, _, World.drewN_drewN _ _ _⟩ | exact ⟨rfl, _, Eq.trans (World.drewN_drewN _ _ _) (congrArg (World.drewN _) (Nat.add_assoc _ _ _))⟩))); try go_wp2_with (first | (go_at_call 39; (with_reducible refine (dailiesref18_behind.calls a0 t103 _ A3.out).mono ?_); rintro e w' ⟨rfl, ⟨nd, rfl⟩⟩; (try first | exact ⟨rfl, _, World.drewN_drewN _ _ _⟩ | exact ⟨rfl, _, Eq.trans (World.drewN_drewN _ _ _) (congrArg (World.drewN _) (Nat.add_assoc _ _ _))⟩))))
      generalize hPat : (((⟨#[100, 100, 58, 100, 100, 58, 100, 100]⟩ : ByteArray) ++ t103) ++ (⟨#[100, 100]⟩ : ByteArray)) = pat at H' ⊢
      go_loopg [6] k (fun kq v6 w' => ∃ (x6_1 : Int), v6 = .int .i64 x6_1 ∧ Aside0 (dailiesref18_formed.l0 kq a1 pat x6_1 = some r) ∧ Aside0 (kq ≤ k) ∧ Drawn0 w w')
      case atStart => exact ⟨(0), (by first | rfl | (simp; done) | (simp [*]; done)), H', ⟨Nat.le_refl _⟩, by repeat (first | exact Drawn0.refl _ | apply Drawn0.step)⟩
      case round =>
        clear H'
        try clear p2
        try clear c4
        try clear c4b0
        try clear c4b1
        try clear c4b2
        try clear c5
        try clear c5b0
        try clear c5b1
        try clear c5b2
        obtain ⟨x6_1, rfl, HA, HK1, ⟨m1, rfl⟩⟩ := hrel
        cases gk with
        | zero => exact absurd HA.out (by simp [dailiesref18_formed.l0])
        | succ k1 =>
          have H := HA.out
          clear HA
          simp only [dailiesref18_formed.l0] at H
          by_cases c6 : x6_1 < (pat.size : Int)
          · rw [if_pos c6] at H
            have c6b0 : decide (x6_1 < (pat.size : Int)) = true := decide_eq_true c6
            clear c6
            by_cases c7 : x6_1 ≥ (a1.size : Int)
            · rw [if_pos c7] at H
              have c7b0 : decide ((a1.size : Int) ≤ x6_1) = true := decide_eq_true c7
              clear c7
              obtain rfl := Option.some.inj H
              go_wp2
              repeat (go_quiet (fail); try go_wp2)
              go_ret
              exact ⟨by first | rfl | (simp; done) | (simp [*]; done), by repeat (first | exact Drawn0.refl _ | apply Drawn0.step)⟩
            · rw [if_neg c7] at H
              have c7b0 : decide ((a1.size : Int) ≤ x6_1) = false := decide_eq_false c7
              clear c7
              by_cases c8 : 0 ≤ x6_1
              · rw [if_pos c8] at H
                have c8b0 : decide (0 ≤ x6_1) = true := decide_eq_true c8
                clear c8
                by_cases c9 : x6_1 < (a1.size : Int)
                · rw [if_pos c9] at H
                  have c9b0 : decide (x6_1 < (a1.size : Int)) = true := decide_eq_true c9
                  clear c9
                  by_cases c11 : (bt a1 x6_1) ≥ 48
                  · rw [if_pos c11] at H
                    have c11b0 : decide (48 ≤ (bt a1 x6_1)) = true := decide_eq_true c11
                    clear c11
                    by_cases c14 : (bt pat x6_1) = 100
                    · rw [if_pos c14] at H
                      have c14b0 : ((bt pat x6_1) == 100) = true := beq_iff_eq.mpr c14
                      have c14b1 : ((bt pat x6_1) != 100) = false := bne_eq_false_iff_eq.mpr c14
                      clear c14
                      by_cases c15 : ((bt a1 x6_1) ≤ 57)
                      · rw [if_pos c15] at H
                        have c15b0 : decide ((bt a1 x6_1) ≤ 57) = true := decide_eq_true c15
                        clear c15
                        have H' := Aside0.mk H
                        clear H
                        have p10 : 0 ≤ (x6_1 : Int) := of_decide_eq_true (by first | (with_reducible assumption) | assumption)
                        have q10 : x6_1 < (a1.size : Int) := of_decide_eq_true (by first | (with_reducible assumption) | assumption)
                        have hx10 := bt_at a1 x6_1
                        replace p10 := eq_true p10
                        replace q10 := eq_true q10
                        have p12 : 0 ≤ (x6_1 : Int) := of_decide_eq_true (by first | (with_reducible assumption) | assumption)
                        have q12 : x6_1 < (a1.size : Int) := of_decide_eq_true (by first | (with_reducible assumption) | assumption)
                        have hx12 := bt_at a1 x6_1
                        replace p12 := eq_true p12
                        replace q12 := eq_true q12
                        have p13 : 0 ≤ (x6_1 : Int) := of_decide_eq_true (by first | (with_reducible assumption) | assumption)
                        have q13 : x6_1 < (pat.size : Int) := of_decide_eq_true (by first | (with_reducible assumption) | assumption)
                        have hx13 := bt_at pat x6_1
                        replace p13 := eq_true p13
                        replace q13 := eq_true q13
                        have p16 : 0 ≤ (x6_1 : Int) := of_decide_eq_true (by first | (with_reducible assumption) | assumption)
                        have q16 : x6_1 < (pat.size : Int) := of_decide_eq_true (by first | (with_reducible assumption) | assumption)
                        have hx16 := bt_at pat x6_1
                        replace p16 := eq_true p16
                        replace q16 := eq_true q16
                        go_wp2
                        repeat (go_quiet (fail); try go_wp2)
                        go_roundg k1
                        case measure => have := HK1.out; omega
                        case rel => exact ⟨(wrap64 (x6_1 + 1)), (by first | rfl | (simp; done) | (simp [*]; done)), H', ⟨by have := HK1.out; omega⟩, by repeat (first | exact Drawn0.refl _ | apply Drawn0.step)⟩
                      · rw [if_neg c15] at H
                        have c15b0 : decide ((bt a1 x6_1) ≤ 57) = false := decide_eq_false c15
                        clear c15
                        obtain rfl := Option.some.inj H
                        have p10 : 0 ≤ (x6_1 : Int) := of_decide_eq_true (by first | (with_reducible assumption) | assumption)
                        have q10 : x6_1 < (a1.size : Int) := of_decide_eq_true (by first | (with_reducible assumption) | assumption)
                        have hx10 := bt_at a1 x6_1
                        replace p10 := eq_true p10
                        replace q10 := eq_true q10
                        have p12 : 0 ≤ (x6_1 : Int) := of_decide_eq_true (by first | (with_reducible assumption) | assumption)
                        have q12 : x6_1 < (a1.size : Int) := of_decide_eq_true (by first | (with_reducible assumption) | assumption)
                        have hx12 := bt_at a1 x6_1
                        replace p12 := eq_true p12
                        replace q12 := eq_true q12
                        have p13 : 0 ≤ (x6_1 : Int) := of_decide_eq_true (by first | (with_reducible assumption) | assumption)
                        have q13 : x6_1 < (pat.size : Int) := of_decide_eq_true (by first | (with_reducible assumption) | assumption)
                        have hx13 := bt_at pat x6_1
                        replace p13 := eq_true p13
                        replace q13 := eq_true q13
                        go_wp2
                        repeat (go_quiet (fail); try go_wp2)
                        go_ret
                        exact ⟨by first | rfl | (simp; done) | (simp [*]; done), by repeat (first | exact Drawn0.refl _ | apply Drawn0.step)⟩
                    · rw [if_neg c14] at H
                      have c14b0 : ((bt pat x6_1) == 100) = false := beq_eq_false_iff_ne.mpr c14
                      have c14b1 : ((bt pat x6_1) != 100) = true := bne_iff_ne.mpr c14
                      by_cases c20 : (bt a1 x6_1) = (bt pat x6_1)
                      · rw [if_pos c20] at H
                        have c20b0 : ((bt a1 x6_1) == (bt pat x6_1)) = true := beq_iff_eq.mpr c20
                        have c20b1 : ((bt a1 x6_1) != (bt pat x6_1)) = false := bne_eq_false_iff_eq.mpr c20
                        clear c20
                        have H' := Aside0.mk H
                        clear H
                        have p10 : 0 ≤ (x6_1 : Int) := of_decide_eq_true (by first | (with_reducible assumption) | assumption)
                        have q10 : x6_1 < (a1.size : Int) := of_decide_eq_true (by first | (with_reducible assumption) | assumption)
                        have hx10 := bt_at a1 x6_1
                        replace p10 := eq_true p10
                        replace q10 := eq_true q10
                        have p12 : 0 ≤ (x6_1 : Int) := of_decide_eq_true (by first | (with_reducible assumption) | assumption)
                        have q12 : x6_1 < (a1.size : Int) := of_decide_eq_true (by first | (with_reducible assumption) | assumption)
                        have hx12 := bt_at a1 x6_1
                        replace p12 := eq_true p12
                        replace q12 := eq_true q12
                        have p13 : 0 ≤ (x6_1 : Int) := of_decide_eq_true (by first | (with_reducible assumption) | assumption)
                        have q13 : x6_1 < (pat.size : Int) := of_decide_eq_true (by first | (with_reducible assumption) | assumption)
                        have hx13 := bt_at pat x6_1
                        replace p13 := eq_true p13
                        replace q13 := eq_true q13
                        have p17 : 0 ≤ (x6_1 : Int) := of_decide_eq_true (by first | (with_reducible assumption) | assumption)
                        have q17 : x6_1 < (pat.size : Int) := of_decide_eq_true (by first | (with_reducible assumption) | assumption)
                        have hx17 := bt_at pat x6_1
                        replace p17 := eq_true p17
                        replace q17 := eq_true q17
                        have p18 : 0 ≤ (x6_1 : Int) := of_decide_eq_true (by first | (with_reducible assumption) | assumption)
                        have q18 : x6_1 < (a1.size : Int) := of_decide_eq_true (by first | (with_reducible assumption) | assumption)
                        have hx18 := bt_at a1 x6_1
                        replace p18 := eq_true p18
                        replace q18 := eq_true q18
                        have p19 : 0 ≤ (x6_1 : Int) := of_decide_eq_true (by first | (with_reducible assumption) | assumption)
                        have q19 : x6_1 < (pat.size : Int) := of_decide_eq_true (by first | (with_reducible assumption) | assumption)
                        have hx19 := bt_at pat x6_1
                        replace p19 := eq_true p19
                        replace q19 := eq_true q19
                        go_wp2
                        repeat (go_quiet (fail); try go_wp2)
                        go_roundg k1
                        case measure => have := HK1.out; omega
                        case rel => exact ⟨(wrap64 (x6_1 + 1)), (by first | rfl | (simp; done) | (simp [*]; done)), H', ⟨by have := HK1.out; omega⟩, by repeat (first | exact Drawn0.refl _ | apply Drawn0.step)⟩
                      · rw [if_neg c20] at H
                        have c20b0 : ((bt a1 x6_1) == (bt pat x6_1)) = false := beq_eq_false_iff_ne.mpr c20
                        have c20b1 : ((bt a1 x6_1) != (bt pat x6_1)) = true := bne_iff_ne.mpr c20
                        obtain rfl := Option.some.inj H
                        have p10 : 0 ≤ (x6_1 : Int) := of_decide_eq_true (by first | (with_reducible assumption) | assumption)
                        have q10 : x6_1 < (a1.size : Int) := of_decide_eq_true (by first | (with_reducible assumption) | assumption)
                        have hx10 := bt_at a1 x6_1
                        replace p10 := eq_true p10
                        replace q10 := eq_true q10
                        have p12 : 0 ≤ (x6_1 : Int) := of_decide_eq_true (by first | (with_reducible assumption) | assumption)
                        have q12 : x6_1 < (a1.size : Int) := of_decide_eq_true (by first | (with_reducible assumption) | assumption)
                        have hx12 := bt_at a1 x6_1
                        replace p12 := eq_true p12
                        replace q12 := eq_true q12
                        have p13 : 0 ≤ (x6_1 : Int) := of_decide_eq_true (by first | (with_reducible assumption) | assumption)
                        have q13 : x6_1 < (pat.size : Int) := of_decide_eq_true (by first | (with_reducible assumption) | assumption)
                        have hx13 := bt_at pat x6_1
                        replace p13 := eq_true p13
                        replace q13 := eq_true q13
                        have p17 : 0 ≤ (x6_1 : Int) := of_decide_eq_true (by first | (with_reducible assumption) | assumption)
                        have q17 : x6_1 < (pat.size : Int) := of_decide_eq_true (by first | (with_reducible assumption) | assumption)
                        have hx17 := bt_at pat x6_1
                        replace p17 := eq_true p17
                        replace q17 := eq_true q17
                        have p18 : 0 ≤ (x6_1 : Int) := of_decide_eq_true (by first | (with_reducible assumption) | assumption)
                        have q18 : x6_1 < (a1.size : Int) := of_decide_eq_true (by first | (with_reducible assumption) | assumption)
                        have hx18 := bt_at a1 x6_1
                        replace p18 := eq_true p18
                        replace q18 := eq_true q18
                        have p19 : 0 ≤ (x6_1 : Int) := of_decide_eq_true (by first | (with_reducible assumption) | assumption)
                        have q19 : x6_1 < (pat.size : Int) := of_decide_eq_true (by first | (with_reducible assumption) | assumption)
                        have hx19 := bt_at pat x6_1
                        replace p19 := eq_true p19
                        replace q19 := eq_true q19
                        go_wp2
                        repeat (go_quiet (fail); try go_wp2)
                        go_ret
                        exact ⟨by first | rfl | (simp; done) | (simp [*]; done), by repeat (first | exact Drawn0.refl _ | apply Drawn0.step)⟩
                  · rw [if_neg c11] at H
                    have c11b0 : decide (48 ≤ (bt a1 x6_1)) = false := decide_eq_false c11
                    clear c11
                    by_cases c22 : (bt pat x6_1) = 100
                    · rw [if_pos c22] at H
                      have c22b0 : ((bt pat x6_1) == 100) = true := beq_iff_eq.mpr c22
                      have c22b1 : ((bt pat x6_1) != 100) = false := bne_eq_false_iff_eq.mpr c22
                      clear c22
                      obtain rfl := Option.some.inj H
                      have p10 : 0 ≤ (x6_1 : Int) := of_decide_eq_true (by first | (with_reducible assumption) | assumption)
                      have q10 : x6_1 < (a1.size : Int) := of_decide_eq_true (by first | (with_reducible assumption) | assumption)
                      have hx10 := bt_at a1 x6_1
                      replace p10 := eq_true p10
                      replace q10 := eq_true q10
                      have p21 : 0 ≤ (x6_1 : Int) := of_decide_eq_true (by first | (with_reducible assumption) | assumption)
                      have q21 : x6_1 < (pat.size : Int) := of_decide_eq_true (by first | (with_reducible assumption) | assumption)
                      have hx21 := bt_at pat x6_1
                      replace p21 := eq_true p21
                      replace q21 := eq_true q21
                      go_wp2
                      repeat (go_quiet (fail); try go_wp2)
                      go_ret
                      exact ⟨by first | rfl | (simp; done) | (simp [*]; done), by repeat (first | exact Drawn0.refl _ | apply Drawn0.step)⟩
                    · rw [if_neg c22] at H
                      have c22b0 : ((bt pat x6_1) == 100) = false := beq_eq_false_iff_ne.mpr c22
                      have c22b1 : ((bt pat x6_1) != 100) = true := bne_iff_ne.mpr c22
                      by_cases c26 : (bt a1 x6_1) = (bt pat x6_1)
                      · rw [if_pos c26] at H
                        have c26b0 : ((bt a1 x6_1) == (bt pat x6_1)) = true := beq_iff_eq.mpr c26
                        have c26b1 : ((bt a1 x6_1) != (bt pat x6_1)) = false := bne_eq_false_iff_eq.mpr c26
                        clear c26
                        have H' := Aside0.mk H
                        clear H
                        have p10 : 0 ≤ (x6_1 : Int) := of_decide_eq_true (by first | (with_reducible assumption) | assumption)
                        have q10 : x6_1 < (a1.size : Int) := of_decide_eq_true (by first | (with_reducible assumption) | assumption)
                        have hx10 := bt_at a1 x6_1
                        replace p10 := eq_true p10
                        replace q10 := eq_true q10
                        have p21 : 0 ≤ (x6_1 : Int) := of_decide_eq_true (by first | (with_reducible assumption) | assumption)
                        have q21 : x6_1 < (pat.size : Int) := of_decide_eq_true (by first | (with_reducible assumption) | assumption)
                        have hx21 := bt_at pat x6_1
                        replace p21 := eq_true p21
                        replace q21 := eq_true q21
                        have p23 : 0 ≤ (x6_1 : Int) := of_decide_eq_true (by first | (with_reducible assumption) | assumption)
                        have q23 : x6_1 < (pat.size : Int) := of_decide_eq_true (by first | (with_reducible assumption) | assumption)
                        have hx23 := bt_at pat x6_1
                        replace p23 := eq_true p23
                        replace q23 := eq_true q23
                        have p24 : 0 ≤ (x6_1 : Int) := of_decide_eq_true (by first | (with_reducible assumption) | assumption)
                        have q24 : x6_1 < (a1.size : Int) := of_decide_eq_true (by first | (with_reducible assumption) | assumption)
                        have hx24 := bt_at a1 x6_1
                        replace p24 := eq_true p24
                        replace q24 := eq_true q24
                        have p25 : 0 ≤ (x6_1 : Int) := of_decide_eq_true (by first | (with_reducible assumption) | assumption)
                        have q25 : x6_1 < (pat.size : Int) := of_decide_eq_true (by first | (with_reducible assumption) | assumption)
                        have hx25 := bt_at pat x6_1
                        replace p25 := eq_true p25
                        replace q25 := eq_true q25
                        go_wp2
                        repeat (go_quiet (fail); try go_wp2)
                        go_roundg k1
                        case measure => have := HK1.out; omega
                        case rel => exact ⟨(wrap64 (x6_1 + 1)), (by first | rfl | (simp; done) | (simp [*]; done)), H', ⟨by have := HK1.out; omega⟩, by repeat (first | exact Drawn0.refl _ | apply Drawn0.step)⟩
                      · rw [if_neg c26] at H
                        have c26b0 : ((bt a1 x6_1) == (bt pat x6_1)) = false := beq_eq_false_iff_ne.mpr c26
                        have c26b1 : ((bt a1 x6_1) != (bt pat x6_1)) = true := bne_iff_ne.mpr c26
                        obtain rfl := Option.some.inj H
                        have p10 : 0 ≤ (x6_1 : Int) := of_decide_eq_true (by first | (with_reducible assumption) | assumption)
                        have q10 : x6_1 < (a1.size : Int) := of_decide_eq_true (by first | (with_reducible assumption) | assumption)
                        have hx10 := bt_at a1 x6_1
                        replace p10 := eq_true p10
                        replace q10 := eq_true q10
                        have p21 : 0 ≤ (x6_1 : Int) := of_decide_eq_true (by first | (with_reducible assumption) | assumption)
                        have q21 : x6_1 < (pat.size : Int) := of_decide_eq_true (by first | (with_reducible assumption) | assumption)
                        have hx21 := bt_at pat x6_1
                        replace p21 := eq_true p21
                        replace q21 := eq_true q21
                        have p23 : 0 ≤ (x6_1 : Int) := of_decide_eq_true (by first | (with_reducible assumption) | assumption)
                        have q23 : x6_1 < (pat.size : Int) := of_decide_eq_true (by first | (with_reducible assumption) | assumption)
                        have hx23 := bt_at pat x6_1
                        replace p23 := eq_true p23
                        replace q23 := eq_true q23
                        have p24 : 0 ≤ (x6_1 : Int) := of_decide_eq_true (by first | (with_reducible assumption) | assumption)
                        have q24 : x6_1 < (a1.size : Int) := of_decide_eq_true (by first | (with_reducible assumption) | assumption)
                        have hx24 := bt_at a1 x6_1
                        replace p24 := eq_true p24
                        replace q24 := eq_true q24
                        have p25 : 0 ≤ (x6_1 : Int) := of_decide_eq_true (by first | (with_reducible assumption) | assumption)
                        have q25 : x6_1 < (pat.size : Int) := of_decide_eq_true (by first | (with_reducible assumption) | assumption)
                        have hx25 := bt_at pat x6_1
                        replace p25 := eq_true p25
                        replace q25 := eq_true q25
                        go_wp2
                        repeat (go_quiet (fail); try go_wp2)
                        go_ret
                        exact ⟨by first | rfl | (simp; done) | (simp [*]; done), by repeat (first | exact Drawn0.refl _ | apply Drawn0.step)⟩
                · rw [if_neg c9] at H
                  exact absurd H (by simp)
              · rw [if_neg c8] at H
                exact absurd H (by simp)
          · rw [if_neg c6] at H
            have c6b0 : decide (x6_1 < (pat.size : Int)) = false := decide_eq_false c6
            clear c6
            by_cases c27 : (a1.size : Int) > (pat.size : Int)
            · rw [if_pos c27] at H
              have c27b0 : decide ((pat.size : Int) < (a1.size : Int)) = true := decide_eq_true c27
              have c27b1 : decide (pat.size < a1.size) = true := decide_eq_true (Int.ofNat_lt.mp c27)
              clear c27
              obtain rfl := Option.some.inj H
              go_wp2
              repeat (go_quiet (fail); try go_wp2)
              go_ret
              exact ⟨by first | rfl | (simp; done) | (simp [*]; done), by repeat (first | exact Drawn0.refl _ | apply Drawn0.step)⟩
            · rw [if_neg c27] at H
              have c27b0 : decide ((pat.size : Int) < (a1.size : Int)) = false := decide_eq_false c27
              have c27b1 : decide (pat.size < a1.size) = false := decide_eq_false (fun h => c27 (Int.ofNat_lt.mpr h))
              clear c27
              obtain rfl := Option.some.inj H
              go_wp2
              repeat (go_quiet (fail); try go_wp2)
              go_ret
              exact ⟨by first | rfl | (simp; done) | (simp [*]; done), by repeat (first | exact Drawn0.refl _ | apply Drawn0.step)⟩
    · rw [if_neg c5] at H
      exact absurd H (by simp)
  · rw [if_neg c4] at H
    exact absurd H (by simp)

/-! ### dailiesref18_value: function 43 -/
def dailiesref18_value.f (a0 : ByteArray) (a1 : Int) : Option (Int) := if 0 ≤ a1 then (if a1 < (a0.size : Int) then (if 0 ≤ (wrap64 (a1 + 1)) then (if (wrap64 (a1 + 1)) < (a0.size : Int) then (some ((10 * (((bt a0 a1) - 48) % 256)) + (((bt a0 (wrap64 (a1 + 1))) - 48) % 256))) else (none)) else (none)) else (none)) else (none)
set_option maxHeartbeats 8000000 in
set_option maxRecDepth 100000 in
theorem dailiesref18_value.calls (a0 : ByteArray) (a1 : Int) (r : Int) (w : World) (h : dailiesref18_value.f a0 a1 = some r) :
    Calls Tryd.prog 43 #[.string a0, .int .i64 a1] w fun e w' => e = .returned (.int .i64 r) ∧ Drawn0 w w' := by
  have H : (if 0 ≤ a1 then (if a1 < (a0.size : Int) then (if 0 ≤ (wrap64 (a1 + 1)) then (if (wrap64 (a1 + 1)) < (a0.size : Int) then (some ((10 * (((bt a0 a1) - 48) % 256)) + (((bt a0 (wrap64 (a1 + 1))) - 48) % 256))) else (none)) else (none)) else (none)) else (none)) = some r := h
  clear h
  by_cases c3 : 0 ≤ a1
  · rw [if_pos c3] at H
    have c3b0 : decide (0 ≤ a1) = true := decide_eq_true c3
    clear c3
    by_cases c4 : a1 < (a0.size : Int)
    · rw [if_pos c4] at H
      have c4b0 : decide (a1 < (a0.size : Int)) = true := decide_eq_true c4
      clear c4
      obtain ⟨ji6, hji6⟩ : ∃ j_ : Int, (wrap64 (a1 + 1)) = j_ := ⟨_, rfl⟩
      replace H : (if 0 ≤ (ji6) then (if (ji6) < (a0.size : Int) then (some ((10 * (((bt a0 a1) - 48) % 256)) + (((bt a0 (ji6)) - 48) % 256))) else (none)) else (none)) = some r := by first | (rw [hji6] at H; exact H) | (simp only [hji6] at H ⊢; exact H)
      have hji6w : (IntKind.i64.wrap (a1 + 1)) = ji6 := (i64_w _).trans hji6
      by_cases c7 : 0 ≤ (ji6)
      · rw [if_pos c7] at H
        have c7b0 : decide (0 ≤ (ji6)) = true := decide_eq_true c7
        clear c7
        by_cases c8 : (ji6) < (a0.size : Int)
        · rw [if_pos c8] at H
          have c8b0 : decide ((ji6) < (a0.size : Int)) = true := decide_eq_true c8
          clear c8
          obtain rfl := Option.some.inj H
          have p5 : 0 ≤ (a1 : Int) := of_decide_eq_true (by first | (with_reducible assumption) | assumption)
          have q5 : a1 < (a0.size : Int) := of_decide_eq_true (by first | (with_reducible assumption) | assumption)
          have hx5 := bt_at a0 a1
          replace p5 := eq_true p5
          replace q5 := eq_true q5
          have p9 : 0 ≤ ((ji6) : Int) := of_decide_eq_true (by first | (with_reducible assumption) | assumption)
          have q9 : (ji6) < (a0.size : Int) := of_decide_eq_true (by first | (with_reducible assumption) | assumption)
          have hx9 := bt_at a0 (ji6)
          replace p9 := eq_true p9
          replace q9 := eq_true q9
          go_enter Tryd.func43, Tryd.ntmps43
          go_wp2
          repeat (go_quiet (fail); try go_wp2)
          go_ret
          exact ⟨by first | rfl | (simp; done) | (simp only [← hji6] <;> (first | rfl | simp)) | (simp [*]; done), by repeat (first | exact Drawn0.refl _ | apply Drawn0.step)⟩
        · rw [if_neg c8] at H
          exact absurd H (by simp)
      · rw [if_neg c7] at H
        exact absurd H (by simp)
    · rw [if_neg c4] at H
      exact absurd H (by simp)
  · rw [if_neg c3] at H
    exact absurd H (by simp)

end Go.Proofs.YtjmhjhmlcjkjeaaDoor.QRTimecodeReads
