-- PRINTED BY print.sh 35421559b90ae4d0a3588c463048766b98c2df88dd9212a6774a882060cdf62d: not written by this session
import Derived.Test.YtdleoljbnjjdgaaPFieldPowersx0
import Derived.Test.YtdleoljbnjjdgaaPFieldPowersx1
namespace Go.Proofs.Ytdleoljbnjjdgaa.PFieldPowers
open Go.RowKit Go.Proofs.YtdleoljbnjjdgaaW.PrintWords Go.Proofs.YtdleoljbnjjdgaaW.PrintLast Go.Proofs.YtdleoljbnjjdgaaW.PrintMore
attribute [local go_sem] max2_int min2_int max_two min_two max_three min_three max_four min_four   -- for this text's walks alone
set_option linter.unusedVariables false
set_option linter.unusedSimpArgs false

/-! ### dailieslaw04_FieldPowers: function 6 -/
mutual
def dailieslaw04_FieldPowers.l0 : Nat → Int → Int → Int → Bool → List Int → Int → Int → Option (Bool)
  | 0, _, _, _, _, _, _, _ => none
  | k + 1, x0, x1, x2, x7, x8, x9, x10 => if x10 < 255 then ((field_Pow.f k 2 x10).bind fun bt113 => (if bt113.2 = 0 then (if bt113.1 = x9 then (if bt113.1 = 0 then (some false) else (if 0 ≤ bt113.1 then (if bt113.1 < (x8.length : Int) then (if (rd x8 bt113.1) = 0 then ((field_Mul.f k x9 2).bind fun t117 => (dailieslaw04_FieldPowers.l0 k x0 x1 x2 x7 (x8.set (bt113.1 : Int).toNat 1) t117 (wrap64 (x10 + 1)))) else (some false)) else (none)) else (none))) else (some false)) else (some false))) else ((dailieslaw04_pick.f x1 100000).bind fun t118 => ((dailieslaw04_pick.f x2 100000).bind fun t119 => ((field_Pow.f k x0 (wrap64 (t118 - 50000))).bind fun bt120 => ((field_Pow.f k x0 (wrap64 (t119 - 50000))).bind fun bt122 => ((field_Pow.f k x0 (wrap64 ((wrap64 (t118 - 50000)) + (wrap64 (t119 - 50000))))).bind fun bt124 => (if x7 = true then (dailieslaw04_FieldPowers.j1 k x0 (wrap64 (t118 - 50000)) (wrap64 (t119 - 50000)) bt120.1 bt120.2 bt122.1 bt122.2 bt124.1 bt124.2 (x9 != 1)) else (dailieslaw04_FieldPowers.j1 k x0 (wrap64 (t118 - 50000)) (wrap64 (t119 - 50000)) bt120.1 bt120.2 bt122.1 bt122.2 bt124.1 bt124.2 true)))))))
def dailieslaw04_FieldPowers.j1 : Nat → Int → Int → Int → Int → Int → Int → Int → Int → Int → Bool → Option (Bool)
  | 0, _, _, _, _, _, _, _, _, _, _ => none
  | k + 1, x0, x1, x2, x13, x14, x15, x16, x17, x18, x85 => if x85 = true then (some false) else (if x0 = 0 then (if ((x14 == 0) == (decide (x1 ≥ 0))) = true then (if ((x16 == 0) == (decide (x2 ≥ 0))) = true then (some ((x18 == 0) == (decide ((wrap64 (x1 + x2)) ≥ 0)))) else (some false)) else (some false)) else ((field_Mul.f k x13 x15).bind fun t126 => (if x14 = 0 then (if x16 = 0 then (if x18 = 0 then (some (t126 == x17)) else (some false)) else (some false)) else (some false))))
end
def dailieslaw04_FieldPowers.f (k : Nat) (a0 : Int) (a1 : Int) (a2 : Int) : Option (Bool) := (dailieslaw04_alive.f k).bind fun t109 => (if 256 ≤ 35184372088832 then (dailieslaw04_FieldPowers.l0 k a0 a1 a2 t109 (List.replicate 256 0) 1 0) else (none))
theorem dailieslaw04_FieldPowers.mono_l : ∀ k, (∀ y0 y1 y2 y3 y4 y5 y6, LeO (dailieslaw04_FieldPowers.l0 k y0 y1 y2 y3 y4 y5 y6) (dailieslaw04_FieldPowers.l0 (k + 1) y0 y1 y2 y3 y4 y5 y6)) ∧ (∀ y0 y1 y2 y3 y4 y5 y6 y7 y8 y9, LeO (dailieslaw04_FieldPowers.j1 k y0 y1 y2 y3 y4 y5 y6 y7 y8 y9) (dailieslaw04_FieldPowers.j1 (k + 1) y0 y1 y2 y3 y4 y5 y6 y7 y8 y9))
  | 0 => ⟨fun _ _ _ _ _ _ _ r h => by simp [dailieslaw04_FieldPowers.l0] at h, fun _ _ _ _ _ _ _ _ _ _ r h => by simp [dailieslaw04_FieldPowers.j1] at h⟩
  | k + 1 => by
    obtain ⟨ih0, ih1⟩ := dailieslaw04_FieldPowers.mono_l k
    refine ⟨?_, ?_⟩
    · intro y0 y1 y2 y3 y4 y5 y6
      unfold dailieslaw04_FieldPowers.l0
      repeat' first
      | (with_reducible exact ih0 _ _ _ _ _ _ _)
      | (with_reducible exact ih1 _ _ _ _ _ _ _ _ _ _)
      | (with_reducible exact dailieslaw04_alive.mono _)
      | (with_reducible exact field_Mul.mono _ _ _)
      | (with_reducible exact field_Pow.mono _ _ _)
      | (with_reducible exact LeO.refl _)
      | (with_reducible exact LeO.none _)
      | (with_reducible refine LeO.ite ?_ ?_)
      | (with_reducible refine LeO.bind ?_ (fun _ => ?_))
      | exact ih0 _ _ _ _ _ _ _
      | exact ih1 _ _ _ _ _ _ _ _ _ _
      | exact dailieslaw04_alive.mono _
      | exact field_Mul.mono _ _ _
      | exact field_Pow.mono _ _ _
      | exact LeO.none _
      | refine LeO.ite ?_ ?_
      | refine LeO.bind ?_ (fun _ => ?_)
    · intro y0 y1 y2 y3 y4 y5 y6 y7 y8 y9
      unfold dailieslaw04_FieldPowers.j1
      repeat' first
      | (with_reducible exact ih0 _ _ _ _ _ _ _)
      | (with_reducible exact ih1 _ _ _ _ _ _ _ _ _ _)
      | (with_reducible exact dailieslaw04_alive.mono _)
      | (with_reducible exact field_Mul.mono _ _ _)
      | (with_reducible exact field_Pow.mono _ _ _)
      | (with_reducible exact LeO.refl _)
      | (with_reducible exact LeO.none _)
      | (with_reducible refine LeO.ite ?_ ?_)
      | (with_reducible refine LeO.bind ?_ (fun _ => ?_))
      | exact ih0 _ _ _ _ _ _ _
      | exact ih1 _ _ _ _ _ _ _ _ _ _
      | exact dailieslaw04_alive.mono _
      | exact field_Mul.mono _ _ _
      | exact field_Pow.mono _ _ _
      | exact LeO.none _
      | refine LeO.ite ?_ ?_
      | refine LeO.bind ?_ (fun _ => ?_)
theorem dailieslaw04_FieldPowers.mono : ∀ a0 a1 a2 k, LeO (dailieslaw04_FieldPowers.f k a0 a1 a2) (dailieslaw04_FieldPowers.f (k + 1) a0 a1 a2) := by
  intro a0 a1 a2 k
  obtain ⟨ih0, ih1⟩ := dailieslaw04_FieldPowers.mono_l k
  unfold dailieslaw04_FieldPowers.f
  repeat' first
      | (with_reducible exact ih0 _ _ _ _ _ _ _)
      | (with_reducible exact ih1 _ _ _ _ _ _ _ _ _ _)
      | (with_reducible exact dailieslaw04_alive.mono _)
      | (with_reducible exact field_Mul.mono _ _ _)
      | (with_reducible exact field_Pow.mono _ _ _)
      | (with_reducible exact LeO.refl _)
      | (with_reducible exact LeO.none _)
      | (with_reducible refine LeO.ite ?_ ?_)
      | (with_reducible refine LeO.bind ?_ (fun _ => ?_))
      | exact ih0 _ _ _ _ _ _ _
      | exact ih1 _ _ _ _ _ _ _ _ _ _
      | exact dailieslaw04_alive.mono _
      | exact field_Mul.mono _ _ _
      | exact field_Pow.mono _ _ _
      | exact LeO.none _
      | refine LeO.ite ?_ ?_
      | refine LeO.bind ?_ (fun _ => ?_)
set_option maxHeartbeats 8000000 in
set_option maxRecDepth 100000 in
theorem dailieslaw04_FieldPowers.calls (k : Nat) (a0 : Int) (a1 : Int) (a2 : Int) (r : Bool) (w : World) (h : dailieslaw04_FieldPowers.f k a0 a1 a2 = some r) :
    Calls Try.prog 6 #[.int .u8 a0, .int .i64 a1, .int .i64 a2] w fun e w' => e = .returned (.bool r) ∧ Below w.heap.size w w' := by
  have HB := Aside0.mk (Below.refl w.heap.size w)
  have H : ((dailieslaw04_alive.f k).bind fun t109 => (if 256 ≤ 35184372088832 then (dailieslaw04_FieldPowers.l0 k a0 a1 a2 t109 (List.replicate 256 0) 1 0) else (none))) = some r := h
  clear h
  replace H := Option.bind_eq_some_iff.mp H
  obtain ⟨t109, A40, H⟩ := H
  replace H : (if 256 ≤ 35184372088832 then (dailieslaw04_FieldPowers.l0 k a0 a1 a2 t109 (List.replicate 256 0) 1 0) else (none)) = some r := H
  have A4 := Aside0.mk A40
  clear A40
  by_cases c5 : 256 ≤ 35184372088832
  · rw [if_pos c5] at H
    have c5b0 := eq_true c5
    have c5b1 : decide (256 ≤ 35184372088832) = true := decide_eq_true c5
    clear c5
    obtain ⟨y110, hy110⟩ : ∃ y_ : List Int, y_ = (List.replicate 256 0) := ⟨_, rfl⟩
    replace H : (dailieslaw04_FieldPowers.l0 k a0 a1 a2 t109 y110 1 0) = some r := by first | (rw [hy110]; with_reducible exact H) | (have H2_ := (Option.bind_some _ _).symm.trans H; rw [hy110]; with_reducible exact H2_) | (have H2_ := (Option.bind_some _ _).symm.trans H; with_reducible exact H2_) | with_reducible exact H | (rw [hy110]; exact H) | exact H
    have Ny110 := Aside0.mk hy110
    clear hy110
    have H' := Aside0.mk H
    clear H
    go_enter Try.func6, Try.ntmps6
    go_wp2_with (first | ((with_reducible refine gate_callee (f := 11) rfl ?_); refine goesL_ (some 20) rfl rfl Try.func11 (by kernel_rfl) rfl #[] rfl (by (try simp only [List.map_toArray, List.map_cons, List.map_nil]); first | done | rfl | (simp only [List.length_drop, List.length_take]; rfl)) ?_; (with_reducible refine (dailieslaw04_alive.calls k  t109 _ A4.out).mono ?_); rintro e w' ⟨rfl, ⟨nd, rfl⟩⟩; refine ⟨_, rfl, ?_⟩) | ((with_reducible refine gate_dst (N := 21) rfl ?_); refine Kd.R_make (Kd.int .i64) _ 3 rfl (N := 21) rfl 33 _ _ rfl 256 rfl rfl Try.underlying33 (.int .i64 0) 8 info3 rfl (by decide) (by omega) 0 (ok := fun _ => True) (okp := fun _ => True) rfl (fun _ hk => hk) trivial (by omega) (by omega) (Below.refl _ _) (Nat.le_refl _) ?_; intro v111 w6 ho7 hb hg_ hnew_; clear hg_ hnew_; (first | rw [← Ny110.out] at ho7 | (simp only [Int.reduceToNat] at ho7; rw [← Ny110.out] at ho7)); have n0_ := Aside0.mk (Kd.R_lower ho7 (below_size (by repeat (first | (with_reducible first | exact HB.out | apply below_alloc | apply pw_below_drewN | apply below_drew1) | exact HB.out)))); have n1_ := Aside0.mk (below_step (by repeat (first | (with_reducible first | exact HB.out | apply below_alloc | apply pw_below_drewN | apply below_drew1) | exact HB.out)) hb); clear HB; have HO112 := n0_; have HB := n1_; clear n0_ n1_; clear hb ho7))
    go_loopg [9, 10] k (fun kq v9 v10 w' => ∃ (x8_1 : List Int) (x9_1 : Int) (x10_1 : Int), v9 = .int .u8 x9_1 ∧ v10 = .int .i64 x10_1 ∧ Aside0 (dailieslaw04_FieldPowers.l0 kq a0 a1 a2 t109 x8_1 x9_1 x10_1 = some r) ∧ Aside0 (kq ≤ k) ∧ Aside0 (Kd.R (Kd.int .i64) 3 w' w.heap.size (fun _ => True) v111 x8_1) ∧ Aside0 (Below w.heap.size w w'))
    case atStart => exact ⟨(y110), (1), (0), (by first | rfl | (simp; done) | (simp [*]; done)), (by first | rfl | (simp; done) | (simp [*]; done)), H', ⟨Nat.le_refl _⟩, ⟨by (with_reducible repeat (first | apply Kd.R_alloc | apply Kd.R_drewN | apply Kd.R_drew)); exact HO112.out⟩, ⟨by repeat (first | (with_reducible first | exact HB.out | apply below_alloc | apply pw_below_drewN | apply below_drew1) | exact HB.out)⟩⟩
    case round =>
      clear H'
      try clear c1
      try clear p2
      try clear c5
      try clear c5b0
      try clear c5b1
      try clear c6
      obtain ⟨x8_1, x9_1, x10_1, rfl, rfl, HA, HK1, HO_8, HB⟩ := hrel
      cases gk with
      | zero => exact absurd HA.out (by simp [dailieslaw04_FieldPowers.l0])
      | succ k1 =>
        have H := HA.out
        clear HA
        simp only [dailieslaw04_FieldPowers.l0] at H
        by_cases c8 : x10_1 < 255
        · rw [if_pos c8] at H
          have c8b0 : decide (x10_1 < 255) = true := decide_eq_true c8
          clear c8
          replace H := Option.bind_eq_some_iff.mp H
          obtain ⟨⟨t113, t114⟩, A90, H⟩ := H
          replace H : (if t114 = 0 then (if t113 = x9_1 then (if t113 = 0 then (some false) else (if 0 ≤ t113 then (if t113 < (x8_1.length : Int) then (if (rd x8_1 t113) = 0 then ((field_Mul.f k1 x9_1 2).bind fun t117 => (dailieslaw04_FieldPowers.l0 k1 a0 a1 a2 t109 (x8_1.set (t113 : Int).toNat 1) t117 (wrap64 (x10_1 + 1)))) else (some false)) else (none)) else (none))) else (some false)) else (some false)) = some r := H
          have A9 := Aside0.mk A90
          clear A90
          by_cases c10 : t114 = 0
          · rw [if_pos c10] at H
            have c10b0 : (t114 == 0) = true := beq_iff_eq.mpr c10
            have c10b1 : (t114 != 0) = false := bne_eq_false_iff_eq.mpr c10
            clear c10
            by_cases c11 : t113 = x9_1
            · rw [if_pos c11] at H
              have c11b0 : (t113 == x9_1) = true := beq_iff_eq.mpr c11
              have c11b1 : (t113 != x9_1) = false := bne_eq_false_iff_eq.mpr c11
              clear c11
              by_cases c12 : t113 = 0
              · rw [if_pos c12] at H
                have c12b0 : (t113 == 0) = true := beq_iff_eq.mpr c12
                have c12b1 : (t113 != 0) = false := bne_eq_false_iff_eq.mpr c12
                clear c12
                obtain rfl := Option.some.inj H
                go_wp2_with (first | ((with_reducible refine gate_callee (f := 19) rfl ?_); refine goesL_ (some 28) rfl rfl Try.func19 (by kernel_rfl) rfl #[.int .u8 2, .int .i64 x10_1] rfl (by (try simp only [List.map_toArray, List.map_cons, List.map_nil]); first | done | rfl | (simp only [List.length_drop, List.length_take]; rfl)) ?_; (with_reducible refine (field_Pow.calls k1 2 x10_1 t113 t114 _ A9.out).mono ?_); rintro e w' ⟨rfl, ⟨nd, rfl⟩⟩; refine ⟨_, rfl, ?_⟩))
                go_ret
                exact ⟨by first | rfl | (simp [errW_none, errW_some] <;> rfl) | (simp [*, errW_none, errW_some] <;> rfl), by repeat (first | (with_reducible first | exact HB.out | apply below_alloc | apply pw_below_drewN | apply below_drew1) | exact HB.out)⟩
              · rw [if_neg c12] at H
                have c12b0 : (t113 == 0) = false := beq_eq_false_iff_ne.mpr c12
                have c12b1 : (t113 != 0) = true := bne_iff_ne.mpr c12
                by_cases c13 : 0 ≤ t113
                · rw [if_pos c13] at H
                  have c13b0 : decide (0 ≤ t113) = true := decide_eq_true c13
                  clear c13
                  by_cases c14 : t113 < (x8_1.length : Int)
                  · rw [if_pos c14] at H
                    have c14b0 : decide (t113 < (x8_1.length : Int)) = true := decide_eq_true c14
                    clear c14
                    by_cases c15 : (rd x8_1 t113) = 0
                    · rw [if_pos c15] at H
                      have c15b0 : ((rd x8_1 t113) == 0) = true := beq_iff_eq.mpr c15
                      have c15b1 : ((rd x8_1 t113) != 0) = false := bne_eq_false_iff_eq.mpr c15
                      clear c15
                      obtain ⟨y116, hy116⟩ : ∃ y_ : List Int, y_ = (x8_1.set (t113 : Int).toNat 1) := ⟨_, rfl⟩
                      replace H : ((field_Mul.f k1 x9_1 2).bind fun t117 => (dailieslaw04_FieldPowers.l0 k1 a0 a1 a2 t109 y116 t117 (wrap64 (x10_1 + 1)))) = some r := by first | (rw [hy116]; with_reducible exact H) | (have H2_ := (Option.bind_some _ _).symm.trans H; rw [hy116]; with_reducible exact H2_) | (have H2_ := (Option.bind_some _ _).symm.trans H; with_reducible exact H2_) | with_reducible exact H | (rw [hy116]; exact H) | exact H
                      have Ny116 := Aside0.mk hy116
                      clear hy116
                      replace H := Option.bind_eq_some_iff.mp H
                      obtain ⟨t117, A170, H⟩ := H
                      replace H : (dailieslaw04_FieldPowers.l0 k1 a0 a1 a2 t109 y116 t117 (wrap64 (x10_1 + 1))) = some r := H
                      have A17 := Aside0.mk A170
                      clear A170
                      have H' := Aside0.mk H
                      clear H
                      go_wp2_with (first | ((with_reducible refine gate_callee (f := 19) rfl ?_); refine goesL_ (some 28) rfl rfl Try.func19 (by kernel_rfl) rfl #[.int .u8 2, .int .i64 x10_1] rfl (by (try simp only [List.map_toArray, List.map_cons, List.map_nil]); first | done | rfl | (simp only [List.length_drop, List.length_take]; rfl)) ?_; (with_reducible refine (field_Pow.calls k1 2 x10_1 t113 t114 _ A9.out).mono ?_); rintro e w' ⟨rfl, ⟨nd, rfl⟩⟩; refine ⟨_, rfl, ?_⟩; (try (rw [drewN_self wr]; generalize hq_ : World.drewN wr _ = wr; have n0_ : Aside0 (Kd.R (Kd.int .i64) 3 wr w.heap.size (fun _ => True) v111 x8_1) := ⟨by rw [← hq_]; exact (by (with_reducible repeat (first | apply Kd.R_alloc | apply Kd.R_drewN | apply Kd.R_drew)); exact HO_8.out)⟩; have n1_ : Aside0 (Below w.heap.size w wr) := ⟨by rw [← hq_]; exact (by repeat (first | (with_reducible first | exact HB.out | apply below_alloc | apply pw_below_drewN | apply below_drew1) | exact HB.out))⟩; clear HO_8 HB hq_; have HO_8 := n0_; have HB := n1_; clear n0_ n1_)); obtain ⟨Ao18, co18, eo18⟩ := Kd.R_slice HO_8.out; subst eo18; have p115 : 0 ≤ (t113 : Int) := of_decide_eq_true (by first | (with_reducible assumption) | assumption); have q115 : t113 < (x8_1.length : Int) := of_decide_eq_true (by first | (with_reducible assumption) | assumption); obtain ⟨ad115, e115, hx115_0⟩ := Kd.at_int (Kd.R_reads' HO_8.out).2.2 t113 p115 q115; cases e115; replace p115 := eq_true p115; replace q115 := eq_true q115; have p16 : 0 ≤ (t113 : Int) := of_decide_eq_true (by first | (with_reducible assumption) | assumption); have q16 : (t113 : Int) < ((x8_1.length : Int) : Int) := of_decide_eq_true (by first | (with_reducible assumption) | assumption); obtain ⟨go16, co16, eo16, gb16, gl16, cl16, HG16⟩ := Kd.R_form HO_8.out (by omega); (first | cases eo16 | (injection eo16 with ea_ en_ ec_; (first | subst ea_ | (injection ea_ with ea_; subst ea_)); subst ec_; clear en_)); have GB16 := Aside0.mk gb16; have GG16 := Aside0.mk HG16; clear gb16 gl16 HG16; (first | simp only [add_plain] at hx115_0 | skip); obtain ⟨hx16_0, hf16_0⟩ := Kd.R_celln 0 HO_8.out (t113 : Int) p16 q16; replace p16 := eq_true p16; replace q16 := eq_true q16; obtain ⟨hy19_, hz19_⟩ := Kd.R_celln 0 HO_8.out (t113 : Int) (of_decide_eq_true (by first | (with_reducible assumption) | assumption)) (of_decide_eq_true (by first | (with_reducible assumption) | assumption)); have HP19 := Kd.R_putg HO_8.out (t113 : Int) 1) | ((with_reducible refine gate_store (t := 3) (p := 51) rfl ?_); refine store_event (t := 3) (p := 51) (v := ?vo_w20) (w1 := (wr.setCell ⟨go16, (t113 : Int).toNat, none⟩ (.int .i64 1))) ?hg ?ho ?hn ?hr ?_; (case ho => rfl); (case hg => rfl); (case hn => rfl); (case hr => first | (go_simp; done) | (go_simp; rfl)); intro w20 hw; have hg : wr.grownBy w20 (some go16) := (by rw [hw]; exact HP19.2); have hp_ : Kd.R (Kd.int .i64) 3 w20 w.heap.size (fun _ => True) (.slice (some ⟨go16, 0, none⟩) x8_1.length co18) y116 := (by rw [hw, Ny116.out]; exact HP19.1); clear HP19; have n0_ := Aside0.mk (hp_); have n1_ := Aside0.mk ((by rw [hw]; exact below_set (HB.out) GB16.out : Below w.heap.size w w20)); clear HO_8; clear HB; have HO_8 := n0_; have HB := n1_; clear n0_ n1_; clear hg hw hp_) | ((with_reducible refine gate_callee (f := 12) rfl ?_); refine goesL_ (some 53) rfl rfl Try.func12 (by kernel_rfl) rfl #[.int .u8 x9_1, .int .u8 2] rfl (by (try simp only [List.map_toArray, List.map_cons, List.map_nil]); first | done | rfl | (simp only [List.length_drop, List.length_take]; rfl)) ?_; (with_reducible refine (field_Mul.calls k1 x9_1 2 t117 _ A17.out).mono ?_); rintro e w' ⟨rfl, ⟨nd, rfl⟩⟩; refine ⟨_, rfl, ?_⟩))
                      go_roundg k1
                      case measure => have := HK1.out; omega
                      case rel => exact ⟨(y116), (t117), (wrap64 (x10_1 + 1)), (by first | rfl | (simp; done) | (simp [*]; done)), (by first | rfl | (simp; done) | (simp [*]; done)), H', ⟨by have := HK1.out; omega⟩, ⟨by (with_reducible repeat (first | apply Kd.R_alloc | apply Kd.R_drewN | apply Kd.R_drew)); exact HO_8.out⟩, ⟨by repeat (first | (with_reducible first | exact HB.out | apply below_alloc | apply pw_below_drewN | apply below_drew1) | exact HB.out)⟩⟩
                    · rw [if_neg c15] at H
                      have c15b0 : ((rd x8_1 t113) == 0) = false := beq_eq_false_iff_ne.mpr c15
                      have c15b1 : ((rd x8_1 t113) != 0) = true := bne_iff_ne.mpr c15
                      obtain rfl := Option.some.inj H
                      go_wp2_with (first | ((with_reducible refine gate_callee (f := 19) rfl ?_); refine goesL_ (some 28) rfl rfl Try.func19 (by kernel_rfl) rfl #[.int .u8 2, .int .i64 x10_1] rfl (by (try simp only [List.map_toArray, List.map_cons, List.map_nil]); first | done | rfl | (simp only [List.length_drop, List.length_take]; rfl)) ?_; (with_reducible refine (field_Pow.calls k1 2 x10_1 t113 t114 _ A9.out).mono ?_); rintro e w' ⟨rfl, ⟨nd, rfl⟩⟩; refine ⟨_, rfl, ?_⟩; obtain ⟨Ao21, co21, eo21⟩ := Kd.R_slice HO_8.out; subst eo21; have p115 : 0 ≤ (t113 : Int) := of_decide_eq_true (by first | (with_reducible assumption) | assumption); have q115 : t113 < (x8_1.length : Int) := of_decide_eq_true (by first | (with_reducible assumption) | assumption); obtain ⟨ad115, e115, hx115_0⟩ := Kd.at_int (Kd.R_reads' HO_8.out).2.2 t113 p115 q115; cases e115; replace p115 := eq_true p115; replace q115 := eq_true q115))
                      go_ret
                      exact ⟨by first | rfl | (simp [errW_none, errW_some] <;> rfl) | (simp [*, errW_none, errW_some] <;> rfl), by repeat (first | (with_reducible first | exact HB.out | apply below_alloc | apply pw_below_drewN | apply below_drew1) | exact HB.out)⟩
                  · rw [if_neg c14] at H
                    exact absurd H (by simp)
                · rw [if_neg c13] at H
                  exact absurd H (by simp)
            · rw [if_neg c11] at H
              have c11b0 : (t113 == x9_1) = false := beq_eq_false_iff_ne.mpr c11
              have c11b1 : (t113 != x9_1) = true := bne_iff_ne.mpr c11
              obtain rfl := Option.some.inj H
              go_wp2_with (first | ((with_reducible refine gate_callee (f := 19) rfl ?_); refine goesL_ (some 28) rfl rfl Try.func19 (by kernel_rfl) rfl #[.int .u8 2, .int .i64 x10_1] rfl (by (try simp only [List.map_toArray, List.map_cons, List.map_nil]); first | done | rfl | (simp only [List.length_drop, List.length_take]; rfl)) ?_; (with_reducible refine (field_Pow.calls k1 2 x10_1 t113 t114 _ A9.out).mono ?_); rintro e w' ⟨rfl, ⟨nd, rfl⟩⟩; refine ⟨_, rfl, ?_⟩))
              go_ret
              exact ⟨by first | rfl | (simp [errW_none, errW_some] <;> rfl) | (simp [*, errW_none, errW_some] <;> rfl), by repeat (first | (with_reducible first | exact HB.out | apply below_alloc | apply pw_below_drewN | apply below_drew1) | exact HB.out)⟩
          · rw [if_neg c10] at H
            have c10b0 : (t114 == 0) = false := beq_eq_false_iff_ne.mpr c10
            have c10b1 : (t114 != 0) = true := bne_iff_ne.mpr c10
            obtain rfl := Option.some.inj H
            go_wp2_with (first | ((with_reducible refine gate_callee (f := 19) rfl ?_); refine goesL_ (some 28) rfl rfl Try.func19 (by kernel_rfl) rfl #[.int .u8 2, .int .i64 x10_1] rfl (by (try simp only [List.map_toArray, List.map_cons, List.map_nil]); first | done | rfl | (simp only [List.length_drop, List.length_take]; rfl)) ?_; (with_reducible refine (field_Pow.calls k1 2 x10_1 t113 t114 _ A9.out).mono ?_); rintro e w' ⟨rfl, ⟨nd, rfl⟩⟩; refine ⟨_, rfl, ?_⟩))
            go_ret
            exact ⟨by first | rfl | (simp [errW_none, errW_some] <;> rfl) | (simp [*, errW_none, errW_some] <;> rfl), by repeat (first | (with_reducible first | exact HB.out | apply below_alloc | apply pw_below_drewN | apply below_drew1) | exact HB.out)⟩
        · rw [if_neg c8] at H
          have c8b0 : decide (x10_1 < 255) = false := decide_eq_false c8
          clear c8
          replace H := Option.bind_eq_some_iff.mp H
          obtain ⟨t118, A220, H⟩ := H
          replace H : ((dailieslaw04_pick.f a2 100000).bind fun t119 => ((field_Pow.f k1 a0 (wrap64 (t118 - 50000))).bind fun bt120 => ((field_Pow.f k1 a0 (wrap64 (t119 - 50000))).bind fun bt122 => ((field_Pow.f k1 a0 (wrap64 ((wrap64 (t118 - 50000)) + (wrap64 (t119 - 50000))))).bind fun bt124 => (if t109 = true then (dailieslaw04_FieldPowers.j1 k1 a0 (wrap64 (t118 - 50000)) (wrap64 (t119 - 50000)) bt120.1 bt120.2 bt122.1 bt122.2 bt124.1 bt124.2 (x9_1 != 1)) else (dailieslaw04_FieldPowers.j1 k1 a0 (wrap64 (t118 - 50000)) (wrap64 (t119 - 50000)) bt120.1 bt120.2 bt122.1 bt122.2 bt124.1 bt124.2 true)))))) = some r := H
          have A22 := Aside0.mk A220
          clear A220
          replace H := Option.bind_eq_some_iff.mp H
          obtain ⟨t119, A230, H⟩ := H
          replace H : ((field_Pow.f k1 a0 (wrap64 (t118 - 50000))).bind fun bt120 => ((field_Pow.f k1 a0 (wrap64 (t119 - 50000))).bind fun bt122 => ((field_Pow.f k1 a0 (wrap64 ((wrap64 (t118 - 50000)) + (wrap64 (t119 - 50000))))).bind fun bt124 => (if t109 = true then (dailieslaw04_FieldPowers.j1 k1 a0 (wrap64 (t118 - 50000)) (wrap64 (t119 - 50000)) bt120.1 bt120.2 bt122.1 bt122.2 bt124.1 bt124.2 (x9_1 != 1)) else (dailieslaw04_FieldPowers.j1 k1 a0 (wrap64 (t118 - 50000)) (wrap64 (t119 - 50000)) bt120.1 bt120.2 bt122.1 bt122.2 bt124.1 bt124.2 true))))) = some r := H
          have A23 := Aside0.mk A230
          clear A230
          replace H := Option.bind_eq_some_iff.mp H
          obtain ⟨⟨t120, t121⟩, A240, H⟩ := H
          replace H : ((field_Pow.f k1 a0 (wrap64 (t119 - 50000))).bind fun bt122 => ((field_Pow.f k1 a0 (wrap64 ((wrap64 (t118 - 50000)) + (wrap64 (t119 - 50000))))).bind fun bt124 => (if t109 = true then (dailieslaw04_FieldPowers.j1 k1 a0 (wrap64 (t118 - 50000)) (wrap64 (t119 - 50000)) t120 t121 bt122.1 bt122.2 bt124.1 bt124.2 (x9_1 != 1)) else (dailieslaw04_FieldPowers.j1 k1 a0 (wrap64 (t118 - 50000)) (wrap64 (t119 - 50000)) t120 t121 bt122.1 bt122.2 bt124.1 bt124.2 true)))) = some r := H
          have A24 := Aside0.mk A240
          clear A240
          replace H := Option.bind_eq_some_iff.mp H
          obtain ⟨⟨t122, t123⟩, A250, H⟩ := H
          replace H : ((field_Pow.f k1 a0 (wrap64 ((wrap64 (t118 - 50000)) + (wrap64 (t119 - 50000))))).bind fun bt124 => (if t109 = true then (dailieslaw04_FieldPowers.j1 k1 a0 (wrap64 (t118 - 50000)) (wrap64 (t119 - 50000)) t120 t121 t122 t123 bt124.1 bt124.2 (x9_1 != 1)) else (dailieslaw04_FieldPowers.j1 k1 a0 (wrap64 (t118 - 50000)) (wrap64 (t119 - 50000)) t120 t121 t122 t123 bt124.1 bt124.2 true))) = some r := H
          have A25 := Aside0.mk A250
          clear A250
          replace H := Option.bind_eq_some_iff.mp H
          obtain ⟨⟨t124, t125⟩, A260, H⟩ := H
          replace H : (if t109 = true then (dailieslaw04_FieldPowers.j1 k1 a0 (wrap64 (t118 - 50000)) (wrap64 (t119 - 50000)) t120 t121 t122 t123 t124 t125 (x9_1 != 1)) else (dailieslaw04_FieldPowers.j1 k1 a0 (wrap64 (t118 - 50000)) (wrap64 (t119 - 50000)) t120 t121 t122 t123 t124 t125 true)) = some r := H
          have A26 := Aside0.mk A260
          clear A260
          have HC27 := Aside0.mk H
          clear H
          go_upto_region 17 with (first | ((with_reducible refine gate_callee (f := 20) rfl ?_); refine goesL_ (some 55) rfl rfl Try.func20 (by kernel_rfl) rfl #[.int .i64 a1, .int .i64 100000] rfl (by (try simp only [List.map_toArray, List.map_cons, List.map_nil]); first | done | rfl | (simp only [List.length_drop, List.length_take]; rfl)) ?_; (with_reducible refine (dailieslaw04_pick.calls a1 100000 t118 _ A22.out).mono ?_); rintro e w' ⟨rfl, ⟨nd, rfl⟩⟩; refine ⟨_, rfl, ?_⟩) | ((with_reducible refine gate_callee (f := 20) rfl ?_); refine goesL_ (some 58) rfl rfl Try.func20 (by kernel_rfl) rfl #[.int .i64 a2, .int .i64 100000] rfl (by (try simp only [List.map_toArray, List.map_cons, List.map_nil]); first | done | rfl | (simp only [List.length_drop, List.length_take]; rfl)) ?_; (with_reducible refine (dailieslaw04_pick.calls a2 100000 t119 _ A23.out).mono ?_); rintro e w' ⟨rfl, ⟨nd, rfl⟩⟩; refine ⟨_, rfl, ?_⟩) | ((with_reducible refine gate_callee (f := 19) rfl ?_); refine goesL_ (some 63) rfl rfl Try.func19 (by kernel_rfl) rfl #[.int .u8 a0, .int .i64 (wrap64 (t118 - 50000))] rfl (by (try simp only [List.map_toArray, List.map_cons, List.map_nil]); first | done | rfl | (simp only [List.length_drop, List.length_take]; rfl)) ?_; (with_reducible refine (field_Pow.calls k1 a0 (wrap64 (t118 - 50000)) t120 t121 _ A24.out).mono ?_); rintro e w' ⟨rfl, ⟨nd, rfl⟩⟩; refine ⟨_, rfl, ?_⟩) | ((with_reducible refine gate_callee (f := 19) rfl ?_); refine goesL_ (some 69) rfl rfl Try.func19 (by kernel_rfl) rfl #[.int .u8 a0, .int .i64 (wrap64 (t119 - 50000))] rfl (by (try simp only [List.map_toArray, List.map_cons, List.map_nil]); first | done | rfl | (simp only [List.length_drop, List.length_take]; rfl)) ?_; (with_reducible refine (field_Pow.calls k1 a0 (wrap64 (t119 - 50000)) t122 t123 _ A25.out).mono ?_); rintro e w' ⟨rfl, ⟨nd, rfl⟩⟩; refine ⟨_, rfl, ?_⟩) | ((with_reducible refine gate_callee (f := 19) rfl ?_); refine goesL_ (some 77) rfl rfl Try.func19 (by kernel_rfl) rfl #[.int .u8 a0, .int .i64 (wrap64 ((wrap64 (t118 - 50000)) + (wrap64 (t119 - 50000))))] rfl (by (try simp only [List.map_toArray, List.map_cons, List.map_nil]); first | done | rfl | (simp only [List.length_drop, List.length_take]; rfl)) ?_; (with_reducible refine (field_Pow.calls k1 a0 (wrap64 ((wrap64 (t118 - 50000)) + (wrap64 (t119 - 50000)))) t124 t125 _ A26.out).mono ?_); rintro e w' ⟨rfl, ⟨nd, rfl⟩⟩; refine ⟨_, rfl, ?_⟩))
          (try simp only [Act.put, List.setIfInBounds_toArray, List.set_cons_zero, List.set_cons_succ])
          go_cut [85] (fun v85 wc => ∃ (kq : Nat) (x85_26 : Bool), v85 = .bool x85_26 ∧ Aside0 (dailieslaw04_FieldPowers.j1 kq a0 (wrap64 (t118 - 50000)) (wrap64 (t119 - 50000)) t120 t121 t122 t123 t124 t125 x85_26 = some r) ∧ Aside0 (kq ≤ k1) ∧ Aside0 (Below w.heap.size w wc))
          case first =>
            have H := HC27.out
            clear HC27
            by_cases c28 : t109 = true
            · subst c28
              have H1 : (dailieslaw04_FieldPowers.j1 k1 a0 (wrap64 (t118 - 50000)) (wrap64 (t119 - 50000)) t120 t121 t122 t123 t124 t125 (x9_1 != 1)) = some r := by rw [if_pos rfl] at H; exact H
              clear H
              have H := H1
              clear H1
              have H' := Aside0.mk H
              clear H
              go_wp2
              go_meet
              case rel => exact ⟨_, ((x9_1 != 1)), (by first | rfl | (simp; done) | (simp [*]; done)), H', ⟨by have := HK1.out; first | omega | exact Nat.le_refl _⟩, ⟨by repeat (first | (with_reducible first | exact HB.out | apply below_alloc | apply pw_below_drewN | apply below_drew1) | exact HB.out)⟩⟩
            · replace c28 := Bool.eq_false_iff.mpr c28
              subst c28
              have H1 : (dailieslaw04_FieldPowers.j1 k1 a0 (wrap64 (t118 - 50000)) (wrap64 (t119 - 50000)) t120 t121 t122 t123 t124 t125 true) = some r := by rw [if_neg (show ¬ (false = true) by decide)] at H; exact H
              clear H
              have H := H1
              clear H1
              have H' := Aside0.mk H
              clear H
              go_wp2
              go_meet
              case rel => exact ⟨_, (true), (by first | rfl | (simp; done) | (simp [*]; done)), H', ⟨by have := HK1.out; first | omega | exact Nat.le_refl _⟩, ⟨by repeat (first | (with_reducible first | exact HB.out | apply below_alloc | apply pw_below_drewN | apply below_drew1) | exact HB.out)⟩⟩
          case rest =>
            clear HC27
            try clear c1
            try clear p1
            try clear q1
            try clear hx1
            try clear c2
            try clear p2
            try clear c5
            try clear c5b0
            try clear c5b1
            try clear c6
            try clear p6
            try clear c8
            try clear c8b0
            try clear c10
            try clear c10b0
            try clear c10b1
            try clear c11
            try clear c11b0
            try clear c11b1
            try clear p11
            try clear q11
            try clear hx11
            try clear c12
            try clear c12b0
            try clear c12b1
            try clear c13
            try clear c13b0
            try clear c14
            try clear c14b0
            try clear c15
            try clear c15b0
            try clear c15b1
            try clear p16
            try clear q16
            try clear hx16
            try clear hf16
            try clear c19
            try clear c20
            try clear c28
            try clear hx115_0
            try clear hx16_0
            try clear p115
            try clear p16
            try clear p2
            try clear q115
            try clear q16
            obtain ⟨kq, x85_26, rfl, HA, HJ26, HB⟩ := hcut
            cases kq with
            | zero => exact absurd HA.out (by simp [dailieslaw04_FieldPowers.j1])
            | succ kj26 =>
              have H := HA.out
              clear HA
              simp only [dailieslaw04_FieldPowers.j1] at H
              by_cases c29 : x85_26 = true
              · subst c29
                have H1 : (some false) = some r := by rw [if_pos rfl] at H; exact H
                clear H
                have H := H1
                clear H1
                obtain rfl := Option.some.inj H
                go_wp2
                go_ret
                exact ⟨by first | rfl | (simp [errW_none, errW_some] <;> rfl) | (simp [*, errW_none, errW_some] <;> rfl), by repeat (first | (with_reducible first | exact HB.out | apply below_alloc | apply pw_below_drewN | apply below_drew1) | exact HB.out)⟩
              · replace c29 := Bool.eq_false_iff.mpr c29
                subst c29
                have H1 : (if a0 = 0 then (if ((t121 == 0) == (decide ((wrap64 (t118 - 50000)) ≥ 0))) = true then (if ((t123 == 0) == (decide ((wrap64 (t119 - 50000)) ≥ 0))) = true then (some ((t125 == 0) == (decide ((wrap64 ((wrap64 (t118 - 50000)) + (wrap64 (t119 - 50000)))) ≥ 0)))) else (some false)) else (some false)) else ((field_Mul.f kj26 t120 t122).bind fun t126 => (if t121 = 0 then (if t123 = 0 then (if t125 = 0 then (some (t126 == t124)) else (some false)) else (some false)) else (some false)))) = some r := by rw [if_neg (show ¬ (false = true) by decide)] at H; exact H
                clear H
                have H := H1
                clear H1
                by_cases c30 : a0 = 0
                · rw [if_pos c30] at H
                  have c30b0 : (a0 == 0) = true := beq_iff_eq.mpr c30
                  have c30b1 : (a0 != 0) = false := bne_eq_false_iff_eq.mpr c30
                  clear c30
                  by_cases c31 : ((t121 == 0) == (decide ((wrap64 (t118 - 50000)) ≥ 0))) = true
                  · rw [if_pos c31] at H
                    have c31b0 : ((t121 == 0) == (decide ((wrap64 (t118 - 50000)) ≥ 0))) = true := c31
                    (try (have c31b1 : decide ((t121 == 0) = (decide ((wrap64 (t118 - 50000)) ≥ 0))) = true := by simpa using c31))
                    (try (have c31b2 : ((t121 == 0) == (decide ((wrap64 (t118 - 50000)) ≥ 0))) = true := by simpa using c31))
                    clear c31
                    by_cases c32 : ((t123 == 0) == (decide ((wrap64 (t119 - 50000)) ≥ 0))) = true
                    · rw [if_pos c32] at H
                      have c32b0 : ((t123 == 0) == (decide ((wrap64 (t119 - 50000)) ≥ 0))) = true := c32
                      (try (have c32b1 : decide ((t123 == 0) = (decide ((wrap64 (t119 - 50000)) ≥ 0))) = true := by simpa using c32))
                      (try (have c32b2 : ((t123 == 0) == (decide ((wrap64 (t119 - 50000)) ≥ 0))) = true := by simpa using c32))
                      clear c32
                      obtain rfl := Option.some.inj H
                      go_wp2
                      go_ret
                      exact ⟨by first | rfl | (simp [errW_none, errW_some] <;> rfl) | (simp [*, errW_none, errW_some] <;> rfl), by repeat (first | (with_reducible first | exact HB.out | apply below_alloc | apply pw_below_drewN | apply below_drew1) | exact HB.out)⟩
                    · rw [if_neg c32] at H
                      have c32b0 : ((t123 == 0) == (decide ((wrap64 (t119 - 50000)) ≥ 0))) = false := by simpa using c32
                      (try (have c32b1 : decide ((t123 == 0) = (decide ((wrap64 (t119 - 50000)) ≥ 0))) = false := by simpa using c32))
                      (try (have c32b2 : ((t123 == 0) == (decide ((wrap64 (t119 - 50000)) ≥ 0))) = false := by simpa using c32))
                      (try (have c32b3 : ¬ ((t123 == 0) = (decide ((wrap64 (t119 - 50000)) ≥ 0))) := by simpa using c32))
                      clear c32
                      obtain rfl := Option.some.inj H
                      go_wp2
                      go_ret
                      exact ⟨by first | rfl | (simp [errW_none, errW_some] <;> rfl) | (simp [*, errW_none, errW_some] <;> rfl), by repeat (first | (with_reducible first | exact HB.out | apply below_alloc | apply pw_below_drewN | apply below_drew1) | exact HB.out)⟩
                  · rw [if_neg c31] at H
                    have c31b0 : ((t121 == 0) == (decide ((wrap64 (t118 - 50000)) ≥ 0))) = false := by simpa using c31
                    (try (have c31b1 : decide ((t121 == 0) = (decide ((wrap64 (t118 - 50000)) ≥ 0))) = false := by simpa using c31))
                    (try (have c31b2 : ((t121 == 0) == (decide ((wrap64 (t118 - 50000)) ≥ 0))) = false := by simpa using c31))
                    (try (have c31b3 : ¬ ((t121 == 0) = (decide ((wrap64 (t118 - 50000)) ≥ 0))) := by simpa using c31))
                    clear c31
                    obtain rfl := Option.some.inj H
                    go_wp2
                    go_ret
                    exact ⟨by first | rfl | (simp [errW_none, errW_some] <;> rfl) | (simp [*, errW_none, errW_some] <;> rfl), by repeat (first | (with_reducible first | exact HB.out | apply below_alloc | apply pw_below_drewN | apply below_drew1) | exact HB.out)⟩
                · rw [if_neg c30] at H
                  have c30b0 : (a0 == 0) = false := beq_eq_false_iff_ne.mpr c30
                  have c30b1 : (a0 != 0) = true := bne_iff_ne.mpr c30
                  replace H := Option.bind_eq_some_iff.mp H
                  obtain ⟨t126, A330, H⟩ := H
                  replace H : (if t121 = 0 then (if t123 = 0 then (if t125 = 0 then (some (t126 == t124)) else (some false)) else (some false)) else (some false)) = some r := H
                  have A33 := Aside0.mk A330
                  clear A330
                  by_cases c34 : t121 = 0
                  · rw [if_pos c34] at H
                    have c34b0 : (t121 == 0) = true := beq_iff_eq.mpr c34
                    have c34b1 : (t121 != 0) = false := bne_eq_false_iff_eq.mpr c34
                    clear c34
                    by_cases c35 : t123 = 0
                    · rw [if_pos c35] at H
                      have c35b0 : (t123 == 0) = true := beq_iff_eq.mpr c35
                      have c35b1 : (t123 != 0) = false := bne_eq_false_iff_eq.mpr c35
                      clear c35
                      by_cases c36 : t125 = 0
                      · rw [if_pos c36] at H
                        have c36b0 : (t125 == 0) = true := beq_iff_eq.mpr c36
                        have c36b1 : (t125 != 0) = false := bne_eq_false_iff_eq.mpr c36
                        clear c36
                        obtain rfl := Option.some.inj H
                        go_wp2_with (first | ((with_reducible refine gate_callee (f := 12) rfl ?_); refine goesL_ (some 111) rfl rfl Try.func12 (by kernel_rfl) rfl #[.int .u8 t120, .int .u8 t122] rfl (by (try simp only [List.map_toArray, List.map_cons, List.map_nil]); first | done | rfl | (simp only [List.length_drop, List.length_take]; rfl)) ?_; (with_reducible refine (field_Mul.calls kj26 t120 t122 t126 _ A33.out).mono ?_); rintro e w' ⟨rfl, ⟨nd, rfl⟩⟩; refine ⟨_, rfl, ?_⟩))
                        go_ret
                        exact ⟨by first | rfl | (simp [errW_none, errW_some] <;> rfl) | (simp [*, errW_none, errW_some] <;> rfl), by repeat (first | (with_reducible first | exact HB.out | apply below_alloc | apply pw_below_drewN | apply below_drew1) | exact HB.out)⟩
                      · rw [if_neg c36] at H
                        have c36b0 : (t125 == 0) = false := beq_eq_false_iff_ne.mpr c36
                        have c36b1 : (t125 != 0) = true := bne_iff_ne.mpr c36
                        obtain rfl := Option.some.inj H
                        go_wp2_with (first | ((with_reducible refine gate_callee (f := 12) rfl ?_); refine goesL_ (some 111) rfl rfl Try.func12 (by kernel_rfl) rfl #[.int .u8 t120, .int .u8 t122] rfl (by (try simp only [List.map_toArray, List.map_cons, List.map_nil]); first | done | rfl | (simp only [List.length_drop, List.length_take]; rfl)) ?_; (with_reducible refine (field_Mul.calls kj26 t120 t122 t126 _ A33.out).mono ?_); rintro e w' ⟨rfl, ⟨nd, rfl⟩⟩; refine ⟨_, rfl, ?_⟩))
                        go_ret
                        exact ⟨by first | rfl | (simp [errW_none, errW_some] <;> rfl) | (simp [*, errW_none, errW_some] <;> rfl), by repeat (first | (with_reducible first | exact HB.out | apply below_alloc | apply pw_below_drewN | apply below_drew1) | exact HB.out)⟩
                    · rw [if_neg c35] at H
                      have c35b0 : (t123 == 0) = false := beq_eq_false_iff_ne.mpr c35
                      have c35b1 : (t123 != 0) = true := bne_iff_ne.mpr c35
                      obtain rfl := Option.some.inj H
                      go_wp2_with (first | ((with_reducible refine gate_callee (f := 12) rfl ?_); refine goesL_ (some 111) rfl rfl Try.func12 (by kernel_rfl) rfl #[.int .u8 t120, .int .u8 t122] rfl (by (try simp only [List.map_toArray, List.map_cons, List.map_nil]); first | done | rfl | (simp only [List.length_drop, List.length_take]; rfl)) ?_; (with_reducible refine (field_Mul.calls kj26 t120 t122 t126 _ A33.out).mono ?_); rintro e w' ⟨rfl, ⟨nd, rfl⟩⟩; refine ⟨_, rfl, ?_⟩))
                      go_ret
                      exact ⟨by first | rfl | (simp [errW_none, errW_some] <;> rfl) | (simp [*, errW_none, errW_some] <;> rfl), by repeat (first | (with_reducible first | exact HB.out | apply below_alloc | apply pw_below_drewN | apply below_drew1) | exact HB.out)⟩
                  · rw [if_neg c34] at H
                    have c34b0 : (t121 == 0) = false := beq_eq_false_iff_ne.mpr c34
                    have c34b1 : (t121 != 0) = true := bne_iff_ne.mpr c34
                    obtain rfl := Option.some.inj H
                    go_wp2_with (first | ((with_reducible refine gate_callee (f := 12) rfl ?_); refine goesL_ (some 111) rfl rfl Try.func12 (by kernel_rfl) rfl #[.int .u8 t120, .int .u8 t122] rfl (by (try simp only [List.map_toArray, List.map_cons, List.map_nil]); first | done | rfl | (simp only [List.length_drop, List.length_take]; rfl)) ?_; (with_reducible refine (field_Mul.calls kj26 t120 t122 t126 _ A33.out).mono ?_); rintro e w' ⟨rfl, ⟨nd, rfl⟩⟩; refine ⟨_, rfl, ?_⟩))
                    go_ret
                    exact ⟨by first | rfl | (simp [errW_none, errW_some] <;> rfl) | (simp [*, errW_none, errW_some] <;> rfl), by repeat (first | (with_reducible first | exact HB.out | apply below_alloc | apply pw_below_drewN | apply below_drew1) | exact HB.out)⟩
  · rw [if_neg c5] at H
    exact absurd H (by simp)

/-- THE ONE PURE STATEMENT of dailieslaw04_FieldPowers: yours. -/
def dailieslaw04_FieldPowers.Pure : Prop := ∀ (a0 : Int) (a1 : Int) (a2 : Int), (Lit.int .u8 a0).wf = true → (Lit.int .i64 a1).wf = true → (Lit.int .i64 a2).wf = true → ∃ k, dailieslaw04_FieldPowers.f k a0 a1 a2 = some true
theorem dailieslaw04_FieldPowers.walk (P : dailieslaw04_FieldPowers.Pure) (a0 : Int) (a1 : Int) (a2 : Int) (w : World) (w0 : (Lit.int .u8 a0).wf = true) (w1 : (Lit.int .i64 a1).wf = true) (w2 : (Lit.int .i64 a2).wf = true) :
    Calls Try.prog 6 #[.int .u8 a0, .int .i64 a1, .int .i64 a2] w fun e w' => e = .returned (.bool true) ∧ Below w.heap.size w w' := by
  obtain ⟨k, h⟩ := P a0 a1 a2 w0 w1 w2
  refine (dailieslaw04_FieldPowers.calls k a0 a1 a2 true w h).mono ?_
  rintro e w' ⟨rfl, hd⟩
  exact ⟨rfl, hd⟩

end Go.Proofs.Ytdleoljbnjjdgaa.PFieldPowers
