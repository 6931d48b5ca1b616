/- A part of a proof: see the text's own remark. No conditions beyond its theorems' own. -/
import Derived.Test.YtjmhjhmlcjkjeaaDoorForm18
import Derived.Deep.QuietTactic
import Derived.BigQuiet
/-! (rate).read, walked -/
namespace Go.Proofs.YtjmhjhmlcjkjeaaDoor.Tab
open Go.RowKit Go.Proofs.YtjmhjhmlcjkjeaaDoorW.PrintWords Go.Proofs.YtjmhjhmlcjkjeaaDoorW.PrintLast Go.Proofs.YtjmhjhmlcjkjeaaDoorW.PrintMore Go.Proofs.YtjmhjhmlcjkjeaaDoor.QBaseTimecodeNumbers
set_option linter.unusedVariables false
set_option linter.unusedSimpArgs false
theorem formG_neg {d : Int} {s : ByteArray} : ∀ (k at_ : Nat), at_ ≤ 11 → at_ + k = s.size → formG d s k at_ < 0 → formG d s k at_ = -1 ∧ s.size = 11 ∧ ∀ i, at_ ≤ i → i < 11 → fits d i (by_ s i) = true
  | 0, at_, h11, hk, h => by
    have e : formG d s 0 at_ = if at_ < 11 then (s.size : Int) else -1 := rfl
    rw [e] at h ⊢
    by_cases hl : at_ < 11
    · rw [if_pos hl] at h; omega
    · rw [if_neg hl]
      exact ⟨rfl, by omega, fun i h1 h2 => by omega⟩
  | k + 1, at_, h11, hk, h => by
    by_cases h11e : at_ = 11
    · subst h11e; rw [formG_hit] at h; omega
    · cases hf : fits d at_ (by_ s at_) with
      | false => rw [formG_bad h11e hf] at h; omega
      | true =>
        rw [formG_ok h11e hf] at h ⊢
        obtain ⟨h0, h1, h2⟩ := formG_neg k (at_ + 1) (by omega) (by omega) h
        refine ⟨h0, h1, fun i hi1 hi2 => ?_⟩
        by_cases e : i = at_
        · subst e; exact hf
        · exact h2 i (by omega) hi2
theorem formF_neg {d : Int} {s : ByteArray} (h : formF d s < 0) : formF d s = -1 ∧ s.size = 11 ∧ ∀ i, i < 11 → fits d i (by_ s i) = true := by
  obtain ⟨h0, h1, h2⟩ := formG_neg s.size 0 (by omega) (by omega) h
  exact ⟨h0, h1, fun i hi => h2 i (by omega) hi⟩
theorem fits_digit {d : Int} {i c : Nat} (h : fits d i c = true) (h8 : i ≠ 8) (h3 : i % 3 ≠ 2) : 48 ≤ c ∧ c ≤ 57 := by
  unfold fits at h
  rw [if_neg h8, if_neg h3, Bool.and_eq_true] at h
  exact ⟨of_decide_eq_true h.1, of_decide_eq_true h.2⟩
def pt (s : ByteArray) (i : Nat) : Int := 10 * ((by_ s i : Int) - 48) + ((by_ s (i + 1) : Int) - 48)
def readF (a d : Int) (s : ByteArray) : Int × Int × Int :=
  if 0 ≤ formF d s then (0, formF d s, 182) else
  if pt s 0 > 23 then (0, 0, 184) else if pt s 3 > 59 then (0, 3, 182) else if pt s 6 > 59 then (0, 6, 182) else if pt s 9 ≥ a then (0, 9, 182) else
  if (pt s 3) % 10 ≠ 0 ∧ pt s 6 = 0 ∧ pt s 9 < d then (0, 9, 183) else
  (a * (60 * (60 * pt s 0 + pt s 3) + pt s 6) + pt s 9 - d * ((60 * pt s 0 + pt s 3) - (60 * pt s 0 + pt s 3) / 10), 0, 0)
theorem pt_val {x y : Nat} (hx : 48 ≤ x ∧ x ≤ 57) (hy : 48 ≤ y ∧ y ≤ 57) : 10 * (((x : Int) - 48) % 256) + ((y : Int) - 48) % 256 = 10 * ((x : Int) - 48) + ((y : Int) - 48) := by omega
theorem pt_range {s : ByteArray} {i : Nat} (h0 : 48 ≤ by_ s i ∧ by_ s i ≤ 57) (h1 : 48 ≤ by_ s (i + 1) ∧ by_ s (i + 1) ≤ 57) : 0 ≤ pt s i ∧ pt s i ≤ 99 := by unfold pt; omega
theorem prod_bound {a X M N : Int} (ha : 0 ≤ a ∧ a ≤ N) (hX : 0 ≤ X ∧ X ≤ M) (hN : 0 ≤ N) : 0 ≤ a * X ∧ a * X ≤ N * M := ⟨Int.mul_nonneg ha.1 hX.1, Int.mul_le_mul ha.2 hX.2 hX.1 hN⟩
theorem by_get {s : ByteArray} {i : Nat} (h : i < s.size) : (s[i]'h).toNat = by_ s i := by
  unfold by_
  congr 1
  show _ = s.get! i
  simp [ByteArray.get!, getElem!_pos, h]
  rfl
set_option maxHeartbeats 1600000 in
set_option maxRecDepth 100000 in
theorem part_0 (s : ByteArray) (g : Nat) (w : World) (hg : w.heap[g]? = some (.cells #[.string s] 9 (0, 0))) (hsz : s.size = 11) (h0 : 48 ≤ by_ s 0 ∧ by_ s 0 ≤ 57) (h1 : 48 ≤ by_ s 1 ∧ by_ s 1 ≤ 57) :
    Calls Tryd.prog 47 #[.int .i64 0, .pointer (some ⟨g, 0, none⟩)] w fun e w' => e = .returned (.int .i64 (pt s 0)) ∧ Drawn0 w w' := by
  have HSZ := Aside0.mk hsz
  have H0 := Aside0.mk h0
  have H1 := Aside0.mk h1
  have q0 : w.cell? ⟨g, 0, none⟩ = some (.string s) := blk_cell hg 0
  have i0 : 0 < s.size := by have := HSZ.out; omega
  have i1 : (0 : Int) < (s.size : Int) := by have := HSZ.out; omega
  have i2 : (1 : Int) < (s.size : Int) := by have := HSZ.out; omega
  clear hg hsz h0 h1
  go_enter Tryd.func47, Tryd.ntmps47
  go_wp2
  go_quiet (fail)
  go_wp2
  go_ret
  refine ⟨?_, ⟨nq, rfl⟩⟩
  rw [by_get, by_get, pt_val H0.out H1.out]
  rfl
set_option maxHeartbeats 1600000 in
set_option maxRecDepth 100000 in
theorem part_3 (s : ByteArray) (g : Nat) (w : World) (hg : w.heap[g]? = some (.cells #[.string s] 9 (0, 0))) (hsz : s.size = 11) (h0 : 48 ≤ by_ s 3 ∧ by_ s 3 ≤ 57) (h1 : 48 ≤ by_ s 4 ∧ by_ s 4 ≤ 57) :
    Calls Tryd.prog 47 #[.int .i64 3, .pointer (some ⟨g, 0, none⟩)] w fun e w' => e = .returned (.int .i64 (pt s 3)) ∧ Drawn0 w w' := by
  have HSZ := Aside0.mk hsz
  have H0 := Aside0.mk h0
  have H1 := Aside0.mk h1
  have q0 : w.cell? ⟨g, 0, none⟩ = some (.string s) := blk_cell hg 0
  have i1 : (3 : Int) < (s.size : Int) := by have := HSZ.out; omega
  have i2 : (4 : Int) < (s.size : Int) := by have := HSZ.out; omega
  clear hg hsz h0 h1
  go_enter Tryd.func47, Tryd.ntmps47
  go_wp2
  go_quiet (fail)
  go_wp2
  go_ret
  refine ⟨?_, ⟨nq, rfl⟩⟩
  rw [by_get, by_get, pt_val H0.out H1.out]
  rfl
set_option maxHeartbeats 1600000 in
set_option maxRecDepth 100000 in
theorem part_6 (s : ByteArray) (g : Nat) (w : World) (hg : w.heap[g]? = some (.cells #[.string s] 9 (0, 0))) (hsz : s.size = 11) (h0 : 48 ≤ by_ s 6 ∧ by_ s 6 ≤ 57) (h1 : 48 ≤ by_ s 7 ∧ by_ s 7 ≤ 57) :
    Calls Tryd.prog 47 #[.int .i64 6, .pointer (some ⟨g, 0, none⟩)] w fun e w' => e = .returned (.int .i64 (pt s 6)) ∧ Drawn0 w w' := by
  have HSZ := Aside0.mk hsz
  have H0 := Aside0.mk h0
  have H1 := Aside0.mk h1
  have q0 : w.cell? ⟨g, 0, none⟩ = some (.string s) := blk_cell hg 0
  have i1 : (6 : Int) < (s.size : Int) := by have := HSZ.out; omega
  have i2 : (7 : Int) < (s.size : Int) := by have := HSZ.out; omega
  clear hg hsz h0 h1
  go_enter Tryd.func47, Tryd.ntmps47
  go_wp2
  go_quiet (fail)
  go_wp2
  go_ret
  refine ⟨?_, ⟨nq, rfl⟩⟩
  rw [by_get, by_get, pt_val H0.out H1.out]
  rfl
set_option maxHeartbeats 1600000 in
set_option maxRecDepth 100000 in
theorem part_9 (s : ByteArray) (g : Nat) (w : World) (hg : w.heap[g]? = some (.cells #[.string s] 9 (0, 0))) (hsz : s.size = 11) (h0 : 48 ≤ by_ s 9 ∧ by_ s 9 ≤ 57) (h1 : 48 ≤ by_ s 10 ∧ by_ s 10 ≤ 57) :
    Calls Tryd.prog 47 #[.int .i64 9, .pointer (some ⟨g, 0, none⟩)] w fun e w' => e = .returned (.int .i64 (pt s 9)) ∧ Drawn0 w w' := by
  have HSZ := Aside0.mk hsz
  have H0 := Aside0.mk h0
  have H1 := Aside0.mk h1
  have q0 : w.cell? ⟨g, 0, none⟩ = some (.string s) := blk_cell hg 0
  have i1 : (9 : Int) < (s.size : Int) := by have := HSZ.out; omega
  have i2 : (10 : Int) < (s.size : Int) := by have := HSZ.out; omega
  clear hg hsz h0 h1
  go_enter Tryd.func47, Tryd.ntmps47
  go_wp2
  go_quiet (fail)
  go_wp2
  go_ret
  refine ⟨?_, ⟨nq, rfl⟩⟩
  rw [by_get, by_get, pt_val H0.out H1.out]
  rfl
set_option maxHeartbeats 1600000 in
set_option maxRecDepth 100000 in
theorem read_calls (a b c d : Int) (s : ByteArray) (hs : s.size ≤ 140737488355328) (ha : 0 < a ∧ a ≤ 60) (hd : 0 ≤ d ∧ d ≤ 4) (r1 r2 r3 : Int) (hr : readF a d s = (r1, r2, r3)) (w : World) :
    Calls Tryd.prog 31 #[.agg #[.int .i64 a, .int .i64 b, .int .i64 c, .int .i64 d], .string s] w fun e w' => e = .returned (.tuple #[.int .i64 r1, .int .i64 r2, .int .i64 r3]) ∧ Below w.heap.size w w' := by
  have HS := Aside0.mk hs
  have hu54 := Tryd.underlying54
  have HA := Aside0.mk ha
  have HD := Aside0.mk hd
  have HR := Aside0.mk hr
  clear hs ha hd hr
  go_enter Tryd.func31, Tryd.ntmps31
  go_wp2_with (fail)
  refine (form_calls a b c d s HS.out _).mono ?_
  rintro e w1 ⟨rfl, hb⟩
  have HB : Aside0 (Below w.heap.size w w1) := ⟨below_step (below_alloc (below_alloc (Below.refl _ _) _) _) hb⟩
  have HBX : Aside0 (w1.heap[w.heap.size]? = some (.cells #[.int .i64 a, .int .i64 b, .int .i64 c, .int .i64 d] 54 (0, 0))) := ⟨blk_below (blk_alloc (blk_new w _) _) hb⟩
  have HBS : Aside0 (w1.heap[w.heap.size + 1]? = some (.cells #[.string s] 9 (0, 0))) := ⟨blk_below (by have := blk_new (w.alloc (.cells #[.int .i64 a, .int .i64 b, .int .i64 c, .int .i64 d] 54)) (.cells #[.string s] 9); simpa using this) hb⟩
  clear hb
  by_cases hF : 0 ≤ formF d s
  · have hr := HR.out
    unfold readF at hr
    rw [if_pos hF] at hr
    simp only [Prod.mk.injEq] at hr
    obtain ⟨rfl, rfl, rfl⟩ := hr
    have c1 : decide (0 ≤ formF d s) = true := decide_eq_true hF
    clear hF
    go_wp2
    go_ret3
    exact ⟨rfl, HB.out⟩
  · obtain ⟨e0, hsz, hfit⟩ := formF_neg (show formF d s < 0 by omega)
    have hr := HR.out
    unfold readF at hr
    rw [if_neg hF] at hr
    rw [e0]
    clear e0 hF
    have HR2 := Aside0.mk hr
    have HSZ := Aside0.mk hsz
    have HFIT := Aside0.mk hfit
    clear hr hsz hfit HR
    have q0 : w1.cell? ⟨w.heap.size + 1, 0, none⟩ = some (.string s) := blk_cell HBS.out 0
    have q1 : w1.cell? ⟨w.heap.size, 0, none⟩ = some (.int .i64 a) := blk_cell HBX.out 0
    have q2 : w1.cell? ⟨w.heap.size, 3, none⟩ = some (.int .i64 d) := blk_cell HBX.out 3
    have d0 := fits_digit (HFIT.out 0 (by decide)) (by decide) (by decide)
    have d1 := fits_digit (HFIT.out 1 (by decide)) (by decide) (by decide)
    have d3 := fits_digit (HFIT.out 3 (by decide)) (by decide) (by decide)
    have d4 := fits_digit (HFIT.out 4 (by decide)) (by decide) (by decide)
    have d6 := fits_digit (HFIT.out 6 (by decide)) (by decide) (by decide)
    have d7 := fits_digit (HFIT.out 7 (by decide)) (by decide) (by decide)
    have d9 := fits_digit (HFIT.out 9 (by decide)) (by decide) (by decide)
    have d10 := fits_digit (HFIT.out 10 (by decide)) (by decide) (by decide)
    have HD0 := Aside0.mk d0
    have HD1 := Aside0.mk d1
    have HD3 := Aside0.mk d3
    have HD4 := Aside0.mk d4
    have HD6 := Aside0.mk d6
    have HD7 := Aside0.mk d7
    have HD9 := Aside0.mk d9
    have HD10 := Aside0.mk d10
    obtain ⟨p0, hp0⟩ : ∃ p, p = pt s 0 := ⟨_, rfl⟩
    obtain ⟨p3, hp3⟩ : ∃ p, p = pt s 3 := ⟨_, rfl⟩
    obtain ⟨p6, hp6⟩ : ∃ p, p = pt s 6 := ⟨_, rfl⟩
    obtain ⟨p9, hp9⟩ : ∃ p, p = pt s 9 := ⟨_, rfl⟩
    have r0 : 0 ≤ p0 ∧ p0 ≤ 99 := by rw [hp0]; exact pt_range d0 d1
    have r3' : 0 ≤ p3 ∧ p3 ≤ 99 := by rw [hp3]; exact pt_range d3 d4
    have r6 : 0 ≤ p6 ∧ p6 ≤ 99 := by rw [hp6]; exact pt_range d6 d7
    have r9 : 0 ≤ p9 ∧ p9 ≤ 99 := by rw [hp9]; exact pt_range d9 d10
    have P0 := Aside0.mk hp0
    have P3 := Aside0.mk hp3
    have P6 := Aside0.mk hp6
    have P9 := Aside0.mk hp9
    clear d0 d1 d3 d4 d6 d7 d9 d10
    rw [← hp0, ← hp3, ← hp6, ← hp9] at HR2
    clear hp0 hp3 hp6 hp9 HFIT
    have R0 := Aside0.mk r0
    have R3 := Aside0.mk r3'
    have R6 := Aside0.mk r6
    have R9 := Aside0.mk r9
    clear r0 r3' r6 r9
    go_wp2_with (first
      | (go_at_call 47; (with_reducible refine (part_0 s (w.heap.size + 1) _ HBS.out HSZ.out HD0.out HD1.out).mono ?_); rintro e w' ⟨rfl, ⟨n1, rfl⟩⟩; rw [← P0.out])
      | (go_at_call 47; (with_reducible refine (part_3 s (w.heap.size + 1) _ (blk_drewN HBS.out _) HSZ.out HD3.out HD4.out).mono ?_); rintro e w' ⟨rfl, ⟨n2, rfl⟩⟩; rw [← P3.out])
      | (go_at_call 47; (with_reducible refine (part_6 s (w.heap.size + 1) _ (blk_drewN HBS.out _) HSZ.out HD6.out HD7.out).mono ?_); rintro e w' ⟨rfl, ⟨n3, rfl⟩⟩; rw [← P6.out])
      | (go_at_call 47; (with_reducible refine (part_9 s (w.heap.size + 1) _ (blk_drewN HBS.out _) HSZ.out HD9.out HD10.out).mono ?_); rintro e w' ⟨rfl, ⟨n4, rfl⟩⟩; rw [← P9.out]; refine Aside0.out ?_))
    refine ⟨?_⟩
    have hr := HR2.out
    clear HR2
    have ⟨ra0, ra1⟩ := HA.out
    have ⟨rd0, rd1⟩ := HD.out
    have ⟨b0, b1⟩ := R0.out
    have ⟨b2, b3⟩ := R3.out
    have ⟨b4, b5⟩ := R6.out
    have ⟨b6, b7⟩ := R9.out
    by_cases k1 : p0 > 23
    · rw [if_pos k1] at hr
      simp only [Prod.mk.injEq] at hr
      obtain ⟨rfl, rfl, rfl⟩ := hr
      have e1 : decide (23 < p0) = true := decide_eq_true k1
      clear k1
      go_wp2
      go_ret3
      exact ⟨rfl, pw_below_drewN HB.out _⟩
    · rw [if_neg k1] at hr
      have e1 : decide (23 < p0) = false := decide_eq_false k1
      by_cases k2 : p3 > 59
      · rw [if_pos k2] at hr
        simp only [Prod.mk.injEq] at hr
        obtain ⟨rfl, rfl, rfl⟩ := hr
        have e2 : decide (59 < p3) = true := decide_eq_true k2
        clear k2
        go_wp2
        go_ret3
        exact ⟨rfl, pw_below_drewN HB.out _⟩
      · rw [if_neg k2] at hr
        have e2 : decide (59 < p3) = false := decide_eq_false k2
        by_cases k3 : p6 > 59
        · rw [if_pos k3] at hr
          simp only [Prod.mk.injEq] at hr
          obtain ⟨rfl, rfl, rfl⟩ := hr
          have e3 : decide (59 < p6) = true := decide_eq_true k3
          clear k3
          go_wp2
          go_ret3
          exact ⟨rfl, pw_below_drewN HB.out _⟩
        · rw [if_neg k3] at hr
          have e3 : decide (59 < p6) = false := decide_eq_false k3
          by_cases k4 : p9 ≥ a
          · rw [if_pos k4] at hr
            simp only [Prod.mk.injEq] at hr
            obtain ⟨rfl, rfl, rfl⟩ := hr
            have e4 : decide (a ≤ p9) = true := decide_eq_true k4
            clear k4
            go_wp2
            go_ret3
            exact ⟨rfl, pw_below_drewN HB.out _⟩
          · rw [if_neg k4] at hr
            have e4 : decide (a ≤ p9) = false := decide_eq_false k4
            by_cases k5 : p3 % 10 = 0
            · have e5 : ((p3 % 10) != 0) = false := by rw [k5]; rfl
              rw [if_neg (by rintro ⟨z1, z2, z3⟩; exact z1 k5)] at hr
              simp only [Prod.mk.injEq] at hr
              obtain ⟨rfl, rfl, rfl⟩ := hr
              have hX := prod_bound (a := a) (X := 60 * (60 * p0 + p3) + p6) (M := 363639) (N := 60) (by omega) (by omega) (by decide)
              have hY := prod_bound (a := d) (X := 60 * p0 + p3 - (60 * p0 + p3) / 10) (M := 6039) (N := 4) (by omega) (by omega) (by decide)
              have ⟨x0, x1⟩ := hX
              have ⟨y0, y1⟩ := hY
              clear hX hY
              go_wp2
              go_ret3
              exact ⟨rfl, pw_below_drewN HB.out _⟩
            · have e5 : ((p3 % 10) != 0) = true := bne_iff_ne.mpr k5
              by_cases k6 : p6 = 0
              · have e6 : (p6 == 0) = true := by rw [k6]; rfl
                by_cases k7 : p9 < d
                · have e7 : decide (p9 < d) = true := decide_eq_true k7
                  rw [if_pos ⟨k5, k6, k7⟩] at hr
                  simp only [Prod.mk.injEq] at hr
                  obtain ⟨rfl, rfl, rfl⟩ := hr
                  clear k5 k6 k7
                  go_wp2
                  go_ret3
                  exact ⟨rfl, pw_below_drewN HB.out _⟩
                · have e7 : decide (p9 < d) = false := decide_eq_false k7
                  rw [if_neg (by rintro ⟨z1, z2, z3⟩; exact k7 z3)] at hr
                  clear k6
                  simp only [Prod.mk.injEq] at hr
                  obtain ⟨rfl, rfl, rfl⟩ := hr
                  have hX := prod_bound (a := a) (X := 60 * (60 * p0 + p3) + p6) (M := 363639) (N := 60) (by omega) (by omega) (by decide)
                  have hY := prod_bound (a := d) (X := 60 * p0 + p3 - (60 * p0 + p3) / 10) (M := 6039) (N := 4) (by omega) (by omega) (by decide)
                  have ⟨x0, x1⟩ := hX
                  have ⟨y0, y1⟩ := hY
                  clear hX hY
                  go_wp2
                  go_ret3
                  exact ⟨rfl, pw_below_drewN HB.out _⟩
              · have e6 : (p6 == 0) = false := beq_eq_false_iff_ne.mpr k6
                rw [if_neg (by rintro ⟨z1, z2, z3⟩; exact k6 z2)] at hr
                simp only [Prod.mk.injEq] at hr
                obtain ⟨rfl, rfl, rfl⟩ := hr
                have hX := prod_bound (a := a) (X := 60 * (60 * p0 + p3) + p6) (M := 363639) (N := 60) (by omega) (by omega) (by decide)
                have hY := prod_bound (a := d) (X := 60 * p0 + p3 - (60 * p0 + p3) / 10) (M := 6039) (N := 4) (by omega) (by omega) (by decide)
                have ⟨x0, x1⟩ := hX
                have ⟨y0, y1⟩ := hY
                clear hX hY
                go_wp2
                go_ret3
                exact ⟨rfl, pw_below_drewN HB.out _⟩
end Go.Proofs.YtjmhjhmlcjkjeaaDoor.Tab
