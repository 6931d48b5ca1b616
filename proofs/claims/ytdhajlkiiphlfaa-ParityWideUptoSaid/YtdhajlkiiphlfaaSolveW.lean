/- A part of a proof: see the text's own remark. No conditions beyond its theorems' own. -/
import Derived.Test.YtdhajlkiiphlfaaSolveL
import Derived.WalkMore
/-! field.Solve, walked -/
namespace Go.Proofs.Ytdhajlkiiphlfaa.Solve
open Go.RowKit Go.Proofs.Ytdhajlkiiphlfaa.QBaseParityWide Go.Proofs.YtdhajlkiiphlfaaW.PrintWords Go.Proofs.YtdhajlkiiphlfaaW.PrintLast Go.Proofs.YtdhajlkiiphlfaaW.PrintMore
set_option linter.unusedVariables false
set_option linter.unusedSimpArgs false
theorem Two.swapCell {w0 w : World} {okA okX : Nat → Prop} {ga ca : Nat} {ha : List Value} {a : List (List Int)} {gx cx : Nat} {hx : List Value} {x : List (List Int)} (h : Two w0 w okA okX ga ca ha a gx cx hx x) (c : Nat) (u : Value) {r : Nat} {r2 : List Int} (hr : a[r]? = some r2) : ∃ z, (w.setCell ⟨ga, c, none⟩ u).cell? ⟨ga, r, none⟩ = some z := by
  obtain ⟨cur, hh, hcs, hlc, hcm, hcur⟩ := h.A.outer
  have hl := h.A.len
  have hlt : r < a.length := (List.getElem?_eq_some_iff.1 hr).1
  rw [blk_cell (blk_set hh c u) r]
  exact ⟨_, Array.getElem?_eq_getElem (by rw [Array.size_setIfInBounds]; omega)⟩
theorem cols_some {n d c r : Nat} {q : List (List Int) × List (List Int)} (h : findP q.1 c (n - c) c = some r) : cols n (d + 1) c q = cols n d (c + 1) (clearsF n c (swapL q.1 c r) (swapL q.2 c r)) := by
  show (match findP q.1 c (n - c) c with
    | none => none
    | some r => cols n d (c + 1) (clearsF n c (swapL q.1 c r) (swapL q.2 c r))) = _
  rw [h]
theorem cols_none {n d c : Nat} {q : List (List Int) × List (List Int)} (h : findP q.1 c (n - c) c = none) : cols n (d + 1) c q = none := by
  show (match findP q.1 c (n - c) c with
    | none => none
    | some r => cols n d (c + 1) (clearsF n c (swapL q.1 c r) (swapL q.2 c r))) = _
  rw [h]
set_option maxHeartbeats 1600000 in
set_option maxRecDepth 100000 in
theorem solve_pos (n nx : Nat) (m v : List (List Int)) (A0 A1 : Option Addr) (c0 c1 : Nat) (w : World) (hr0 : Kd.C (Kd.slice 5 (Kd.int .u8)) w A0 m.length m) (hc0 : m.length ≤ c0) (hr1 : Kd.C (Kd.slice 5 (Kd.int .u8)) w A1 v.length v) (hc1 : v.length ≤ c1) (hn0 : 0 < n) (hn : n ≤ 256) (hnx : nx ≤ 140737488355328) (sm : Sh n n m) (sv : Sh n nx v) (R : Option (List (List Int))) (hR : cols n n 0 (m, v) = R) :
    Calls Try.prog 35 #[.slice A0 m.length c0, .slice A1 v.length c1] w fun e w' => (match (generalizing := false) R with
      | none => e = .returned (.tuple #[.slice none 0 0, .int .i64 43])
      | some l => ∃ v0_, e = .returned (.tuple #[v0_, .int .i64 0]) ∧ Kd.S (Kd.slice 5 (Kd.int .u8)) 41 w' w.heap.size (fun _ => True) v0_ l) ∧ Below w.heap.size w w' := by
  obtain ⟨m', hwid⟩ := width_true 1000 n nx v sv.row sv.len hn (by omega)
  have hall := all_true 1000 n n m sm.row sm.len hn (by omega)
  rw [← sm.len] at hall
  have HW := Aside0.mk hwid
  have HALL := Aside0.mk hall
  have HR0 := Aside0.mk hr0
  have HC0 := Aside0.mk hc0
  have HR1 := Aside0.mk hr1
  have HC1 := Aside0.mk hc1
  have HSM := Aside0.mk sm
  have HSV := Aside0.mk sv
  have HNN := Aside0.mk hn0
  have HN := Aside0.mk (show n ≤ 256 ∧ nx ≤ 140737488355328 from ⟨hn, hnx⟩)
  have HCO := Aside0.mk hR

  have hm1 : decide (256 < (m.length : Int)) = false := decide_eq_false (by rw [sm.len]; omega)
  have hm1' : decide (256 < m.length) = false := decide_eq_false (by rw [sm.len]; omega)
  have hm2 : ((v.length : Int) != (m.length : Int)) = false := bne_eq_false_iff_eq.mpr (by rw [sm.len, sv.len])
  clear hr0 hc0 hr1 hc1 sm sv hn hnx hwid hall hn0 hR
  go_enter Try.func35, Try.ntmps35
  go_wp2_with (fail)
  apply wp_scope_straight
  go_upto_region 2 with (first | ((with_reducible refine gate_callee (f := 47) rfl ?_); refine goesL_ (some 14) rfl rfl Try.func47 (by kernel_rfl) rfl #[.slice A1 v.length c1] rfl (by (try simp only [List.map_toArray, List.map_cons, List.map_nil]); first | done | rfl) ?_; (with_reducible refine (field_width.calls 1000 _ _ v m' true _ ?side1 ?side2 HW.out).mono ?_); (case side1 => exact HR1.out); (case side2 => exact HC1.out); rintro e w' ⟨rfl, ⟨nd, rfl⟩⟩; refine ⟨_, rfl, ?_⟩))
  (try simp only [Act.put, List.setIfInBounds_toArray, List.set_cons_zero, List.set_cons_succ])
  go_wp2_with (first
    | (go_at_call 48; (with_reducible refine (field_all.calls 1000 _ _ m (m.length : Int) true _ ?side1 HC0.out HALL.out).mono ?_); (case side1 => repeat (first | exact HR0.out | (with_reducible refine Kd.C_alloc ?_ _) | (with_reducible refine Kd.C_drewN ?_ _) | (with_reducible refine Kd.C_drew ?_))); rintro e w' ⟨rfl, ⟨nd2, rfl⟩⟩))
  refine (copied_calls A0 c0 m _ (by repeat (first | exact HR0.out | (with_reducible refine Kd.C_alloc ?_ _) | (with_reducible refine Kd.C_drewN ?_ _) | (with_reducible refine Kd.C_drew ?_))) HC0.out (by rw [HSM.out.len]; exact HN.out.1) (fun r hr => by rw [HSM.out.row r hr]; have := HN.out; omega)).mono ?_
  rintro e w1 ⟨v0, rfl, hs0, hb0⟩
  have hS0 : Kd.S (Kd.slice 5 (Kd.int .u8)) 41 w1 w.heap.size (fun _ => True) v0 m := hs0
  have hB0 : Below w.heap.size w w1 := below_step (pw_below_drewN (Below.refl _ _) _) hb0
  obtain ⟨g0, k0, hv0, _, _, _⟩ := Kd.R_form (Kd.S_R hS0) (by rw [HSM.out.len]; exact HNN.out)
  subst hv0
  have HS0 := Aside0.mk hS0
  have HB0 := Aside0.mk hB0
  clear hs0 hb0 hS0 hB0
  go_wp2_with (fail)
  refine (copied_calls A1 c1 v _ (Kd.C_below HR1.out HB0.out) HC1.out (by rw [HSV.out.len]; exact HN.out.1) (fun r hr => by rw [HSV.out.row r hr]; have := HN.out; omega)).mono ?_
  rintro e w2 ⟨v1, rfl, hs1, hb1⟩
  obtain ⟨g1, k1, hv1, _, _, _⟩ := Kd.R_form (Kd.S_R hs1) (by rw [HSV.out.len]; exact HNN.out)
  subst hv1
  have HT : ∃ ha hx, Aside0 (Two w w2 (fun k => k < w1.heap.size) (fun k => w1.heap.size ≤ k) g0 k0 ha m g1 k1 hx v) := by
    obtain ⟨_, ha, hA⟩ := Mx.of_S (Kd.S_mono (ok' := fun k => k < w1.heap.size) (Kd.S_bound HS0.out) (fun k hk => hk.2.2.1))
    obtain ⟨_, hx, hX⟩ := Mx.of_S (Kd.S_mono (ok' := fun k => w1.heap.size ≤ k) (Kd.S_bound hs1) (fun k hk => hk.2.1))
    exact ⟨ha, hx, ⟨⟨hA.below hb1, hX.base_down HB0.out.size, below_step HB0.out hb1, fun k h1 h2 => by omega⟩⟩⟩
  obtain ⟨ha, hx, HT⟩ := HT
  have hmn : m.length = n := HSM.out.len
  have hvn : v.length = n := HSV.out.len
  rw [hmn, hvn]
  generalize w1.heap.size = N1 at HT
  clear hs1 hb1 HS0 HB0 hm1 hm1' hm2 hmn hvn
  go_wp2_with (first | (go_step3))
  go_loopw [44] (fun vi wr => ∃ c : Nat, c ≤ n ∧ vi = .int .i64 (c : Int) ∧ ∃ ha hx q, Aside0 (Two w wr (fun k => k < N1) (fun k => N1 ≤ k) g0 k0 ha q.1 g1 k1 hx q.2) ∧ Aside0 (Sh n n q.1 ∧ Sh n nx q.2) ∧ Aside0 (cols n (n - c) c q = R)) (fun vi _ => n - (intOf vi).toNat)
  case atStart => exact ⟨0, Nat.zero_le _, rfl, ha, hx, (m, v), HT, ⟨HSM.out, HSV.out⟩, HCO⟩
  case round =>
    clear HT HCO ha hx
    obtain ⟨c, hc, rfl, ha, hx, q, HT, HS, HCO⟩ := hrel
    by_cases hcn : c < n
    · have HCN := Aside0.mk hcn
      have hc2 : (c : Int) < (n : Int) := by omega
      have hc3 : (0 : Int) ≤ (c : Int) := by omega
      have hwc := Aside0.mk (wr1 hcn (by have := HN.out; omega))
      clear hc hcn
      go_wp2
      go_loopw [11] (fun vr w' => ∃ r : Nat, c ≤ r ∧ r ≤ n ∧ vr = .int .i64 (r : Int) ∧ Aside0 (Two w w' (fun k => k < N1) (fun k => N1 ≤ k) g0 k0 ha q.1 g1 k1 hx q.2) ∧ Aside0 (findP q.1 c (n - r) r = findP q.1 c (n - c) c)) (fun vr _ => n - (intOf vr).toNat)
      case atStart => exact ⟨c, Nat.le_refl _, by have := HCN.out; omega, rfl, HT, ⟨rfl⟩⟩
      case round =>
        clear HT
        obtain ⟨r, hcr, hr, rfl, HT, HF⟩ := hrel
        by_cases hrn : r < n
        · obtain ⟨r1, f1, l1, i1⟩ := HS.out.1.at_ hrn
          obtain ⟨y, hy⟩ : ∃ y, r1[c]? = some y := ⟨_, List.getElem?_eq_getElem (by have := HCN.out; omega)⟩
          have hr2 : (r : Int) < (n : Int) := by omega
          have hr3 : (0 : Int) ≤ (r : Int) := by omega
          have hr4 : (c : Int) < (r1.length : Int) := by have := HCN.out; omega
          have hwr := Aside0.mk (wr1 hrn (by have := HN.out; omega))
          have hstep : findP q.1 c (n - r) r = if y = 0 then findP q.1 c (n - (r + 1)) (r + 1) else some r := by
            rw [show n - r = (n - (r + 1)) + 1 by omega]
            show (if rd (rd_L2 q.1 (r : Int)) (c : Int) = 0 then _ else _) = _
            rw [rowZ f1, elZ hy]
          rw [hstep] at HF
          obtain ⟨b1, d1, e1, _, ch1, ce1, _, _⟩ := HT.out.cellA' f1 hy
          have HF1 := Aside0.mk f1
          have HY := Aside0.mk hy
          have HRN := Aside0.mk hrn
          have HCR := Aside0.mk hcr
          clear hstep f1 hy l1 i1 hrn hcr hr
          by_cases hy0 : y = 0
          · subst hy0
            rw [if_pos rfl] at HF
            go_wp2
            go_roundw
            case rel => exact ⟨r + 1, by have := HCR.out; omega, HRN.out, by rw [hwr.out], ⟨by exact HT.out⟩, HF⟩
            case measure => exact meas hwr.out HRN.out
          · rw [if_neg hy0] at HF
            have hy1 : (y == 0) = false := beq_eq_false_iff_ne.mpr hy0
            clear hy0
            obtain ⟨rc, f2, l2, i2⟩ := HS.out.1.at_ HCN.out
            obtain ⟨s1, f3, l3, i3⟩ := HS.out.2.at_ HRN.out
            obtain ⟨s2, f4, l4, i4⟩ := HS.out.2.at_ HCN.out
            have HF2 := Aside0.mk f2
            have HF3 := Aside0.mk f3
            have HF4 := Aside0.mk f4
            clear f2 f3 f4 l2 l3 l4 i2 i3 i4
            go_wp2_with (fail)
            clear ch1 ce1
            obtain ⟨A2, c2, e2, _, hh2, hf2, _⟩ := HT.out.drew.headA' HF1.out
            obtain ⟨A3, c3, e3, _, hh3, hf3, _⟩ := HT.out.drew.headA' HF2.out
            have hsw := HT.out.drew.swapA e3 e2 HF2.out HF1.out
            obtain ⟨z2, hz2⟩ := HT.out.drew.swapCell c (.slice A2 r1.length c2) HF1.out
            have HSW := Aside0.mk hsw
            clear hsw
            refine start_ (n := 16) (S := fun w' => w'.cell? ⟨g0, r, none⟩ = some (.slice A2 r1.length c2) ∧ w'.cell? ⟨g0, c, none⟩ = some (.slice A3 rc.length c3)) (ds := [13, 15]) #[false, false, false, false, false, false, false, false, false, false, false, false, false, false, false, false] (by kernel_rfl) rfl rfl ⟨hh2, hh3⟩ (fun hHeld => ?_)
            generalize wr.drew = w3 at hh2 hh3 hf2 hf3 hz2 HSW hHeld ⊢
            refine pure_ (i := 0) (N := some 62) (v := ?_) (a' := ?_) #[true, false, false, false, false, false, false, false, false, false, false, false, false, false, false, false] rfl rfl (by kernel_rfl) (fun _ _ _ h => h) (Or.inl ⟨by rfl, ?_⟩) ?_ ?_
            rotate_left
            · intro w'
              go_simp
              with_reducible rfl
            rotate_left
            · simp only [Act.put, List.setIfInBounds_toArray, List.set_cons_zero, List.set_cons_succ, i64_w, i32_w]
              rfl
            refine pure_ (i := 1) (N := some 63) (v := ?_) (a' := ?_) #[true, true, false, false, false, false, false, false, false, false, false, false, false, false, false, false] rfl rfl (by kernel_rfl) (fun _ _ _ h => h) (Or.inl ⟨by rfl, ?_⟩) ?_ ?_
            rotate_left
            · intro w'
              go_simp
              with_reducible rfl
            rotate_left
            · simp only [Act.put, List.setIfInBounds_toArray, List.set_cons_zero, List.set_cons_succ, i64_w, i32_w]
              rfl
            refine pure_ (i := 2) (N := some 64) (v := ?_) (a' := ?_) #[true, true, true, false, false, false, false, false, false, false, false, false, false, false, false, false] rfl rfl (by kernel_rfl) (fun _ _ _ h => h) (Or.inl ⟨by rfl, ?_⟩) ?_ ?_
            rotate_left
            · intro w'
              go_simp
              with_reducible rfl
            rotate_left
            · simp only [Act.put, List.setIfInBounds_toArray, List.set_cons_zero, List.set_cons_succ, i64_w, i32_w]
              rfl
            refine pure_ (i := 3) (N := some 65) (v := ?_) (a' := ?_) #[true, true, true, true, false, false, false, false, false, false, false, false, false, false, false, false] rfl rfl (by kernel_rfl) (fun _ _ _ h => h) (Or.inl ⟨by rfl, ?_⟩) ?_ ?_
            rotate_left
            · intro w'
              go_simp
              with_reducible rfl
            rotate_left
            · simp only [Act.put, List.setIfInBounds_toArray, List.set_cons_zero, List.set_cons_succ, i64_w, i32_w]
              rfl
            refine pure_ (i := 4) (N := some 66) (v := ?_) (a' := ?_) #[true, true, true, true, true, false, false, false, false, false, false, false, false, false, false, false] rfl rfl (by kernel_rfl) (fun _ _ _ h => h) (Or.inl ⟨by rfl, ?_⟩) ?_ ?_
            rotate_left
            · intro w'
              go_simp
              with_reducible rfl
            rotate_left
            · simp only [Act.put, List.setIfInBounds_toArray, List.set_cons_zero, List.set_cons_succ, i64_w, i32_w]
              rfl
            refine pure_ (i := 5) (N := some 67) (v := ?_) (a' := ?_) #[true, true, true, true, true, true, false, false, false, false, false, false, false, false, false, false] rfl rfl (by kernel_rfl) (fun _ _ _ h => h) (Or.inl ⟨by rfl, ?_⟩) ?_ ?_
            rotate_left
            · intro w'
              go_simp
              with_reducible rfl
            rotate_left
            · simp only [Act.put, List.setIfInBounds_toArray, List.set_cons_zero, List.set_cons_succ, i64_w, i32_w]
              rfl
            refine pure_ (i := 6) (N := some 68) (v := ?_) (a' := ?_) #[true, true, true, true, true, true, true, false, false, false, false, false, false, false, false, false] rfl rfl (by kernel_rfl) (fun _ _ _ h => h) (Or.inl ⟨by rfl, ?_⟩) ?_ ?_
            rotate_left
            · intro w'
              go_simp
              with_reducible rfl
            rotate_left
            · simp only [Act.put, List.setIfInBounds_toArray, List.set_cons_zero, List.set_cons_succ, i64_w, i32_w]
              rfl
            refine take_ (i := 7) (N := some 69) (v := ?_) (a' := ?_) #[true, true, true, true, true, true, true, true, false, false, false, false, false, false, false, false] rfl rfl (by kernel_rfl) (fun _ _ _ h => h) (Or.inl ⟨by rfl, ?_⟩) hHeld ?_ ?_
            rotate_left
            · intro w' s0
              obtain ⟨s1, s2⟩ := s0
              go_simp
              with_reducible rfl
            rotate_left
            · simp only [Act.put, List.setIfInBounds_toArray, List.set_cons_zero, List.set_cons_succ, i64_w, i32_w]
              rfl
            refine pure_ (i := 8) (N := some 70) (v := ?_) (a' := ?_) #[true, true, true, true, true, true, true, true, true, false, false, false, false, false, false, false] rfl rfl (by kernel_rfl) (fun _ _ _ h => h) (Or.inl ⟨by rfl, ?_⟩) ?_ ?_
            rotate_left
            · intro w'
              go_simp
              with_reducible rfl
            rotate_left
            · simp only [Act.put, List.setIfInBounds_toArray, List.set_cons_zero, List.set_cons_succ, i64_w, i32_w]
              rfl
            refine pure_ (i := 9) (N := some 71) (v := ?_) (a' := ?_) #[true, true, true, true, true, true, true, true, true, true, false, false, false, false, false, false] rfl rfl (by kernel_rfl) (fun _ _ _ h => h) (Or.inl ⟨by rfl, ?_⟩) ?_ ?_
            rotate_left
            · intro w'
              go_simp
              with_reducible rfl
            rotate_left
            · simp only [Act.put, List.setIfInBounds_toArray, List.set_cons_zero, List.set_cons_succ, i64_w, i32_w]
              rfl
            refine pure_ (i := 10) (N := some 72) (v := ?_) (a' := ?_) #[true, true, true, true, true, true, true, true, true, true, true, false, false, false, false, false] rfl rfl (by kernel_rfl) (fun _ _ _ h => h) (Or.inl ⟨by rfl, ?_⟩) ?_ ?_
            rotate_left
            · intro w'
              go_simp
              with_reducible rfl
            rotate_left
            · simp only [Act.put, List.setIfInBounds_toArray, List.set_cons_zero, List.set_cons_succ, i64_w, i32_w]
              rfl
            refine take_ (i := 11) (N := some 73) (v := ?_) (a' := ?_) #[true, true, true, true, true, true, true, true, true, true, true, true, false, false, false, false] rfl rfl (by kernel_rfl) (fun _ _ _ h => h) (Or.inl ⟨by rfl, ?_⟩) hHeld ?_ ?_
            rotate_left
            · intro w' s0
              obtain ⟨s1, s2⟩ := s0
              go_simp
              with_reducible rfl
            rotate_left
            · simp only [Act.put, List.setIfInBounds_toArray, List.set_cons_zero, List.set_cons_succ, i64_w, i32_w]
              rfl
            refine pure_ (i := 12) (N := some 74) (v := ?_) (a' := ?_) #[true, true, true, true, true, true, true, true, true, true, true, true, true, false, false, false] rfl rfl (by kernel_rfl) (fun _ _ _ h => h) (Or.inl ⟨by rfl, ?_⟩) ?_ ?_
            rotate_left
            · intro w'
              go_simp
              with_reducible rfl
            rotate_left
            · simp only [Act.put, List.setIfInBounds_toArray, List.set_cons_zero, List.set_cons_succ, i64_w, i32_w]
              rfl
            refine last_ (i := 13) (N := none) #[true, true, true, true, true, true, true, true, true, true, true, true, true, true, false, false] rfl rfl (by kernel_rfl) (by decide) (fun K hK => ?_)
            refine skip_ (w1 := ?_) (by rfl) rfl ?_ ?_
            rotate_left
            · go_simp
              rfl
            refine hK.out _ _ ?_
            clear hK K
            refine pure_ (i := 14) (N := some 75) (v := ?_) (a' := ?_) #[true, true, true, true, true, true, true, true, true, true, true, true, true, true, true, false] rfl rfl (by kernel_rfl) (fun _ _ _ h => h) (Or.inl ⟨by rfl, ?_⟩) ?_ ?_
            rotate_left
            · intro w'
              go_simp
              with_reducible rfl
            rotate_left
            · simp only [Act.put, List.setIfInBounds_toArray, List.set_cons_zero, List.set_cons_succ, i64_w, i32_w]
              rfl
            refine last_ (i := 15) (N := none) #[true, true, true, true, true, true, true, true, true, true, true, true, true, true, true, true] rfl rfl (by kernel_rfl) (by decide) (fun K hK => ?_)
            refine skip_ (w1 := ?_) (by rfl) rfl ?_ ?_
            rotate_left
            · go_simp
              rfl
            refine hK.out _ _ ?_
            clear hK K
            refine done_ (by kernel_rfl) ?_
            clear hh2 hh3 hf2 hf3 hz2 HT
            have HT := HSW
            clear HSW
            try go_wp2_with (fail)
            obtain ⟨A4, c4, e4, _, hh4, hf4, _⟩ := HT.out.symm.drew.headA' HF3.out
            obtain ⟨A5, c5, e5, _, hh5, hf5, _⟩ := HT.out.symm.drew.headA' HF4.out
            have hsw := (HT.out.symm.drew.swapA e5 e4 HF4.out HF3.out).symm
            obtain ⟨z4, hz4⟩ := HT.out.symm.drew.swapCell c (.slice A4 s1.length c4) HF3.out
            have HSW := Aside0.mk hsw
            clear hsw HT
            generalize (w3.setCell ⟨g0, c, none⟩ (.slice A2 r1.length c2)).setCell ⟨g0, r, none⟩ (.slice A3 rc.length c3) = w4 at hh4 hh5 hf4 hf5 hz4 HSW ⊢
            refine start_ (n := 16) (S := fun w' => w'.cell? ⟨g1, r, none⟩ = some (.slice A4 s1.length c4) ∧ w'.cell? ⟨g1, c, none⟩ = some (.slice A5 s2.length c5)) (ds := [13, 15]) #[false, false, false, false, false, false, false, false, false, false, false, false, false, false, false, false] (by kernel_rfl) rfl rfl ⟨hh4, hh5⟩ (fun hHeld => ?_)
            generalize w4.drew = w5 at hh4 hh5 hf4 hf5 hz4 HSW hHeld ⊢
            refine pure_ (i := 0) (N := some 76) (v := ?_) (a' := ?_) #[true, false, false, false, false, false, false, false, false, false, false, false, false, false, false, false] rfl rfl (by kernel_rfl) (fun _ _ _ h => h) (Or.inl ⟨by rfl, ?_⟩) ?_ ?_
            rotate_left
            · intro w'
              go_simp
              with_reducible rfl
            rotate_left
            · simp only [Act.put, List.setIfInBounds_toArray, List.set_cons_zero, List.set_cons_succ, i64_w, i32_w]
              rfl
            refine pure_ (i := 1) (N := some 77) (v := ?_) (a' := ?_) #[true, true, false, false, false, false, false, false, false, false, false, false, false, false, false, false] rfl rfl (by kernel_rfl) (fun _ _ _ h => h) (Or.inl ⟨by rfl, ?_⟩) ?_ ?_
            rotate_left
            · intro w'
              go_simp
              with_reducible rfl
            rotate_left
            · simp only [Act.put, List.setIfInBounds_toArray, List.set_cons_zero, List.set_cons_succ, i64_w, i32_w]
              rfl
            refine pure_ (i := 2) (N := some 78) (v := ?_) (a' := ?_) #[true, true, true, false, false, false, false, false, false, false, false, false, false, false, false, false] rfl rfl (by kernel_rfl) (fun _ _ _ h => h) (Or.inl ⟨by rfl, ?_⟩) ?_ ?_
            rotate_left
            · intro w'
              go_simp
              with_reducible rfl
            rotate_left
            · simp only [Act.put, List.setIfInBounds_toArray, List.set_cons_zero, List.set_cons_succ, i64_w, i32_w]
              rfl
            refine pure_ (i := 3) (N := some 79) (v := ?_) (a' := ?_) #[true, true, true, true, false, false, false, false, false, false, false, false, false, false, false, false] rfl rfl (by kernel_rfl) (fun _ _ _ h => h) (Or.inl ⟨by rfl, ?_⟩) ?_ ?_
            rotate_left
            · intro w'
              go_simp
              with_reducible rfl
            rotate_left
            · simp only [Act.put, List.setIfInBounds_toArray, List.set_cons_zero, List.set_cons_succ, i64_w, i32_w]
              rfl
            refine pure_ (i := 4) (N := some 80) (v := ?_) (a' := ?_) #[true, true, true, true, true, false, false, false, false, false, false, false, false, false, false, false] rfl rfl (by kernel_rfl) (fun _ _ _ h => h) (Or.inl ⟨by rfl, ?_⟩) ?_ ?_
            rotate_left
            · intro w'
              go_simp
              with_reducible rfl
            rotate_left
            · simp only [Act.put, List.setIfInBounds_toArray, List.set_cons_zero, List.set_cons_succ, i64_w, i32_w]
              rfl
            refine pure_ (i := 5) (N := some 81) (v := ?_) (a' := ?_) #[true, true, true, true, true, true, false, false, false, false, false, false, false, false, false, false] rfl rfl (by kernel_rfl) (fun _ _ _ h => h) (Or.inl ⟨by rfl, ?_⟩) ?_ ?_
            rotate_left
            · intro w'
              go_simp
              with_reducible rfl
            rotate_left
            · simp only [Act.put, List.setIfInBounds_toArray, List.set_cons_zero, List.set_cons_succ, i64_w, i32_w]
              rfl
            refine pure_ (i := 6) (N := some 82) (v := ?_) (a' := ?_) #[true, true, true, true, true, true, true, false, false, false, false, false, false, false, false, false] rfl rfl (by kernel_rfl) (fun _ _ _ h => h) (Or.inl ⟨by rfl, ?_⟩) ?_ ?_
            rotate_left
            · intro w'
              go_simp
              with_reducible rfl
            rotate_left
            · simp only [Act.put, List.setIfInBounds_toArray, List.set_cons_zero, List.set_cons_succ, i64_w, i32_w]
              rfl
            refine take_ (i := 7) (N := some 83) (v := ?_) (a' := ?_) #[true, true, true, true, true, true, true, true, false, false, false, false, false, false, false, false] rfl rfl (by kernel_rfl) (fun _ _ _ h => h) (Or.inl ⟨by rfl, ?_⟩) hHeld ?_ ?_
            rotate_left
            · intro w' s0
              obtain ⟨s1, s2⟩ := s0
              go_simp
              with_reducible rfl
            rotate_left
            · simp only [Act.put, List.setIfInBounds_toArray, List.set_cons_zero, List.set_cons_succ, i64_w, i32_w]
              rfl
            refine pure_ (i := 8) (N := some 84) (v := ?_) (a' := ?_) #[true, true, true, true, true, true, true, true, true, false, false, false, false, false, false, false] rfl rfl (by kernel_rfl) (fun _ _ _ h => h) (Or.inl ⟨by rfl, ?_⟩) ?_ ?_
            rotate_left
            · intro w'
              go_simp
              with_reducible rfl
            rotate_left
            · simp only [Act.put, List.setIfInBounds_toArray, List.set_cons_zero, List.set_cons_succ, i64_w, i32_w]
              rfl
            refine pure_ (i := 9) (N := some 85) (v := ?_) (a' := ?_) #[true, true, true, true, true, true, true, true, true, true, false, false, false, false, false, false] rfl rfl (by kernel_rfl) (fun _ _ _ h => h) (Or.inl ⟨by rfl, ?_⟩) ?_ ?_
            rotate_left
            · intro w'
              go_simp
              with_reducible rfl
            rotate_left
            · simp only [Act.put, List.setIfInBounds_toArray, List.set_cons_zero, List.set_cons_succ, i64_w, i32_w]
              rfl
            refine pure_ (i := 10) (N := some 86) (v := ?_) (a' := ?_) #[true, true, true, true, true, true, true, true, true, true, true, false, false, false, false, false] rfl rfl (by kernel_rfl) (fun _ _ _ h => h) (Or.inl ⟨by rfl, ?_⟩) ?_ ?_
            rotate_left
            · intro w'
              go_simp
              with_reducible rfl
            rotate_left
            · simp only [Act.put, List.setIfInBounds_toArray, List.set_cons_zero, List.set_cons_succ, i64_w, i32_w]
              rfl
            refine take_ (i := 11) (N := some 87) (v := ?_) (a' := ?_) #[true, true, true, true, true, true, true, true, true, true, true, true, false, false, false, false] rfl rfl (by kernel_rfl) (fun _ _ _ h => h) (Or.inl ⟨by rfl, ?_⟩) hHeld ?_ ?_
            rotate_left
            · intro w' s0
              obtain ⟨s1, s2⟩ := s0
              go_simp
              with_reducible rfl
            rotate_left
            · simp only [Act.put, List.setIfInBounds_toArray, List.set_cons_zero, List.set_cons_succ, i64_w, i32_w]
              rfl
            refine pure_ (i := 12) (N := some 88) (v := ?_) (a' := ?_) #[true, true, true, true, true, true, true, true, true, true, true, true, true, false, false, false] rfl rfl (by kernel_rfl) (fun _ _ _ h => h) (Or.inl ⟨by rfl, ?_⟩) ?_ ?_
            rotate_left
            · intro w'
              go_simp
              with_reducible rfl
            rotate_left
            · simp only [Act.put, List.setIfInBounds_toArray, List.set_cons_zero, List.set_cons_succ, i64_w, i32_w]
              rfl
            refine last_ (i := 13) (N := none) #[true, true, true, true, true, true, true, true, true, true, true, true, true, true, false, false] rfl rfl (by kernel_rfl) (by decide) (fun K hK => ?_)
            refine skip_ (w1 := ?_) (by rfl) rfl ?_ ?_
            rotate_left
            · go_simp
              rfl
            refine hK.out _ _ ?_
            clear hK K
            refine pure_ (i := 14) (N := some 89) (v := ?_) (a' := ?_) #[true, true, true, true, true, true, true, true, true, true, true, true, true, true, true, false] rfl rfl (by kernel_rfl) (fun _ _ _ h => h) (Or.inl ⟨by rfl, ?_⟩) ?_ ?_
            rotate_left
            · intro w'
              go_simp
              with_reducible rfl
            rotate_left
            · simp only [Act.put, List.setIfInBounds_toArray, List.set_cons_zero, List.set_cons_succ, i64_w, i32_w]
              rfl
            refine last_ (i := 15) (N := none) #[true, true, true, true, true, true, true, true, true, true, true, true, true, true, true, true] rfl rfl (by kernel_rfl) (by decide) (fun K hK => ?_)
            refine skip_ (w1 := ?_) (by rfl) rfl ?_ ?_
            rotate_left
            · go_simp
              rfl
            refine hK.out _ _ ?_
            clear hK K
            refine done_ (by kernel_rfl) ?_
            clear hh4 hh5 hf4 hf5
            have HT := HSW
            clear HSW
            go_wp2_with (fail)
            refine (clears_calls w _ _ _ g0 k0 _ (swapL q.1 c r) g1 k1 _ (swapL q.2 c r) n nx c HT.out HCN.out HN.out.1 HN.out.2 (HS.out.1.swap HCN.out HRN.out) (HS.out.2.swap HCN.out HRN.out)).mono ?_
            rintro e w6 ⟨rfl, hT6⟩
            have HT6 := Aside0.mk hT6
            have HS6 := Aside0.mk (clearsF_sh (HS.out.1.swap HCN.out HRN.out) (HS.out.2.swap (r := r) HCN.out HRN.out) HCN.out)
            have HC6 := Aside0.mk (show cols n (n - (c + 1)) (c + 1) (clearsF n c (swapL q.1 c r) (swapL q.2 c r)) = R by
              rw [← HCO.out, show n - c = (n - (c + 1)) + 1 by have := HCN.out; omega]
              exact (cols_some (by rw [show n - c = n - c from rfl]; exact HF.out.symm)).symm)
            clear hT6 HT HS HCO
            go_wp2
            go_roundw
            case rel => exact ⟨c + 1, HCN.out, by rw [hwc.out], _, _, clearsF n c (swapL q.1 c r) (swapL q.2 c r), HT6, HS6, HC6⟩
            case measure => exact meas hwc.out HCN.out
        · obtain rfl : r = n := by omega
          have hnone : R = none := by
            have h1 := HF.out
            rw [Nat.sub_self] at h1
            rw [← HCO.out, show r - c = (r - c - 1) + 1 by have := HCN.out; omega]
            exact cols_none h1.symm
          subst hnone
          go_wp2
          (try simp only [Exit.noGoto_ret, Exit.noGoto, Exit.inBlock, Exit.then])
          go_ret2
          exact ⟨rfl, HT.out.B⟩
    · obtain rfl : c = n := by omega
      have hsome : R = some q.2 := by
        rw [← HCO.out, Nat.sub_self]; rfl
      subst hsome
      have HX := Aside0.mk (Mx.to_S (Mx.mono (ok' := fun _ => True) HT.out.X (fun _ _ => trivial)))
      rw [HS.out.2.len] at HX
      have HB := Aside0.mk HT.out.B
      go_wp2
      (try simp only [Exit.noGoto_ret, Exit.noGoto, Exit.inBlock, Exit.then])
      go_ret2
      exact ⟨⟨_, rfl, HX.out⟩, HB.out⟩
end Go.Proofs.Ytdhajlkiiphlfaa.Solve
