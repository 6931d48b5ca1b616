/- A part of a proof: see the text's own remark. No conditions beyond its theorems' own. -/
import Derived.Test.YtdleoljbnjjdgaaLo04
/-! Book.ends, walked -/
namespace Go.Proofs.Ytdleoljbnjjdgaa.Bok
open Go.RowKit Go.Proofs.Ytdleoljbnjjdgaa.QCFieldCauchys Go.Proofs.YtdleoljbnjjdgaaW.PrintWords Go.Proofs.YtdleoljbnjjdgaaW.PrintLast Go.Proofs.YtdleoljbnjjdgaaW.PrintMore
set_option linter.unusedVariables false
set_option linter.unusedSimpArgs false
/-- rows, as far as i full of their marks; of the i-th, k places -/
def contI (ml : List (List Int)) (i : Nat) : List (List Int) := (List.range ml.length).map fun t => if t < i then List.replicate (ml.getD t []).length (mrk t) else ml.getD t []
def contK (ml : List (List Int)) (i k : Nat) : List (List Int) := (contI ml i).set i (List.replicate k (mrk i) ++ (ml.getD i []).drop k)
theorem contI_len (ml : List (List Int)) (i : Nat) : (contI ml i).length = ml.length := by unfold contI; rw [List.length_map, List.length_range]
theorem contI_get (ml : List (List Int)) (i : Nat) {t : Nat} (ht : t < ml.length) : (contI ml i)[t]? = some (if t < i then List.replicate (ml.getD t []).length (mrk t) else ml.getD t []) := by
  unfold contI; rw [List.getElem?_map, List.getElem?_range ht]; rfl
theorem contI_zero (ml : List (List Int)) : contI ml 0 = ml := by
  apply List.ext_getElem?
  intro t
  by_cases ht : t < ml.length
  · rw [contI_get ml 0 ht, if_neg (by omega), getD_get ht]
  · rw [List.getElem?_eq_none (by rw [contI_len]; omega), List.getElem?_eq_none (by omega)]
theorem contK_zero (ml : List (List Int)) {i : Nat} (hi : i < ml.length) : contK ml i 0 = contI ml i := by
  unfold contK
  rw [List.replicate_zero, List.nil_append, List.drop_zero]
  apply List.ext_getElem?
  intro t
  by_cases e : i = t
  · subst e
    rw [List.getElem?_set_self (by rw [contI_len]; exact hi), contI_get ml i hi, if_neg (by omega)]
  · rw [List.getElem?_set_ne e]
theorem contK_get (ml : List (List Int)) {i : Nat} (k : Nat) (hi : i < ml.length) : (contK ml i k)[i]? = some (List.replicate k (mrk i) ++ (ml.getD i []).drop k) := by
  unfold contK; rw [List.getElem?_set_self (by rw [contI_len]; exact hi)]
theorem contK_set (ml : List (List Int)) {i k : Nat} (hk : k < (ml.getD i []).length) : (contK ml i k).set i ((List.replicate k (mrk i) ++ (ml.getD i []).drop k).set k (mrk i)) = contK ml i (k + 1) := by
  unfold contK
  rw [List.set_set, rep_set _ _ hk]
theorem contK_end (ml : List (List Int)) {i : Nat} (hi : i < ml.length) : contK ml i (ml.getD i []).length = contI ml (i + 1) := by
  apply List.ext_getElem?
  intro t
  by_cases ht : t < ml.length
  · by_cases e : i = t
    · subst e
      rw [contK_get ml _ hi, contI_get ml _ hi, if_pos (by omega), List.drop_of_length_le (Nat.le_refl _), List.append_nil]
    · unfold contK
      rw [List.getElem?_set_ne e, contI_get ml _ ht, contI_get ml _ ht]
      by_cases h : t < i
      · rw [if_pos h, if_pos (by omega)]
      · rw [if_neg h, if_neg (by omega)]
  · unfold contK
    rw [List.getElem?_eq_none (by rw [List.length_set, contI_len]; omega), List.getElem?_eq_none (by rw [contI_len]; omega)]
theorem contI_end (ml : List (List Int)) : contI ml ml.length = (List.range (ml.map List.length).length).map fun t => List.replicate ((ml.map List.length).getD t 0) (mrk t) := by
  unfold contI
  rw [List.length_map]
  refine List.map_congr_left fun t ht => ?_
  have hlt := List.mem_range.1 ht
  rw [if_pos hlt]
  congr 1
  rw [List.getD_eq_getElem?_getD, List.getD_eq_getElem?_getD, List.getElem?_map, List.getElem?_eq_getElem hlt]; rfl
theorem mrk_in (i : Nat) : 0 ≤ mrk i ∧ mrk i < 256 := by unfold mrk; omega
set_option maxHeartbeats 800000 in
set_option maxRecDepth 100000 in
theorem ends_calls (w0 w : World) (gb : Nat) (vl vw : Value) (hl hw : List Hdr) (ml : List (List Int)) (h : Bo w0 w gb vl vw hl hw ml) (ha : Al w w0.heap.size hl ml) (hn : ml.length ≤ 2000) (hr : ∀ r ∈ ml, r.length ≤ 1000) (hlw : hw.length = ml.length) :
    Calls Try.prog 25 #[.pointer (some ⟨gb, 0, none⟩)] w fun e w' => e = .returned (.bool true) ∧ Below w0.heap.size w0 w' ∧ w.heap.size ≤ w'.heap.size ∧ ∀ k, k < w.heap.size → k ≠ gb → (∀ c f, w.heap[k]? ≠ some (.cells c 5 f)) → w'.heap[k]? = w.heap[k]? := by
  have HB := Aside0.mk h
  have HA := Aside0.mk ha
  have HN := Aside0.mk hn
  have HR := Aside0.mk hr
  have HLW := Aside0.mk hlw
  have HLL := Aside0.mk ha.len
  obtain ⟨Al1, cl, el⟩ := own_form h.ol
  rw [ha.len] at el
  subst el
  obtain ⟨Aw1, cw, ew⟩ := own_form h.ow
  rw [hlw] at ew
  subst ew
  clear h ha hn hr hlw
  go_enter Try.func25, Try.ntmps25
  go_wp2
  go_loopw [3] (fun v3 wr => ∃ i : Nat, i ≤ ml.length ∧ v3 = .int .i64 (i : Int) ∧ Aside0 (Below w.heap.size w wr)) (fun v3 _ => ml.length - (intOf v3).toNat)
  case atStart => exact ⟨0, Nat.zero_le _, rfl, ⟨by repeat (first | (with_reducible first | exact Below.refl _ _ | apply below_alloc | apply pw_below_drewN | apply below_drew1))⟩⟩
  case round =>
    obtain ⟨i, hi, rfl, HBW⟩ := hrel
    have hb2 := HB.out.moved HBW.out
    have hc0 := hb2.cell0
    have hc1 := hb2.cell1
    by_cases hlt : i < ml.length
    · --{ 1
      have hd1 : decide ((i : Int) < (ml.length : Int)) = true := decide_eq_true (by omega)
      have hd1' : decide (i < ml.length) = true := decide_eq_true hlt
      have ha2 := HA.out.same5 (Same5.of_below HBW.out)
      obtain ⟨A1, c1, g1, o1⟩ := ha2.form hlt
      obtain ⟨gl, el⟩ := own_some hb2.ol (by omega)
      obtain ⟨gw, ew⟩ := own_some hb2.ow (by omega)
      subst el
      subst ew
      have hol := hb2.ol
      have how := hb2.ow
      rw [HLL.out] at hol
      rw [HLW.out] at how
      have x1 := (own_at_of (d := ((none, 0, 0) : Hdr)) hol (i : Int) (by omega) (by omega)).1
      have x2 := (own_at_of (d := ((none, 0, 0) : Hdr)) how (i : Int) (by omega) (by omega)).1
      rw [Int.toNat_natCast, rdOf, Int.toNat_natCast] at x1 x2
      rw [List.getD_eq_getElem?_getD, g1] at x1
      have hwl : i < hw.length := by rw [HLW.out]; exact hlt
      have hrw := hb2.rw.row i _ (ml.getD i []) (getD_get (d := ((none, 0, 0) : Hdr)) hwl) (getD_get hlt)
      generalize hw.getD i (none, 0, 0) = hd at *
      obtain ⟨A2, n2, c2⟩ := hd
      obtain rfl : n2 = (ml.getD i []).length := hrw.1
      have y1 : wr.cell? ⟨gl, i, none⟩ = some (.slice A1 (ml.getD i []).length c1) := x1
      have y2 : wr.cell? ⟨gw, i, none⟩ = some (.slice A2 (ml.getD i []).length c2) := x2
      have k1 := fun n => Kd.C_string (P := Try.prog) (c := c1) Try.underlying29 Try.underlying5 Try.underlying9 (Kd.C_drewN (row5_own o1 (by have := HR.out _ (getD_mem (d := []) hlt); omega)).1.toC n)
      have k2 := fun n => Kd.C_string (P := Try.prog) (c := c2) Try.underlying29 Try.underlying5 Try.underlying9 (Kd.C_drewN hrw.toC n)
      generalize strOfNums (ml.getD i []) = s at *
      generalize (ml.getD i []).length = n at *
      have HLT := Aside0.mk hlt
      have HW1 := Aside0.mk (wr1 (i := i) hlt (by have := HN.out; omega))
      have hli : (i : Int) < (ml.length : Int) := by omega
      clear hlt hi ha2 o1 g1 hol how x1 x2 hrw hwl hb2
      go_wp2
      go_quiet (fail)
      clear k1 k2 y1 y2 hc0 hc1
      go_wp2
      go_roundw
      case rel => exact ⟨i + 1, HLT.out, by rw [HW1.out], ⟨pw_below_drewN HBW.out _⟩⟩
      case measure => exact meas HW1.out HLT.out
      --}
    · have hd1 : decide ((i : Int) < (ml.length : Int)) = false := decide_eq_false (by omega)
      have hd1' : decide (i < ml.length) = false := decide_eq_false hlt
      clear hlt hi
      go_wp2
      have HE : Aside0 (Be w0 w wr gb (.slice Al1 ml.length cl) (.slice Aw1 ml.length cw) hl) := ⟨HB.out.be.moved HBW.out⟩
      have HL : Aside0 (Al wr w0.heap.size hl (contI ml 0)) := ⟨by rw [contI_zero]; exact HA.out.same5 (Same5.of_below HBW.out)⟩
      clear hb2 hc0 hc1 HA
      have HGB := Aside0.mk HB.out.gbt
      have HB00 := Aside0.mk HB.out.base
      clear HB
      go_loopw [4] (fun v4 wr => ∃ i : Nat, i ≤ ml.length ∧ v4 = .int .i64 (i : Int) ∧ Aside0 (Be w0 w wr gb (.slice Al1 ml.length cl) (.slice Aw1 ml.length cw) hl) ∧ Aside0 (Al wr w0.heap.size hl (contI ml i))) (fun v4 _ => ml.length - (intOf v4).toNat)
      case atStart => exact ⟨0, Nat.zero_le _, rfl, HE, HL⟩
      case round =>
        clear HE HL
        obtain ⟨i, hi, rfl, HE, HL⟩ := hrel
        have hc0 := HE.out.cell0
        by_cases hlt : i < ml.length
        · have hd2 : decide ((i : Int) < (ml.length : Int)) = true := decide_eq_true (by omega)
          have hd2' : decide (i < ml.length) = true := decide_eq_true hlt
          have HLT := Aside0.mk hlt
          have HW1 := Aside0.mk (wr1 (i := i) hlt (by have := HN.out; omega))
          have hli : (i : Int) < (ml.length : Int) := by omega
          obtain ⟨n, hn⟩ : ∃ n, n = (ml.getD i []).length := ⟨_, rfl⟩
          have HNI := Aside0.mk hn
          have HRI : Aside0 (n ≤ 1000) := ⟨by rw [hn]; exact HR.out _ (getD_mem (d := []) hlt)⟩
          clear hlt hi hn
          have ha0 := HE.out.cell0
          go_wp2
          clear hc0 ha0
          have HL2 : Aside0 (Al wr w0.heap.size hl (contK ml i 0)) := ⟨by rw [contK_zero _ HLT.out]; exact HL.out⟩
          clear HL
          go_loopw [5] (fun v5 wr => ∃ k : Nat, k ≤ n ∧ v5 = .int .i64 (k : Int) ∧ Aside0 (Be w0 w wr gb (.slice Al1 ml.length cl) (.slice Aw1 ml.length cw) hl) ∧ Aside0 (Al wr w0.heap.size hl (contK ml i k))) (fun v5 _ => n - (intOf v5).toNat)
          case atStart => exact ⟨0, Nat.zero_le _, rfl, HE, HL2⟩
          case round =>
            clear HE HL2
            obtain ⟨k, hk, rfl, HE, HL2⟩ := hrel
            have hc0 := HE.out.cell0
            obtain ⟨gl, el⟩ := own_some HE.out.ol (by have := HLT.out; omega)
            subst el
            have hil : i < (contK ml i k).length := by unfold contK; rw [List.length_set, contI_len]; exact HLT.out
            obtain ⟨A1, ci, g1, o1⟩ := HL2.out.form hil
            have hgK : (contK ml i k).getD i [] = List.replicate k (mrk i) ++ (ml.getD i []).drop k := by rw [List.getD_eq_getElem?_getD, contK_get ml k HLT.out]; rfl
            rw [hgK] at g1 o1
            have hk' : k ≤ (ml.getD i []).length := by rw [← HNI.out]; exact hk
            rw [rep_len _ _ hk', ← HNI.out] at g1
            have hol := HE.out.ol
            rw [HLL.out] at hol
            have x1 := (own_at_of (d := ((none, 0, 0) : Hdr)) hol (i : Int) (by omega) (by omega)).1
            rw [Int.toNat_natCast, rdOf, Int.toNat_natCast, List.getD_eq_getElem?_getD, g1] at x1
            have y1 : wr.cell? ⟨gl, i, none⟩ = some (.slice A1 n ci) := x1
            by_cases hkl : k < n
            · --{ 2
              have hd3 : decide ((k : Int) < (n : Int)) = true := decide_eq_true (by omega)
              have hd3' : decide (k < n) = true := decide_eq_true hkl
              obtain ⟨gi, e1⟩ := own_some o1 (by rw [rep_len _ _ hk', ← HNI.out]; omega)
              subst e1
              have o1' : wr.ownsRow w0.heap.size 5 1 (.slice (some ⟨gi, 0, none⟩) n ci) n (nums .u8 (List.replicate k (mrk i) ++ (ml.getD i []).drop k)) := by have := o1; rwa [rep_len _ _ hk', ← HNI.out] at this
              have hx := own_at o1' (k : Int) (by omega) (by omega)
              rw [Int.toNat_natCast] at hx
              obtain ⟨xk, hxk0⟩ : ∃ xk, rd (List.replicate k (mrk i) ++ (ml.getD i []).drop k) (k : Int) = xk := ⟨_, rfl⟩
              rw [hxk0] at hx
              obtain ⟨hxk, hfk⟩ := hx
              have hset := HL2.out.set g1 (contK_get ml k HLT.out) k (mrk i)
              rw [contK_set ml (by rw [← HNI.out]; exact hkl)] at hset
              have hbe := HE.out.bytes hset.2.1 (fun j hj => by obtain rfl := Option.some.inj hj; exact ⟨own_base o1' gi rfl, hset.2.2⟩)
              have HSET := Aside0.mk hset.1
              have HBE := Aside0.mk hbe
              have HKL := Aside0.mk hkl
              have HWK := Aside0.mk (wr1 (i := k) hkl (by have := HRI.out; omega))
              have hki : (k : Int) < (n : Int) := by omega
              have hmi := (mrk_in i)
              clear hkl hk hk' hil o1 g1 hgK hol x1 o1' hxk0 hset hbe
              go_wp2
              refine start_ (n := 12) (S := fun w' => ∃ n, w' = wr.drewN n) (ds := [11]) #[false, false, false, false, false, false, false, false, false, false, false, false] (by kernel_rfl) rfl rfl ⟨1, rfl⟩ (fun hHeld => ?_)
              refine pure_ (i := 0) (N := some 63) (v := ?_) (a' := ?_) #[true, false, false, false, false, false, false, false, false, false, false, false] rfl rfl (by kernel_rfl) (fun _ _ _ h => h) (Or.inl ⟨by rfl, ?_⟩) ?_ ?_
              rotate_left
              · intro w'
                go_simp
                with_reducible rfl
              rotate_left
              · simp only [Act.put, List.setIfInBounds_toArray, List.set_cons_zero, List.set_cons_succ, i64_w, i32_w]
                rfl
              refine pure_ (i := 1) (N := some 64) (v := ?_) (a' := ?_) #[true, true, false, false, false, false, false, false, false, false, false, false] rfl rfl (by kernel_rfl) (fun _ _ _ h => h) (Or.inl ⟨by rfl, ?_⟩) ?_ ?_
              rotate_left
              · intro w'
                go_simp
                with_reducible rfl
              rotate_left
              · simp only [Act.put, List.setIfInBounds_toArray, List.set_cons_zero, List.set_cons_succ, i64_w, i32_w]
                rfl
              refine pure_ (i := 2) (N := some 65) (v := ?_) (a' := ?_) #[true, true, true, false, false, false, false, false, false, false, false, false] rfl rfl (by kernel_rfl) (fun _ _ _ h => h) (Or.inl ⟨by rfl, ?_⟩) ?_ ?_
              rotate_left
              · intro w'
                go_simp
                with_reducible rfl
              rotate_left
              · simp only [Act.put, List.setIfInBounds_toArray, List.set_cons_zero, List.set_cons_succ, i64_w, i32_w]
                rfl
              refine take_ (i := 3) (N := some 66) (v := ?_) (a' := ?_) #[true, true, true, true, false, false, false, false, false, false, false, false] rfl rfl (by kernel_rfl) (fun _ _ _ h => h) (Or.inl ⟨by rfl, ?_⟩) hHeld ?_ ?_
              rotate_left
              · intro w' hS
                obtain ⟨dn, rfl⟩ := hS
                have a0 : (wr.drewN dn).cell? ⟨gb, 0, none⟩ = some (.slice (some ⟨gl, 0, none⟩) ml.length cl) := hc0
                have a1 : (wr.drewN dn).cell? ⟨gl, i, none⟩ = some (.slice (some ⟨gi, 0, none⟩) n ci) := y1
                go_simp
                with_reducible rfl
              rotate_left
              · simp only [Act.put, List.setIfInBounds_toArray, List.set_cons_zero, List.set_cons_succ, i64_w, i32_w]
                rfl
              refine pure_ (i := 4) (N := some 67) (v := ?_) (a' := ?_) #[true, true, true, true, true, false, false, false, false, false, false, false] rfl rfl (by kernel_rfl) (fun _ _ _ h => h) (Or.inl ⟨by rfl, ?_⟩) ?_ ?_
              rotate_left
              · intro w'
                go_simp
                with_reducible rfl
              rotate_left
              · simp only [Act.put, List.setIfInBounds_toArray, List.set_cons_zero, List.set_cons_succ, i64_w, i32_w]
                rfl
              refine pure_ (i := 5) (N := some 68) (v := ?_) (a' := ?_) #[true, true, true, true, true, true, false, false, false, false, false, false] rfl rfl (by kernel_rfl) (fun _ _ _ h => h) (Or.inl ⟨by rfl, ?_⟩) ?_ ?_
              rotate_left
              · intro w'
                go_simp
                with_reducible rfl
              rotate_left
              · simp only [Act.put, List.setIfInBounds_toArray, List.set_cons_zero, List.set_cons_succ, i64_w, i32_w]
                rfl
              refine take_ (i := 6) (N := some 69) (v := ?_) (a' := ?_) #[true, true, true, true, true, true, true, false, false, false, false, false] rfl rfl (by kernel_rfl) (fun _ _ _ h => h) (Or.inl ⟨by rfl, ?_⟩) hHeld ?_ ?_
              rotate_left
              · intro w' hS
                obtain ⟨dn, rfl⟩ := hS
                have a0 : (wr.drewN dn).cell? ⟨gb, 0, none⟩ = some (.slice (some ⟨gl, 0, none⟩) ml.length cl) := hc0
                have a1 : (wr.drewN dn).cell? ⟨gl, i, none⟩ = some (.slice (some ⟨gi, 0, none⟩) n ci) := y1
                go_simp
                with_reducible rfl
              rotate_left
              · simp only [Act.put, List.setIfInBounds_toArray, List.set_cons_zero, List.set_cons_succ, i64_w, i32_w]
                rfl
              refine pure_ (i := 7) (N := some 70) (v := ?_) (a' := ?_) #[true, true, true, true, true, true, true, true, false, false, false, false] rfl rfl (by kernel_rfl) (fun _ _ _ h => h) (Or.inl ⟨by rfl, ?_⟩) ?_ ?_
              rotate_left
              · intro w'
                go_simp
                with_reducible rfl
              rotate_left
              · simp only [Act.put, List.setIfInBounds_toArray, List.set_cons_zero, List.set_cons_succ, i64_w, i32_w]
                rfl
              refine pure_ (i := 8) (N := some 71) (v := ?_) (a' := ?_) #[true, true, true, true, true, true, true, true, true, false, false, false] rfl rfl (by kernel_rfl) (fun _ _ _ h => h) (Or.inl ⟨by rfl, ?_⟩) ?_ ?_
              rotate_left
              · intro w'
                go_simp
                with_reducible rfl
              rotate_left
              · simp only [Act.put, List.setIfInBounds_toArray, List.set_cons_zero, List.set_cons_succ, i64_w, i32_w]
                rfl
              refine one_ (i := 9) (N := some 72) #[true, true, true, true, true, true, true, true, true, true, false, false] rfl rfl (by kernel_rfl) (by decide) (fun K hK => ?_)
              refine goes_ Try.func38 (by kernel_rfl) rfl #[.int .i64 (i : Int)] (by rfl) rfl rfl (by simp only [List.map_toArray, List.map_cons, List.map_nil]; rfl) ?_
              refine (dailieslaw04_mark.calls (i : Int) (mrk i) _ (mark_f i)).mono ?_
              rintro e w8 ⟨rfl, ⟨nd, rfl⟩⟩
              refine ⟨_, rfl, ?_⟩
              refine hK.out _ _ ⟨1 + nd, World.drewN_drewN wr 1 nd⟩ (fun hHeld => ?_)
              clear hK K
              refine norm_ (a' := ?_) ?_ ?_
              rotate_left
              · show Act.put _ (some 72) _ = _
                simp only [Act.put, List.setIfInBounds_toArray, List.set_cons_zero, List.set_cons_succ, i64_w, i32_w]
                rfl
              refine pure_ (i := 10) (N := some 73) (v := ?_) (a' := ?_) #[true, true, true, true, true, true, true, true, true, true, true, false] rfl rfl (by kernel_rfl) (fun _ _ _ h => h) (Or.inl ⟨by rfl, ?_⟩) ?_ ?_
              rotate_left
              · intro w'
                go_simp
                with_reducible rfl
              rotate_left
              · simp only [Act.put, List.setIfInBounds_toArray, List.set_cons_zero, List.set_cons_succ, i64_w, i32_w]
                rfl
              refine last_ (i := 11) (N := none) #[true, true, true, true, true, true, true, true, true, true, true, true] rfl rfl (by kernel_rfl) (by decide) (fun K hK => ?_)
              have z1 : (wr.drew.drewN nd).cell? ⟨gi, k, none⟩ = some (.int .u8 xk) := hxk
              have z2 : (wr.drew.drewN nd).frozen? ⟨gi, k, none⟩ = false := hfk
              go_simp
              refine hK.out _ _ ?_
              clear hK K
              refine done_ (by kernel_rfl) ?_
              have HSET2 : Aside0 (Al ((wr.drewN (1 + nd)).setCell ⟨gi, k, none⟩ (.int .u8 (mrk i))) w0.heap.size hl (contK ml i (k + 1))) := ⟨by exact HSET.out.same5 (Same5.refl _)⟩
              have HBE2 : Aside0 (Be w0 w ((wr.drewN (1 + nd)).setCell ⟨gi, k, none⟩ (.int .u8 (mrk i))) gb (.slice (some ⟨gl, 0, none⟩) ml.length cl) (.slice Aw1 ml.length cw) hl) := ⟨by exact HBE.out.moved (pw_below_drewN (Below.refl _ _) (1 + nd))⟩
              clear hHeld z1 z2 hxk hfk y1 hc0 HSET HBE HL2 HE
              go_wp2
              go_roundw
              case rel => exact ⟨k + 1, HKL.out, by rw [HWK.out], HBE2, HSET2⟩
              case measure => exact meas HWK.out HKL.out
              --}
            · --{ 3
              have hd3 : decide ((k : Int) < (n : Int)) = false := decide_eq_false (by omega)
              have hd3' : decide (k < n) = false := decide_eq_false hkl
              have hke : k = (ml.getD i []).length := by have := HNI.out; omega
              have HL3 : Aside0 (Al wr w0.heap.size hl (contI ml (i + 1))) := ⟨by rw [← contK_end ml HLT.out, ← hke]; exact HL2.out⟩
              clear hkl hk hk' hil o1 g1 hgK hol x1 hke HL2
              go_wp2
              clear y1 hc0
              go_roundw
              case rel => exact ⟨i + 1, HLT.out, by rw [HW1.out], HE, HL3⟩
              case measure => exact meas HW1.out HLT.out
              --}
        · have hd2 : decide ((i : Int) < (ml.length : Int)) = false := decide_eq_false (by omega)
          have hd2' : decide (i < ml.length) = false := decide_eq_false hlt
          obtain rfl : i = ml.length := by omega
          rw [contI_end] at HL
          clear hlt hi
          go_wp2
          clear hc0
          obtain ⟨L, hfs, hmem⟩ := HL.out.fs
          have HF := Aside0.mk hfs
          have HM0 := Aside0.mk hmem
          clear hfs hmem HL
          have HNS : Aside0 (∀ t, t < ml.length → (ml.map List.length).getD t 0 = (ml.getD t []).length) := ⟨fun t ht => by rw [List.getD_eq_getElem?_getD, List.getD_eq_getElem?_getD, List.getElem?_map, List.getElem?_eq_getElem ht]; rfl⟩
          have HLO : Aside0 (Lo w0 w wr gb (.slice Al1 ml.length cl) (.slice Aw1 ml.length cw) hl (ml.map List.length) (.slice none 0 0) [] 0 L) := ⟨⟨HE.out, HF.out, HM0.out, ⟨rfl, .inl ⟨rfl, rfl⟩⟩, rfl, fun s hd hs => by simp at hs, Classical.em _, fun k hk => by cases hk⟩⟩
          clear HE HF HM0
          go_loopw [6, 7] (fun v6 v7 wr => ∃ (i : Nat) (vx : Value) (lg : List Hdr) (L : List (Nat × Value × Nat)), i ≤ ml.length ∧ vx = v6 ∧ v7 = .int .i64 (i : Int) ∧ Aside0 (Lo w0 w wr gb (.slice Al1 ml.length cl) (.slice Aw1 ml.length cw) hl (ml.map List.length) vx lg i L)) (fun _ v7 _ => ml.length - (intOf v7).toNat)
          case atStart => exact ⟨0, _, [], L, Nat.zero_le _, rfl, rfl, HLO⟩
          case round =>
            clear HLO
            obtain ⟨i, vx, lg, L, hi, rfl, rfl, HLO⟩ := hrel
            have hc0 := HLO.out.be.cell0
            by_cases hlt : i < ml.length
            · --{ 4
              have hd3 : decide ((i : Int) < (ml.length : Int)) = true := decide_eq_true (by omega)
              have hd3' : decide (i < ml.length) = true := decide_eq_true hlt
              have HLT := Aside0.mk hlt
              have HW1 := Aside0.mk (wr1 (i := i) hlt (by have := HN.out; omega))
              have hli : (i : Int) < (ml.length : Int) := by omega
              obtain ⟨gl, el⟩ := own_some HLO.out.be.ol (by omega)
              subst el
              have hol := HLO.out.be.ol
              rw [HLL.out] at hol
              have x1 := (own_at_of (d := ((none, 0, 0) : Hdr)) hol (i : Int) (by omega) (by omega)).1
              have hil : i < hl.length := by rw [HLL.out]; exact hlt
              have hg0 := getD_get (d := ((none, 0, 0) : Hdr)) hil
              rw [Int.toNat_natCast, rdOf, Int.toNat_natCast] at x1
              have hm0 := HLO.out.m0 i _ hg0
              have hns := HNS.out i hlt
              have hrl := HR.out _ (getD_mem (d := []) hlt)
              rw [← hns] at hrl
              generalize hl.getD i (none, 0, 0) = hd at *
              obtain ⟨A1, n1, c1⟩ := hd
              generalize (ml.map List.length).getD i 0 = n at *
              have hn1 : n1 = n := by
                obtain ⟨A', c', e⟩ := own_form (HLO.out.fs.own _ hm0)
                have e' : Value.slice A1 n1 c1 = .slice A' n c' := e
                injection e' with e1 e2 e3
              subst hn1
              have y1 : wr.cell? ⟨gl, i, none⟩ = some (.slice A1 n1 c1) := x1
              have HM := Aside0.mk (show (i, Value.slice A1 n1 c1, n1) ∈ L from hm0)
              have HG0 := Aside0.mk hg0
              have HRL := Aside0.mk hrl
              have hmi := mrk_in i
              clear hlt hi hol x1 hil hg0 hm0 hns hrl
              go_wp2
              clear y1 hc0
              go_loopw [8, 9] (fun v8 v9 wr => ∃ (k : Nat) (vg : Value) (L : List (Nat × Value × Nat)), k ≤ 20 ∧ vg = v8 ∧ v9 = .int .i64 (k : Int) ∧ Aside0 (Lo w0 w wr gb (.slice (some ⟨gl, 0, none⟩) ml.length cl) (.slice Aw1 ml.length cw) hl (ml.map List.length) vx lg i L) ∧ Aside0 ((i, vg, n1 + k) ∈ L) ∧ Aside0 ((i, Value.slice A1 n1 c1, n1) ∈ L)) (fun _ v9 _ => 20 - (intOf v9).toNat)
              case atStart => exact ⟨0, _, L, Nat.zero_le _, rfl, rfl, HLO, HM, HM⟩
              case round =>
                clear HLO HM
                obtain ⟨k, vg, L, hk, rfl, rfl, HLO, HMG, HM⟩ := hrel
                by_cases hkl : k < 20
                · --{ 5
                  have hd4 : decide ((k : Int) < 20) = true := decide_eq_true (by omega)
                  have hd4' : decide (k < 20) = true := decide_eq_true hkl
                  have HKL := Aside0.mk hkl
                  have HWK := Aside0.mk (wr1 (i := k) hkl (by omega))
                  clear hkl hk
                  go_wp2_with (first
                    | (go_at_call 38; (with_reducible refine (dailieslaw04_mark.calls (i : Int) (mrk i) _ (mark_f i)).mono ?_); rintro e w4 ⟨rfl, ⟨nd, rfl⟩⟩; have HLO4 := Aside0.mk (HLO.out.moved (pw_below_drewN (Below.refl _ _) nd)))
                    | ((with_reducible refine gate_builtin (b := .append) (xs := #[.tmp 94, .tmp 97]) rfl ?_); at_builtin; refine print_append_mark (w0 := w0) w0.heap.size rfl (.tmp 94) (.tmp 97) 29 5 (.int .u8 0) 1 rfl Try.underlying29 info5 rfl (by decide) vg (n1 + k) (.int .u8 (mrk i)) ?q1 ?q2 ?q3 (HLO4.out.fs.own _ HMG.out) HLO4.out.be.below HLO4.out.be.base ?q4 ?_; (case q3 => exact rfl); (case q4 => have := HRL.out; have := HKL.out; omega); (case q1 => rfl); (case q2 => rfl); intro y8 w6 hown hbb hff hat; have HLO6 := Aside0.mk (HLO4.out.grow HMG.out hown hff hat); clear hown hbb hff hat))
                  go_roundw
                  case rel => exact ⟨k + 1, _, _, HKL.out, rfl, by rw [HWK.out], HLO6, ⟨List.mem_cons_self⟩, ⟨List.mem_cons_of_mem _ HM.out⟩⟩
                  case measure => exact meas HWK.out HKL.out
                  --}
                · have hd4 : decide ((k : Int) < 20) = false := decide_eq_false (by omega)
                  have hd4' : decide (k < 20) = false := decide_eq_false hkl
                  have HK20 := Aside0.mk hk
                  have hc0 := HLO.out.be.cell0
                  have hol := HLO.out.be.ol
                  rw [HLL.out] at hol
                  have x1 := (own_at_of (d := ((none, 0, 0) : Hdr)) hol (i : Int) (by omega) (by have := HLT.out; omega)).1
                  rw [Int.toNat_natCast, rdOf, Int.toNat_natCast, List.getD_eq_getElem?_getD, HG0.out] at x1
                  have y1 : wr.cell? ⟨gl, i, none⟩ = some (.slice A1 n1 c1) := x1
                  clear hkl hk hol x1
                  go_wp2
                  clear y1 hc0
                  go_loopw [10, 11] (fun v10 v11 wr => ∃ (q : Nat) (vh : Value) (L : List (Nat × Value × Nat)), q ≤ 80 ∧ vh = v10 ∧ v11 = .int .i64 (q : Int) ∧ Aside0 (Lo w0 w wr gb (.slice (some ⟨gl, 0, none⟩) ml.length cl) (.slice Aw1 ml.length cw) hl (ml.map List.length) vx lg i L) ∧ Aside0 ((i, vg, n1 + k) ∈ L) ∧ Aside0 ((i, vh, n1 + q) ∈ L)) (fun _ v11 _ => 80 - (intOf v11).toNat)
                  case atStart => exact ⟨0, _, L, Nat.zero_le _, rfl, rfl, HLO, HMG, HM⟩
                  case round =>
                    clear HLO HM HMG
                    obtain ⟨q, vh, L, hq, rfl, rfl, HLO, HMG, HMH⟩ := hrel
                    by_cases hql : q < 80
                    · --{ 6
                      have hd5 : decide ((q : Int) < 80) = true := decide_eq_true (by omega)
                      have hd5' : decide (q < 80) = true := decide_eq_true hql
                      have HQL := Aside0.mk hql
                      have HWQ := Aside0.mk (wr1 (i := q) hql (by omega))
                      clear hql hq
                      go_wp2_with (first
                        | (go_at_call 38; (with_reducible refine (dailieslaw04_mark.calls (i : Int) (mrk i) _ (mark_f i)).mono ?_); rintro e w4 ⟨rfl, ⟨nd, rfl⟩⟩; have HLO4 := Aside0.mk (HLO.out.moved (pw_below_drewN (Below.refl _ _) nd)))
                        | ((with_reducible refine gate_builtin (b := .append) (xs := #[.tmp 110, .tmp 113]) rfl ?_); at_builtin; refine print_append_mark (w0 := w0) w0.heap.size rfl (.tmp 110) (.tmp 113) 29 5 (.int .u8 0) 1 rfl Try.underlying29 info5 rfl (by decide) vh (n1 + q) (.int .u8 (mrk i)) ?q1 ?q2 ?q3 (HLO4.out.fs.own _ HMH.out) HLO4.out.be.below HLO4.out.be.base ?q4 ?_; (case q3 => exact rfl); (case q4 => have := HRL.out; have := HQL.out; omega); (case q1 => rfl); (case q2 => rfl); intro y10 w6 hown hbb hff hat; have HLO6 := Aside0.mk (HLO4.out.grow HMH.out hown hff hat); clear hown hbb hff hat))
                      go_roundw
                      case rel => exact ⟨q + 1, _, _, HQL.out, rfl, by rw [HWQ.out], HLO6, ⟨List.mem_cons_of_mem _ HMG.out⟩, ⟨List.mem_cons_self⟩⟩
                      case measure => exact meas HWQ.out HQL.out
                      --}
                    · --{ 7
                      have hd5 : decide ((q : Int) < 80) = false := decide_eq_false (by omega)
                      have hd5' : decide (q < 80) = false := decide_eq_false hql
                      have HQ80 := Aside0.mk hq
                      obtain ⟨Ag, cg, eg⟩ := own_form (HLO.out.fs.own _ HMG.out)
                      obtain ⟨Ah, ch, eh⟩ := own_form (HLO.out.fs.own _ HMH.out)
                      have eg' : vg = .slice Ag (n1 + k) cg := eg
                      have eh' : vh = .slice Ah (n1 + q) ch := eh
                      subst eg'
                      subst eh'
                      obtain ⟨Ax, cx, ex⟩ := own_form HLO.out.lo
                      subst ex
                      have HLO8 : Aside0 (Lo w0 w (wr.alloc (.cells #[hdV (Ag, n1 + k, cg), hdV (Ah, n1 + q, ch)] 29)) gb (.slice (some ⟨gl, 0, none⟩) ml.length cl) (.slice Aw1 ml.length cw) hl (ml.map List.length) (.slice Ax lg.length cx) lg i L) := ⟨HLO.out.moved (below_alloc (Below.refl _ _) _)⟩
                      have HRH : Aside0 (ReadsOf hdV ((none, 0, 0) : Hdr) (wr.alloc (.cells #[hdV (Ag, n1 + k, cg), hdV (Ah, n1 + q, ch)] 29)) (some ⟨wr.heap.size, 0, none⟩) 2 [(Ag, n1 + k, cg), (Ah, n1 + q, ch)]) := ⟨reads_heads (hs := [(Ag, n1 + k, cg), (Ah, n1 + q, ch)]) (heap_alloc_new _ _) (by simp)⟩
                      clear hql hq eg eh
                      go_wp2_with (first
                        | ((with_reducible refine gate_builtin (b := .append) (xs := #[.tmp 115, .tmp 118]) rfl ?_); at_builtin; refine print_append_row_of (w0 := w0) hdV ((none, 0, 0) : Hdr) w0.heap.size rfl (.tmp 115) (.tmp 118) 38 29 (.slice none 0 0) 24 rfl Try.underlying38 info29 rfl (by decide) (fun _ => rfl) (.slice Ax lg.length cx) lg [(Ag, n1 + k, cg), (Ah, n1 + q, ch)] (some ⟨wr.heap.size, 0, none⟩) 2 2 ?q1 ?q2 HLO8.out.lo HRH.out HLO8.out.be.below HLO8.out.be.base ?q4 ?_; (case q4 => have := HLO.out.ll; have := HLT.out; have := HN.out; omega); (case q1 => rfl); (case q2 => rfl); intro y6 w7 hown hbb hgr hat; have HLO9 := Aside0.mk (HLO8.out.add (hg := (Ag, n1 + k, cg)) (hh := (Ah, n1 + q, ch)) HB00.out HGB.out HMG.out HMH.out (show n1 + k ≤ 1100 by have := HRL.out; have := HK20.out; omega) (show n1 + q ≤ 1100 by have := HRL.out; have := HQ80.out; omega) hown hgr hat); clear hown hbb hgr hat))
                      go_roundw
                      case rel => exact ⟨i + 1, _, _, _, HLT.out, rfl, by rw [HW1.out], HLO9⟩
                      case measure => exact meas HW1.out HLT.out
                      --}
              --}
            · have hd3 : decide ((i : Int) < (ml.length : Int)) = false := decide_eq_false (by omega)
              have hd3' : decide (i < ml.length) = false := decide_eq_false hlt
              obtain rfl : i = ml.length := by omega
              clear hlt hi
              go_wp2
              clear hc0
              obtain ⟨Ax, cx, ex⟩ := own_form HLO.out.lo
              rw [HLO.out.ll] at ex
              subst ex
              go_loopw [12] (fun v12 wz => ∃ t : Nat, t ≤ ml.length ∧ v12 = .int .i64 (t : Int) ∧ Aside0 (Below wr.heap.size wr wz)) (fun v12 _ => ml.length - (intOf v12).toNat)
              case atStart => exact ⟨0, Nat.zero_le _, rfl, ⟨Below.refl _ _⟩⟩
              case round =>
                obtain ⟨t, ht, rfl, HBT⟩ := hrel
                have hlo := HLO.out.moved HBT.out
                have hc0 := hlo.be.cell0
                by_cases hlt : t < ml.length
                · --{ 8
                  have hd6 : decide ((t : Int) < (ml.length : Int)) = true := decide_eq_true (by omega)
                  have hd6' : decide (t < ml.length) = true := decide_eq_true hlt
                  obtain ⟨gl, el⟩ := own_some hlo.be.ol (by omega)
                  subst el
                  have hol := hlo.be.ol
                  rw [HLL.out] at hol
                  have x1 := (own_at_of (d := ((none, 0, 0) : Hdr)) hol (t : Int) (by omega) (by omega)).1
                  have hil : t < hl.length := by rw [HLL.out]; exact hlt
                  have hg0 := getD_get (d := ((none, 0, 0) : Hdr)) hil
                  rw [Int.toNat_natCast, rdOf, Int.toNat_natCast] at x1
                  have hm0 := hlo.m0 t _ hg0
                  have hns := HNS.out t hlt
                  have hrl := HR.out _ (getD_mem (d := []) hlt)
                  rw [← hns] at hrl
                  generalize hl.getD t (none, 0, 0) = hd at *
                  obtain ⟨A1, n1, c1⟩ := hd
                  generalize (ml.map List.length).getD t 0 = n at *
                  have hn1 : n1 = n := by
                    obtain ⟨A', c', e⟩ := own_form (hlo.fs.own _ hm0)
                    have e' : Value.slice A1 n1 c1 = .slice A' n c' := e
                    injection e' with e1 e2 e3
                  subst hn1
                  have y1 : wr.cell? ⟨gl, t, none⟩ = some (.slice A1 n1 c1) := x1
                  have hxl : lg.length = 2 * ml.length := hlo.ll
                  obtain ⟨gx, ex⟩ := own_some hlo.lo (by omega)
                  subst ex
                  have hox := hlo.lo
                  rw [hxl] at hox
                  have z1 := (own_at_of (d := ((none, 0, 0) : Hdr)) hox ((2 * t : Nat) : Int) (by omega) (by omega)).1
                  have z2 := (own_at_of (d := ((none, 0, 0) : Hdr)) hox ((2 * t + 1 : Nat) : Int) (by omega) (by omega)).1
                  rw [Int.toNat_natCast, rdOf, Int.toNat_natCast] at z1 z2
                  have hm1 := hlo.lm (2 * t) _ (getD_get (d := ((none, 0, 0) : Hdr)) (by omega))
                  have hm2 := hlo.lm (2 * t + 1) _ (getD_get (d := ((none, 0, 0) : Hdr)) (by omega))
                  rw [show 2 * t / 2 = t by omega] at hm1
                  rw [show (2 * t + 1) / 2 = t by omega] at hm2
                  generalize lg.getD (2 * t) (none, 0, 0) = hd1 at *
                  generalize lg.getD (2 * t + 1) (none, 0, 0) = hd2 at *
                  obtain ⟨A2, n2, c2⟩ := hd1
                  obtain ⟨A3, n3, c3⟩ := hd2
                  have y2 : wr.cell? ⟨gx, 2 * t, none⟩ = some (.slice A2 n2 c2) := z1
                  have y3 : wr.cell? ⟨gx, 2 * t + 1, none⟩ = some (.slice A3 n3 c3) := z2
                  have F1 : Aside0 (∀ W : World, W.heap = wr.heap → Calls Try.prog 39 #[.slice A1 n1 c1, .int .u8 (mrk t)] W fun e w' => e = .returned (.bool true) ∧ Drawn0 W w') := ⟨fun W hW => full_calls W w0.heap.size _ n1 t A1 c1 rfl (own_move (hlo.fs.own _ hm0) fun k _ => by rw [hW]) (by omega)⟩
                  have F2 : Aside0 (∀ W : World, W.heap = wr.heap → Calls Try.prog 39 #[.slice A2 n2 c2, .int .u8 (mrk t)] W fun e w' => e = .returned (.bool true) ∧ Drawn0 W w') := ⟨fun W hW => full_calls W w0.heap.size _ n2 t A2 c2 rfl (own_move (hlo.fs.own _ hm1.1) fun k _ => by rw [hW]) (by have : n2 ≤ 1100 := hm1.2; omega)⟩
                  have F3 : Aside0 (∀ W : World, W.heap = wr.heap → Calls Try.prog 39 #[.slice A3 n3 c3, .int .u8 (mrk t)] W fun e w' => e = .returned (.bool true) ∧ Drawn0 W w') := ⟨fun W hW => full_calls W w0.heap.size _ n3 t A3 c3 rfl (own_move (hlo.fs.own _ hm2.1) fun k _ => by rw [hW]) (by have : n3 ≤ 1100 := hm2.2; omega)⟩
                  have hw2 : wrap64 (2 * (t : Int)) = ((2 * t : Nat) : Int) := by have := HN.out; unfold wrap64; omega
                  obtain ⟨s3, hs3⟩ : ∃ s3, s3 = 2 * t + 1 := ⟨_, rfl⟩
                  have hw3 : wrap64 (((2 * t : Nat) : Int) + 1) = (s3 : Int) := by have := HN.out; unfold wrap64; omega
                  have hw4 : wrap64 (2 * (t : Int) + 1) = (s3 : Int) := by have := HN.out; unfold wrap64; omega
                  rw [← hs3] at y3
                  have HLT := Aside0.mk hlt
                  have HW1 := Aside0.mk (wr1 (i := t) hlt (by have := HN.out; omega))
                  have b1 : (t : Int) < (ml.length : Int) := by omega
                  have b2 : ((2 * t : Nat) : Int) < ((2 * ml.length : Nat) : Int) := by omega
                  have b3 : (s3 : Int) < ((2 * ml.length : Nat) : Int) := by omega
                  have b4 : 2 * t < 2 * ml.length := by omega
                  have b5 : s3 < 2 * ml.length := by omega
                  clear hlt ht hol x1 hil hg0 hm0 hns hrl hxl hox z1 z2 hm1 hm2 hlo hs3
                  go_wp2
                  go_quiet (first
                    | (go_at_call 38; (with_reducible refine (dailieslaw04_mark.calls (t : Int) (mrk t) _ (mark_f t)).mono ?_); rintro e w' ⟨rfl, ⟨nd3, rfl⟩⟩; exact ⟨rfl, _, World.drewN_drewN _ _ _⟩)
                    | (go_at_call 39; (with_reducible refine (F1.out _ ?hh).mono ?_); (case hh => rfl); rintro e w' ⟨rfl, ⟨nd3, rfl⟩⟩; exact ⟨rfl, _, World.drewN_drewN _ _ _⟩))
                  clear y1 hc0
                  obtain ⟨wq, ewq⟩ : ∃ wq : World, wq = wr.drewN nq := ⟨_, rfl⟩
                  rw [← ewq]
                  have hq : wq.heap = wr.heap := by rw [ewq]; rfl
                  have y2' : wq.cell? ⟨gx, 2 * t, none⟩ = some (.slice A2 n2 c2) := by rw [ewq]; exact y2
                  have y3' : wq.cell? ⟨gx, s3, none⟩ = some (.slice A3 n3 c3) := by rw [ewq]; exact y3
                  have HBq : Aside0 (Below _ _ wq) := ⟨by rw [ewq]; exact pw_below_drewN HBT.out nq⟩
                  have HQ := Aside0.mk hq
                  clear y2 y3 ewq hq
                  go_wp2
                  go_quiet (first
                    | (go_at_call 38; (with_reducible refine (dailieslaw04_mark.calls (t : Int) (mrk t) _ (mark_f t)).mono ?_); rintro e w' ⟨rfl, ⟨nd3, rfl⟩⟩; exact ⟨rfl, _, World.drewN_drewN _ _ _⟩)
                    | (go_at_call 39; (with_reducible refine (F2.out _ ?hh).mono ?_); (case hh => exact HQ.out); rintro e w' ⟨rfl, ⟨nd3, rfl⟩⟩; exact ⟨rfl, _, World.drewN_drewN _ _ _⟩))
                  clear y2'
                  obtain ⟨wp, ewp⟩ : ∃ wp : World, wp = wq.drewN nq := ⟨_, rfl⟩
                  rw [← ewp]
                  have hq3 : wp.heap = wr.heap := by rw [ewp]; exact HQ.out
                  have y3q : wp.cell? ⟨gx, s3, none⟩ = some (.slice A3 n3 c3) := by rw [ewp]; exact y3'
                  have HBp : Aside0 (Below _ _ wp) := ⟨by rw [ewp]; exact pw_below_drewN HBq.out nq⟩
                  have HQ3 := Aside0.mk hq3
                  clear y3' ewp hq3
                  go_wp2
                  go_quiet (first
                    | (go_at_call 38; (with_reducible refine (dailieslaw04_mark.calls (t : Int) (mrk t) _ (mark_f t)).mono ?_); rintro e w' ⟨rfl, ⟨nd3, rfl⟩⟩; exact ⟨rfl, _, World.drewN_drewN _ _ _⟩)
                    | (go_at_call 39; (with_reducible refine (F3.out _ ?hh).mono ?_); (case hh => exact HQ3.out); rintro e w' ⟨rfl, ⟨nd3, rfl⟩⟩; exact ⟨rfl, _, World.drewN_drewN _ _ _⟩))
                  clear y3q hw2 hw3 hw4 F1 F2 F3
                  go_wp2
                  go_roundw
                  case rel => exact ⟨t + 1, HLT.out, by rw [HW1.out], ⟨pw_below_drewN HBp.out _⟩⟩
                  case measure => exact meas HW1.out HLT.out
                  --}
                · --{ 9
                  have hd6 : decide ((t : Int) < (ml.length : Int)) = false := decide_eq_false (by omega)
                  have hd6' : decide (t < ml.length) = false := decide_eq_false hlt
                  have hbe := hlo.be
                  have hf0 := blk_frozen hbe.box 0
                  have hf1 := blk_frozen hbe.box 1
                  have hc1 := hbe.cell1
                  have hgl := blk_lt hbe.box
                  have HBE := Aside0.mk hbe
                  clear hlt ht hlo hbe
                  go_wp2
                  go_ret
                  exact ⟨rfl, (HBE.out.below.setCell HBE.out.gbl _).setCell HBE.out.gbl _, by rw [World.size_setCell, World.size_setCell]; exact HBE.out.size, fun k hk h1 h2 => (Below.heap_setCell _ ⟨gb, 1, none⟩ _ k h1).trans ((Below.heap_setCell _ ⟨gb, 0, none⟩ _ k h1).trans (HBE.out.ent k hk h1 h2))⟩
                  --}
end Go.Proofs.Ytdleoljbnjjdgaa.Bok
