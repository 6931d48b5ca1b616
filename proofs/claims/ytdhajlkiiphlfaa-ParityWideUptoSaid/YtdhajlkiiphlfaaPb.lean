/- parity.made and parity.Make, walked; what parity.fits answers. No conditions beyond the theorems' own. -/
import Derived.Test.YtdhajlkiiphlfaaPa
/-! parity.made, walked -/
namespace Go.Proofs.Ytdhajlkiiphlfaa.Par
open Go.RowKit Go.Proofs.Ytdhajlkiiphlfaa.QBaseParityWide Go.Proofs.YtdhajlkiiphlfaaW.PrintWords Go.Proofs.YtdhajlkiiphlfaaW.PrintLast Go.Proofs.YtdhajlkiiphlfaaW.PrintMore Go.Proofs.Ytdhajlkiiphlfaa.Solve
set_option linter.unusedVariables false
set_option linter.unusedSimpArgs false
def part (c : Nat → Int) (rows : List (List Int)) (z : List Int) : Nat → List Int
  | 0 => z
  | j + 1 => addAt (c j) (rows.getD j []) 0 (part c rows z j)
theorem part_length (c : Nat → Int) (rows : List (List Int)) (z : List Int) : ∀ j, (part c rows z j).length = z.length
  | 0 => rfl
  | j + 1 => by rw [part, addAt_length, part_length c rows z j]
theorem part_in (c : Nat → Int) (rows : List (List Int)) (z : List Int) (hz : ∀ y ∈ z, In8 y) : ∀ j, (∀ t, t < j → In8 (c t)) → ∀ y ∈ part c rows z j, In8 y
  | 0, _ => hz
  | j + 1, h => by rw [part]; exact addAt_in _ (h j (by omega)) _ _ _ (part_in c rows z hz j (fun t ht => h t (by omega)))
def widthL (rows : List (List Int)) : Nat := wideN (rows.map List.length)
def zeros (n : Nat) : List Int := List.replicate n 0
theorem zeros_in (n : Nat) : ∀ y ∈ zeros n, In8 y := fun y hy => by rw [List.eq_of_mem_replicate hy]; exact ⟨by decide, by decide⟩
def moreRow (rows : List (List Int)) (i : Nat) : List Int := part (cE i) rows (zeros (widthL rows)) rows.length
def madeL (rows : List (List Int)) (p : Nat) : List (List Int) := (List.range p).map (moreRow rows)
def midO (rows : List (List Int)) (p i : Nat) : List (List Int) := (List.range p).map fun t => if t < i then moreRow rows t else zeros (widthL rows)
def midI (rows : List (List Int)) (p i j : Nat) : List (List Int) := (midO rows p i).set i (part (cE i) rows (zeros (widthL rows)) j)
theorem midO_get (rows : List (List Int)) {p i t : Nat} (ht : t < p) : (midO rows p i)[t]? = some (if t < i then moreRow rows t else zeros (widthL rows)) := by
  unfold midO; rw [List.getElem?_map, List.getElem?_range ht]; rfl
theorem midO_length (rows : List (List Int)) (p i : Nat) : (midO rows p i).length = p := by simp [midO]
theorem midO_zero (rows : List (List Int)) (p : Nat) : midO rows p 0 = (List.replicate p (widthL rows)).map fun k => List.replicate k (0 : Int) := by
  unfold midO zeros; simp [List.map_const']
theorem midO_all (rows : List (List Int)) (p : Nat) : midO rows p p = madeL rows p := by
  unfold midO madeL
  apply List.map_congr_left
  intro t ht; rw [if_pos (List.mem_range.1 ht)]
theorem midI_zero (rows : List (List Int)) {p i : Nat} (hi : i < p) : midI rows p i 0 = midO rows p i := by
  unfold midI
  refine set_same ?_
  rw [midO_get rows hi, if_neg (by omega)]; rfl
theorem midI_all (rows : List (List Int)) {p i : Nat} (hi : i < p) : midI rows p i rows.length = midO rows p (i + 1) := by
  unfold midI
  apply List.ext_getElem?
  intro t
  by_cases ht : t < p
  · rw [midO_get rows ht]
    by_cases e : i = t
    · subst e; rw [List.getElem?_set_self (by rw [midO_length]; exact hi), if_pos (by omega)]; rfl
    · rw [List.getElem?_set_ne e, midO_get rows ht]
      by_cases h : t < i
      · rw [if_pos h, if_pos (by omega)]
      · rw [if_neg h, if_neg (by omega)]
  · rw [List.getElem?_eq_none (by rw [List.length_set, midO_length]; omega), List.getElem?_eq_none (by rw [midO_length]; omega)]
theorem midI_get (rows : List (List Int)) {p i : Nat} (hi : i < p) (j : Nat) : (midI rows p i j)[i]? = some (part (cE i) rows (zeros (widthL rows)) j) := by
  unfold midI; rw [List.getElem?_set_self (by rw [midO_length]; exact hi)]
theorem midI_succ (rows : List (List Int)) {p i : Nat} (hi : i < p) (j : Nat) : (midI rows p i j).set i (addAt (cE i j) (rows.getD j []) 0 (part (cE i) rows (zeros (widthL rows)) j)) = midI rows p i (j + 1) := by
  unfold midI; rw [List.set_set]; rfl
theorem moreRow_in (rows : List (List Int)) (hn : rows.length ≤ 256) (i : Nat) : ∀ y ∈ moreRow rows i, In8 y := part_in _ _ _ (zeros_in _) _ (fun t ht => cE_in (by omega))
theorem midI_in (rows : List (List Int)) (hn : rows.length ≤ 256) (p i j : Nat) (hj : j ≤ rows.length) : ∀ y ∈ (midI rows p i j).flatten, In8 y := by
  intro y hy
  obtain ⟨r, hr, hy⟩ := List.mem_flatten.1 hy
  rcases List.mem_or_eq_of_mem_set hr with hr | rfl
  · obtain ⟨t, _, rfl⟩ := List.mem_map.1 hr
    split at hy
    · exact moreRow_in rows hn t y hy
    · exact zeros_in _ y hy
  · exact part_in _ _ _ (zeros_in _) _ (fun t ht => cE_in (by omega)) y hy
theorem Cu.added {w w' : World} {base g b : Nat} {m : List (List Int)} (h : Cu w base g b m) (hk : Kept w w' (fun k => k = b)) {i o : Nat} {r l : List Int} (hi : m[i]? = some r) (ho : 0 < r.length → o = ((m.take i).flatten).length) (hl : l.length ≤ r.length) (c : Int)
    (hd : w'.heap[b]? = some (.cells (bytesV (addAt c l o m.flatten)) 5 (0, 0))) : Cu w' base g b (m.set i (addAt c l 0 r)) := by
  refine h.put hk hi (addAt_length _ _ _ _) ?_
  rw [hd]
  by_cases hr : 0 < r.length
  · rw [ho hr, addAt_flat hi hl]
  · have e : l = [] := List.eq_nil_of_length_eq_zero (by omega)
    subst e
    show some (Obj.cells (bytesV m.flatten) 5 (0, 0)) = some (Obj.cells (bytesV (m.set i r).flatten) 5 (0, 0))
    rw [set_same hi]
theorem off_le {m : List (List Int)} {i o W : Nat} {r l : List Int} (h1 : o ≤ m.flatten.length) (h2 : 0 < W → o = ((m.take i).flatten).length) (hg : m[i]? = some r) (hl : l.length ≤ W) (hr : r.length = W) : o + l.length ≤ m.flatten.length := by
  by_cases h : 0 < W
  · rw [h2 h, flat_split hg, List.length_append, List.length_append]; omega
  · omega
theorem flat_const {m : List (List Int)} {W : Nat} (h : ∀ r ∈ m, r.length = W) : m.flatten.length = m.length * W := by
  induction m with
  | nil => simp
  | cons r l ih =>
    rw [List.flatten_cons, List.length_append, ih (fun q hq => h q (List.mem_cons_of_mem _ hq)), h r List.mem_cons_self, List.length_cons, Nat.add_mul]; omega
theorem midI_rows (rows : List (List Int)) (p i j : Nat) : ∀ r ∈ midI rows p i j, r.length = widthL rows := by
  intro r hr
  have hz : (zeros (widthL rows)).length = widthL rows := List.length_replicate
  rcases List.mem_or_eq_of_mem_set hr with hr | rfl
  · obtain ⟨t, _, rfl⟩ := List.mem_map.1 hr
    split
    · unfold moreRow; rw [part_length, hz]
    · exact hz
  · rw [part_length, hz]
theorem flat_small (rows : List (List Int)) (p i j : Nat) (hp : p ≤ 16) (hw : widthL rows ≤ 16777216) : (midI rows p i j).flatten.length ≤ 268435456 := by
  rw [flat_const (midI_rows rows p i j)]
  have h1 : (midI rows p i j).length = p := by unfold midI; rw [List.length_set, midO_length]
  rw [h1]
  exact Nat.le_trans (Nat.mul_le_mul hp hw) (by decide)
structure Mk (w0 w1 w : World) (g b : Nat) (m : List (List Int)) : Prop where
  below : Below w0.heap.size w0 w
  kept : Kept w1 w (fun k => k = b)
  cu : Cu w w0.heap.size g b m
set_option maxHeartbeats 800000 in
set_option maxRecDepth 100000 in
theorem made_calls (A0 : Option Addr) (c0 : Nat) (rows : List (List Int)) (p : Nat) (w : World) (hr0 : Kd.C (Kd.slice 5 (Kd.int .u8)) w A0 rows.length rows) (hc0 : rows.length ≤ c0) (hn : rows.length ≤ 200) (hp : p ≤ 16) (hin : ∀ r ∈ rows, ∀ y ∈ r, In8 y) (hlen : ∀ r ∈ rows, r.length ≤ 16777216) :
    Calls Try.prog 29 #[.slice A0 rows.length c0, .int .i64 (p : Int)] w fun e w' => ∃ g b, e = .returned (.slice (some ⟨g, 0, none⟩) p p) ∧ Cu w' w.heap.size g b (madeL rows p) ∧ Below w.heap.size w w' := by
  have HW : widthL rows ≤ 16777216 := wideN_le (fun x hx => by obtain ⟨r, hr, rfl⟩ := List.mem_map.1 hx; exact hlen r hr)
  have HLE : Aside0 (∀ r ∈ rows, r.length ≤ widthL rows) := ⟨fun r hr => le_wideN (List.mem_map.2 ⟨r, hr, rfl⟩)⟩
  have HR0 := Aside0.mk hr0
  have HC0 := Aside0.mk hc0
  have HN := Aside0.mk hn
  have HP := Aside0.mk hp
  have HIN := Aside0.mk hin
  have HWI := Aside0.mk HW
  have F1 : Aside0 (parity_lengths.f 2000 rows = some (up (rows.map List.length))) := ⟨lengths_f rows (by omega) (by omega)⟩
  have F2 : Aside0 (parity_wide.f 2000 (up (rows.map List.length)) = some ((widthL rows : Nat) : Int)) := ⟨wide_f (rows.map List.length) (by rw [List.length_map]; omega) (by omega)⟩
  have F3 : Aside0 (parity_same.f 2000 ((widthL rows : Nat) : Int) (p : Int) = some (up (List.replicate p (widthL rows)))) := ⟨by rw [same_f _ _ (by omega) (by omega)]; unfold up; rw [List.map_replicate]⟩
  have F4 : Aside0 (parity_matrix.f 80000 (p : Int) (rows.length : Int) = some (matL p rows.length)) := ⟨matrix_f hp hn (by omega)⟩
  have F5 : Aside0 ((up (List.replicate p (widthL rows))).length = p) := ⟨by rw [up_length, List.length_replicate]⟩
  have F6 : Aside0 ((List.replicate p (widthL rows)).sum ≤ 281474976710656) := ⟨by rw [List.sum_replicate_nat]; have := Nat.mul_le_mul hp HW; omega⟩
  clear hr0 hc0 hn hp hin HW hlen
  go_enter Try.func29, Try.ntmps29
  go_wp2_with (first
    | (go_at_call 46; (with_reducible refine (parity_lengths.calls 2000 _ _ rows _ _ ?s1 HC0.out F1.out).mono ?_); (case s1 => exact HR0.out); rintro e w1 ⟨v1, rfl, ho, hb⟩; obtain ⟨A1, c1, rfl, hl1, hC1⟩ := Kd.R_reads ho; have HC1 := Aside0.mk hC1; have HL1 := Aside0.mk hl1; have HB1 := Aside0.mk hb; clear ho hC1 hl1 hb)
    | (go_at_call 31; (with_reducible refine (parity_wide.calls 2000 _ _ _ _ _ ?s1 HL1.out F2.out).mono ?_); (case s1 => exact HC1.out); rintro e w2 ⟨rfl, hb⟩; have HB2 := Aside0.mk (below_step HB1.out hb); clear hb)
    | (go_at_call 45; (with_reducible refine (parity_same.calls 2000 _ _ _ _ F3.out).mono ?_); rintro e w3 ⟨v3, rfl, ho, hb⟩; obtain ⟨A3, c3, rfl, hl3, hC3⟩ := Kd.R_reads ho; have HC3 := Aside0.mk hC3; have HB3 := Aside0.mk (below_step HB2.out hb); clear ho hC3 hl3 hb)
    | (go_at_call 32; (with_reducible refine (cut_calls' _ _ _ (List.replicate p (widthL rows)) ?s1 _ ?s2 ?s3 F6.out).mono ?_); (case s1 => rw [F5.out, List.length_replicate]); (case s2 => exact HC3.out); (case s3 => rw [F5.out]; have := HP.out; omega); rw [F5.out]; rintro e w4 ⟨g, b, rfl, hcu, hb⟩; have HB4 := Aside0.mk (below_step HB3.out hb); have HCU := Aside0.mk (hcu.base_down (below_size HB3.out)); clear hcu hb)
    | (go_at_call 33; (with_reducible refine (parity_matrix.calls 80000 _ _ _ _ F4.out).mono ?_); rintro e w5 ⟨v5, rfl, ho, hb⟩))
  have hbl := HCU.out.lt_b
  obtain ⟨Am, cm, rfl, hlm, _⟩ := Kd.S_reads ho
  have HM : Aside0 (∀ W, Kept w5 W (fun k => k = b) → Kd.C (Kd.slice 5 (Kd.int .u8)) W Am (matL p rows.length).length (matL p rows.length)) := ⟨Kd.C_kept_own (Kd.R_bound (Kd.S_R ho)) (fun k hk e => by have := hk.2.1; omega)⟩
  have HMK : Aside0 (Mk w w5 w5 g b (midO rows p 0)) := ⟨⟨below_step HB4.out hb, Kept.refl _ _, by rw [midO_zero]; exact HCU.out.below hb⟩⟩
  clear HC1 HL1 HB1 HB2 HC3 HB3 HB4 HCU ho hb hbl hlm F1 F2 F3 F4 F5 F6
  have hml : (matL p rows.length).length = p := by unfold matL cau; split <;> simp
  rw [hml] at HM ⊢
  clear hml
  go_loopw [22] (fun v22 wr => ∃ i : Nat, i ≤ p ∧ v22 = .int .i64 (i : Int) ∧ Aside0 (Mk w w5 wr g b (midO rows p i))) (fun v22 _ => p - (intOf v22).toNat)
  case atStart => exact ⟨0, Nat.zero_le _, rfl, HMK⟩
  case round =>
    clear HMK
    obtain ⟨i, hi, rfl, HMK⟩ := hrel
    by_cases hlt : i < p
    · have HLT := Aside0.mk hlt
      have hli : (i : Int) < (p : Int) := by omega
      have HW1 := Aside0.mk (wr1 (i := i) hlt (by have := HP.out; omega))
      rw [← midI_zero rows hlt] at HMK
      clear hlt hi
      go_wp2
      go_loopw [27] (fun v27 wr => ∃ j : Nat, j ≤ rows.length ∧ v27 = .int .i64 (j : Int) ∧ Aside0 (Mk w w5 wr g b (midI rows p i j))) (fun v27 _ => rows.length - (intOf v27).toNat)
      case atStart => exact ⟨0, Nat.zero_le _, rfl, HMK⟩
      case round =>
        clear HMK
        obtain ⟨j, hj, rfl, HMK⟩ := hrel
        by_cases hjlt : j < rows.length
        · have HJ := Aside0.mk hjlt
          have HW2 := Aside0.mk (wr1 (i := j) hjlt (by have := HN.out; omega))
          have hlj : (j : Int) < (rows.length : Int) := by omega
          have hmc := HMK.out.cu
          obtain ⟨o, hh1, hole, hoff⟩ := hmc.head (midI_get rows HLT.out j)
          rw [part_length] at hh1 hoff
          -- the row
          obtain ⟨ad, A2, c2, e2, hx2, hl2, hC2⟩ := at_L2 HR0.out (j : Int) (by omega) (by omega)
          cases e2
          have hrow : rd_L2 rows (j : Int) = rows.getD j [] := by unfold rd_L2; rw [Int.toNat_natCast]
          rw [hrow] at hx2 hl2 hC2
          rw [Int.toNat_natCast] at hx2
          replace hx2 := (HMK.out.below.cell (World.block_lt_of_cell? w _ hx2)).trans hx2
          have hmem : rows.getD j [] ∈ rows := by rw [List.getD_eq_getElem?_getD, List.getElem?_eq_getElem hjlt]; exact List.getElem_mem hjlt
          have hsucc := midI_succ rows HLT.out j
          -- the element
          have hmat : matL p rows.length = cau p rows.length := by unfold matL; rw [if_neg (by have := HLT.out; omega)]
          have hCm := HM.out _ HMK.out.kept
          rw [hmat] at hCm
          obtain ⟨am, A3, c3, e3, hx3, hl3, hC3⟩ := at_L2 hCm (i : Int) (by omega) (by omega)
          cases e3
          rw [rowZ (cau_row HLT.out), Int.toNat_natCast] at hx3
          rw [rowZ (cau_row HLT.out)] at hC3
          rw [List.length_map, List.length_range] at hx3 hC3
          obtain ⟨ae, e4, hx4⟩ := Kd.at_int hC3 (j : Int) (by omega) (by omega)
          cases e4
          rw [elZ (y := cE i j) (by rw [List.getElem?_map, List.getElem?_range hjlt]; rfl), Int.toNat_natCast] at hx4
          obtain ⟨l, hl⟩ : ∃ l, l = rows.getD j [] := ⟨_, rfl⟩
          rw [← hl] at hx2 hl2 hC2 hmem hsucc
          have HSU := Aside0.mk hsucc
          have HOFF := Aside0.mk hoff
          have HOLE := Aside0.mk hole
          have HC2 := Aside0.mk hC2
          have HMEM := Aside0.mk hmem
          have HGET := Aside0.mk (midI_get rows HLT.out j)
          have hzl : (zeros (widthL rows)).length = widthL rows := List.length_replicate
          rw [hzl] at hh1 HOFF
          clear hsucc hoff hole hC2 hmem hl hmat hCm hC3 hl2 hl3 hrow hjlt hj hmc hzl
          go_wp2_with (fail)
          go_still_tail 12, (by kernel_rfl)
          change wpList _ _ _ _ _ wr.drew
          have hcd : Cu wr.drew w.heap.size g b (midI rows p i j) := HMK.out.cu.below (below_drew1 (Below.refl _ _))
          have HCD := Aside0.mk hcd
          have HBD : Aside0 (Below w.heap.size w wr.drew) := ⟨below_drew1 HMK.out.below⟩
          have HKD : Aside0 (Kept w5 wr.drew (fun k => k = b)) := ⟨HMK.out.kept⟩
          clear hcd
          generalize wr.drew = wd at HCD HBD HKD ⊢
          go_wp2_with (first | (go_at_call 34; (with_reducible refine (add_calls w _ b o _ _ (midI rows p i j).flatten _ _ l (cE i j) ?s1 ?s2 ?s3 ?s4 ?s5 ?s6 ?s7 ?s8 ?s9 ?s10 ?s11).mono ?_); go_loud ((case s1 => exact HBD.out); (case s2 => exact HCD.out.hb); (case s3 => exact HCD.out.data); (case s4 => exact midI_in rows (by have := HN.out; omega) p i j (by have := HJ.out; omega)); (case s5 => exact HLE.out _ HMEM.out); (case s6 => exact off_le HOLE.out HOFF.out HGET.out (HLE.out _ HMEM.out) (by rw [part_length]; exact List.length_replicate)); (case s7 => have := HCD.out.many; have := flat_small rows p i j HP.out HWI.out; omega); (case s8 => have := HWI.out; omega); (case s9 => exact Kd.C_kept_came (Kd.heap_int _) HC2.out HBD.out (fun k hk => by rw [hk]; exact HCD.out.hb)); (case s10 => exact HIN.out _ HMEM.out); (case s11 => exact cE_in (by have := HN.out; have := HJ.out; omega)); rintro e w9 ⟨rfl, hb9, hk9, hd9⟩; have HB9 := Aside0.mk hb9; have HK9 := Aside0.mk hk9; have HD9 := Aside0.mk hd9; clear hb9 hk9 hd9)))
          have HMK9 : Aside0 (Mk w w5 w9 g b (midI rows p i (j + 1))) := ⟨⟨HB9.out, HKD.out.then_ HK9.out (fun k hk => .inl hk), by
            rw [← HSU.out]
            exact HCD.out.added HK9.out HGET.out (by rw [part_length]; intro hp; exact HOFF.out (by rwa [show (zeros (widthL rows)).length = widthL rows from List.length_replicate] at hp)) (by rw [part_length, show (zeros (widthL rows)).length = widthL rows from List.length_replicate]; exact HLE.out _ HMEM.out) _ HD9.out⟩⟩
          clear HB9 HK9 HD9
          go_roundw
          case rel => exact ⟨j + 1, HJ.out, by rw [HW2.out], HMK9⟩
          case measure => exact meas HW2.out HJ.out
        · obtain rfl : j = rows.length := by omega
          rw [midI_all rows HLT.out] at HMK
          go_wp2
          go_roundw
          case rel => exact ⟨i + 1, HLT.out, by rw [HW1.out], HMK⟩
          case measure => exact meas HW1.out HLT.out
    · obtain rfl : i = p := by omega
      rw [midO_all] at HMK
      go_wp2
      go_ret
      exact ⟨g, b, rfl, HMK.out.cu, HMK.out.below⟩
end Go.Proofs.Ytdhajlkiiphlfaa.Par
/-! parity.Make, walked -/
namespace Go.Proofs.Ytdhajlkiiphlfaa.Par
open Go.RowKit Go.Proofs.Ytdhajlkiiphlfaa.QBaseParityWide Go.Proofs.YtdhajlkiiphlfaaW.PrintWords Go.Proofs.YtdhajlkiiphlfaaW.PrintLast Go.Proofs.YtdhajlkiiphlfaaW.PrintMore Go.Proofs.Ytdhajlkiiphlfaa.Solve
set_option linter.unusedVariables false
set_option linter.unusedSimpArgs false
def rowsFit (rows : List (List Int)) : Bool := rows.all fun r => decide (r.length ≤ 16777216)
theorem rowsFit_iff {rows : List (List Int)} : rowsFit rows = true ↔ ∀ r ∈ rows, r.length ≤ 16777216 := by
  unfold rowsFit; rw [List.all_eq_true]
  exact ⟨fun h r hr => of_decide_eq_true (h r hr), fun h r hr => decide_eq_true (h r hr)⟩
set_option maxHeartbeats 800000 in
set_option maxRecDepth 100000 in
theorem make_51 (A0 : Option Addr) (c0 : Nat) (rows : List (List Int)) (p : Int) (w : World) (h : 200 < rows.length ∨ p < 0 ∨ 16 < p) :
    Calls Try.prog 15 #[.slice A0 rows.length c0, .int .i64 p] w fun e w' => e = .returned (.tuple #[.slice none 0 0, .int .i64 51]) ∧ Below w.heap.size w w' := by
  by_cases h1 : 200 < rows.length
  · have h2 : decide (200 < (rows.length : Int)) = true := decide_eq_true (by omega)
    have h3 : decide (200 < rows.length) = true := decide_eq_true h1
    clear h h1
    go_enter Try.func15, Try.ntmps15
    go_wp2
    go_ret2
    exact ⟨rfl, by repeat (first | (with_reducible first | exact Below.refl _ _ | apply below_alloc | apply pw_below_drewN | apply below_drew1))⟩
  · have h2 : decide (200 < (rows.length : Int)) = false := decide_eq_false (by omega)
    have h3 : decide (200 < rows.length) = false := decide_eq_false h1
    by_cases h4 : p < 0
    · have h5 : decide (p < 0) = true := decide_eq_true h4
      clear h h1 h4
      go_enter Try.func15, Try.ntmps15
      go_wp2
      go_ret2
      exact ⟨rfl, by repeat (first | (with_reducible first | exact Below.refl _ _ | apply below_alloc | apply pw_below_drewN | apply below_drew1))⟩
    · have h5 : decide (p < 0) = false := decide_eq_false h4
      have h6 : decide (16 < p) = true := decide_eq_true (by omega)
      clear h h1 h4
      go_enter Try.func15, Try.ntmps15
      go_wp2
      go_ret2
      exact ⟨rfl, by repeat (first | (with_reducible first | exact Below.refl _ _ | apply below_alloc | apply pw_below_drewN | apply below_drew1))⟩
def MakePost (w : World) (rows : List (List Int)) (p : Nat) (e : Ending) (w' : World) : Prop := if rowsFit rows = true then (∃ g b, e = .returned (.tuple #[.slice (some ⟨g, 0, none⟩) p p, .int .i64 0]) ∧ Cu w' w.heap.size g b (madeL rows p) ∧ Below w.heap.size w w') else (e = .returned (.tuple #[.slice none 0 0, .int .i64 52]) ∧ Below w.heap.size w w')
theorem MakePost.yes {w w' : World} {rows : List (List Int)} {p : Nat} {e : Ending} (h : rowsFit rows = true) {g b : Nat} (he : e = .returned (.tuple #[.slice (some ⟨g, 0, none⟩) p p, .int .i64 0])) (h1 : Cu w' w.heap.size g b (madeL rows p)) (h2 : Below w.heap.size w w') : MakePost w rows p e w' := by
  unfold MakePost; rw [if_pos h]; exact ⟨g, b, he, h1, h2⟩
theorem MakePost.no {w w' : World} {rows : List (List Int)} {p : Nat} {e : Ending} (h : rowsFit rows = false) (he : e = .returned (.tuple #[.slice none 0 0, .int .i64 52])) (h2 : Below w.heap.size w w') : MakePost w rows p e w' := by
  unfold MakePost; rw [if_neg (by rw [h]; decide)]; exact ⟨he, h2⟩
set_option maxHeartbeats 800000 in
set_option maxRecDepth 100000 in
theorem make_ok (A0 : Option Addr) (c0 : Nat) (rows : List (List Int)) (p : Nat) (w : World) (hr0 : Kd.C (Kd.slice 5 (Kd.int .u8)) w A0 rows.length rows) (hc0 : rows.length ≤ c0) (hn : rows.length ≤ 200) (hp : p ≤ 16) (hin : ∀ r ∈ rows, ∀ y ∈ r, In8 y) :
    Calls Try.prog 15 #[.slice A0 rows.length c0, .int .i64 (p : Int)] w (MakePost w rows p) := by
  have HR0 := Aside0.mk hr0
  have HC0 := Aside0.mk hc0
  have HN := Aside0.mk hn
  have HP := Aside0.mk hp
  have HIN := Aside0.mk hin
  have h2 : decide (200 < (rows.length : Int)) = false := decide_eq_false (by omega)
  have h3 : decide (200 < rows.length) = false := decide_eq_false (by omega)
  have h5 : decide ((p : Int) < 0) = false := decide_eq_false (by omega)
  have h6 : decide (16 < (p : Int)) = false := decide_eq_false (by omega)
  have h7 : decide (16 < p) = false := decide_eq_false (by omega)
  clear hr0 hc0 hn hp hin
  go_enter Try.func15, Try.ntmps15
  go_wp2
  go_loopw [21] (fun v21 wr => ∃ i : Nat, i ≤ rows.length ∧ v21 = .int .i64 (i : Int) ∧ Aside0 (∀ r ∈ rows.take i, r.length ≤ 16777216) ∧ Aside0 (Below w.heap.size w wr)) (fun v21 _ => rows.length - (intOf v21).toNat)
  case atStart => exact ⟨0, Nat.zero_le _, rfl, ⟨fun r hr => by cases hr⟩, ⟨by repeat (first | (with_reducible first | exact Below.refl _ _ | apply below_alloc | apply pw_below_drewN | apply below_drew1))⟩⟩
  case round =>
    obtain ⟨i, hi, rfl, HA, HB⟩ := hrel
    by_cases hlt : i < rows.length
    · obtain ⟨ad, A2, c2, e2, hx2, hl2, hC2⟩ := at_L2 HR0.out (i : Int) (by omega) (by omega)
      cases e2
      have hrow : rd_L2 rows (i : Int) = rows[i] := by unfold rd_L2; rw [Int.toNat_natCast, List.getD_eq_getElem?_getD, List.getElem?_eq_getElem hlt]; rfl
      rw [hrow, Int.toNat_natCast] at hx2
      replace hx2 := (HB.out.cell (World.block_lt_of_cell? w _ hx2)).trans hx2
      have HW1 := Aside0.mk (wr1 (i := i) hlt (by have := HN.out; omega))
      have HLT := Aside0.mk hlt
      have HTK := Aside0.mk (take_one rows hlt)
      have HMEM := Aside0.mk (List.getElem_mem hlt)
      generalize rows[i] = r at hx2 HTK HMEM
      clear hrow hl2 hC2
      by_cases hr : 16777216 < r.length
      · have hr1 : decide (16777216 < (r.length : Int)) = true := decide_eq_true (by omega)
        have hr2 : decide (16777216 < r.length) = true := decide_eq_true hr
        have HF : Aside0 (rowsFit rows = false) := ⟨by
          cases e : rowsFit rows with
          | false => rfl
          | true => have := rowsFit_iff.1 e r HMEM.out; omega⟩
        clear hr
        go_wp2
        go_ret2
        exact MakePost.no HF.out rfl HB.out
      · have hr1 : decide (16777216 < (r.length : Int)) = false := decide_eq_false (by omega)
        have hr2 : decide (16777216 < r.length) = false := decide_eq_false hr
        have HA2 : Aside0 (∀ q ∈ rows.take (i + 1), q.length ≤ 16777216) := ⟨fun q hq => by
          rw [HTK.out] at hq
          rcases List.mem_append.1 hq with hq | hq
          · exact HA.out q hq
          · rw [List.mem_singleton.1 hq]; omega⟩
        clear hr
        go_wp2
        go_roundw
        case rel => exact ⟨i + 1, HLT.out, by rw [HW1.out], HA2, HB⟩
        case measure => exact meas HW1.out HLT.out
    · obtain rfl : i = rows.length := by omega
      rw [List.take_length] at HA
      have HF : Aside0 (rowsFit rows = true) := ⟨rowsFit_iff.2 HA.out⟩
      have hC := Kd.C_below HR0.out HB.out
      have HCC := Aside0.mk hC
      clear hC
      go_wp2_with (first | (go_at_call 29; (with_reducible refine (made_calls _ _ rows p _ HCC.out HC0.out HN.out HP.out HIN.out HA.out).mono ?_); rintro e w2 ⟨g, b, rfl, hcu, hb⟩; have HCU := Aside0.mk (hcu.base_down (below_size HB.out)); have HB2 := Aside0.mk (below_step HB.out hb); clear hcu hb))
      go_ret2
      exact MakePost.yes HF.out rfl HCU.out HB2.out
end Go.Proofs.Ytdhajlkiiphlfaa.Par
/-! what parity.fits answers -/
namespace Go.Proofs.Ytdhajlkiiphlfaa.Par
open Go.RowKit Go.Proofs.Ytdhajlkiiphlfaa.QBaseParityWide Go.Proofs.YtdhajlkiiphlfaaW.PrintWords Go.Proofs.YtdhajlkiiphlfaaW.PrintLast Go.Proofs.YtdhajlkiiphlfaaW.PrintMore Go.Proofs.Ytdhajlkiiphlfaa.Solve
set_option linter.unusedVariables false
set_option linter.unusedSimpArgs false
def okFrom (f : Nat → Bool) : Nat → Nat → Bool
  | _, 0 => true
  | i, d + 1 => f i && okFrom f (i + 1) d
theorem okFrom_succ (f : Nat → Bool) (i d : Nat) : okFrom f i (d + 1) = (f i && okFrom f (i + 1) d) := rfl
theorem okFrom_iff (f : Nat → Bool) : ∀ (d i : Nat), okFrom f i d = true ↔ ∀ t, i ≤ t → t < i + d → f t = true
  | 0, i => by simp [okFrom]; intro t h1 h2; omega
  | d + 1, i => by
    rw [okFrom, Bool.and_eq_true, okFrom_iff f d (i + 1)]
    constructor
    · rintro ⟨h1, h2⟩ t h3 h4
      by_cases e : t = i
      · rw [e]; exact h1
      · exact h2 t (by omega) (by omega)
    · intro h
      exact ⟨h i (by omega) (by omega), fun t h1 h2 => h t (by omega) (by omega)⟩
def marksFrom (lost : List Int) : List Bool → Nat → Nat → List Bool
  | g, _, 0 => g
  | g, i, d + 1 => marksFrom lost (g.set (rd lost (i : Int)).toNat true) (i + 1) d
theorem marksFrom_succ (lost : List Int) (g : List Bool) (i d : Nat) : marksFrom lost g i (d + 1) = marksFrom lost (g.set (rd lost (i : Int)).toNat true) (i + 1) d := rfl
theorem marksFrom_length (lost : List Int) : ∀ (d i : Nat) (g : List Bool), (marksFrom lost g i d).length = g.length
  | 0, _, _ => rfl
  | d + 1, i, g => by rw [marksFrom, marksFrom_length lost d, List.length_set]
def cnt (g : List Bool) : Nat := g.count true
theorem cnt_le (g : List Bool) : cnt g ≤ g.length := List.count_le_length
theorem cnt_set {g : List Bool} {k : Nat} (hk : k < g.length) : cnt (g.set k true) = if g[k] = true then cnt g else cnt g + 1 := by
  induction g generalizing k with
  | nil => simp at hk
  | cons b l ih =>
    cases k with
    | zero => cases b <;> simp [cnt]
    | succ k =>
      have := ih (k := k) (by simpa using hk)
      simp only [cnt, List.set_cons_succ, List.count_cons, List.getElem_cons_succ] at this ⊢
      rw [this]; split <;> omega
/-- which are gone -/
def gonesL (N : Nat) (lost : List Int) : List Bool := marksFrom lost (List.replicate N false) 0 lost.length
def fL2 (more : List (List Int)) (g : List Bool) (n W : Nat) (i : Nat) : Bool := g.getD (n + i) false || decide ((more.getD i []).length = W)
def fL1 (rows : List (List Int)) (sizes : List Int) (g : List Bool) (i : Nat) : Bool := decide (0 ≤ sizes.getD i 0 ∧ sizes.getD i 0 ≤ 16777216) && (g.getD i false || decide (((rows.getD i []).length : Int) = sizes.getD i 0))
def fL0 (N : Nat) (lost : List Int) (i : Nat) : Bool := decide (0 ≤ lost.getD i 0 ∧ lost.getD i 0 < N)
theorem rd_nat (l : List Int) (i : Nat) : rd l (i : Int) = l.getD i 0 := by unfold rd; rw [Int.toNat_natCast]
theorem rdB_nat (l : List Bool) (i : Nat) : rdOf false l (i : Int) = l.getD i false := by unfold rdOf; rw [Int.toNat_natCast]
theorem rdL_nat (l : List (List Int)) (i : Nat) : rd_L2 l (i : Int) = l.getD i [] := by unfold rd_L2; rw [Int.toNat_natCast]
theorem fits_l2 (ls : List Nat) (hls : ls.length ≤ 1000) (n p : Nat) (g : List Bool) (m : Nat) (more : List (List Int)) (hp : more.length = p) (hg : g.length = n + p) (hn : n ≤ 1000) (hp2 : p ≤ 1000) : ∀ (d i k : Nat), i + d = p → d + 1010 ≤ k →
    parity_fits.l2 k (up ls) (n : Int) (p : Int) g (m : Int) more (p : Int) (i : Int) = some (if okFrom (fL2 more g n (wideN ls)) i d = true then (if p < m then ([], 53) else (g, 0)) else ([], 52)) := by
  intro d
  induction d with
  | zero =>
    intro i k hi hk
    obtain ⟨k, rfl⟩ : ∃ m, k = m + 1 := ⟨k - 1, by omega⟩
    rw [parity_fits.l2, if_neg (by omega)]
    show _ = some (if true = true then _ else _)
    rw [if_pos rfl]
    by_cases h : p < m
    · rw [if_pos h, if_pos (by omega)]
    · rw [if_neg h, if_neg (by omega)]
  | succ d ih =>
    intro i k hi hk
    obtain ⟨k, rfl⟩ : ∃ m, k = m + 1 := ⟨k - 1, by omega⟩
    have h2 := ih (i + 1) k (by omega) (by omega)
    have hw : wrap64 ((n : Int) + (i : Int)) = ((n + i : Nat) : Int) := wrs (by omega)
    rw [parity_fits.l2, if_pos (by omega), if_pos (by omega), hp, if_pos (by omega), hw, if_pos (by omega), if_pos (by omega), rdB_nat, wr1 (i := i) (n := p) (by omega) (by omega), h2, wide_f ls hls (by omega), Option.bind_some, rdL_nat]
    rw [okFrom_succ]
    have hf : fL2 more g n (wideN ls) i = (g.getD (n + i) false || decide ((more.getD i []).length = wideN ls)) := rfl
    rw [hf]
    by_cases hb : g.getD (n + i) false = true
    · rw [if_pos hb, hb, Bool.true_or, Bool.true_and]
    · rw [if_neg hb, eq_false_of_ne_true hb, Bool.false_or]
      by_cases hl : (more.getD i []).length = wideN ls
      · rw [if_pos (by omega), decide_eq_true hl, Bool.true_and]
      · rw [if_neg (by omega), decide_eq_false hl, Bool.false_and, if_neg (by decide)]
def ups (sizes : List Int) : List Nat := sizes.map Int.toNat
theorem up_ups {sizes : List Int} (h : ∀ x ∈ sizes, 0 ≤ x) : up (ups sizes) = sizes := by
  unfold up ups
  rw [List.map_map]
  conv => rhs; rw [← List.map_id sizes]
  refine List.map_congr_left (fun x hx => ?_)
  show ((x.toNat : Nat) : Int) = x
  have := h x hx; omega
def fitsR (more : List (List Int)) (sizes : List Int) (n p m : Nat) (g : List Bool) : List Bool × Int := if okFrom (fL2 more g n (wideN (ups sizes))) 0 p = true then (if p < m then ([], 53) else (g, 0)) else ([], 52)
theorem fits_l1 (rows : List (List Int)) (sizes : List Int) (n p : Nat) (g : List Bool) (m : Nat) (more : List (List Int)) (hs : sizes.length = n) (hr : rows.length = n) (hp : more.length = p) (hg : g.length = n + p) (hn : n ≤ 1000) (hp2 : p ≤ 1000) : ∀ (d i k : Nat), i + d = n → d + 3000 ≤ k → (∀ t, t < i → fL1 rows sizes g t = true) →
    parity_fits.l1 k rows sizes more (n : Int) (p : Int) g (m : Int) sizes (n : Int) (i : Int) = some (if okFrom (fL1 rows sizes g) i d = true then fitsR more sizes n p m g else ([], 52)) := by
  intro d
  induction d with
  | zero =>
    intro i k hi hk hall
    obtain ⟨k, rfl⟩ : ∃ m, k = m + 1 := ⟨k - 1, by omega⟩
    obtain rfl : i = n := by omega
    have hpos : ∀ x ∈ sizes, 0 ≤ x := by
      intro x hx
      obtain ⟨t, ht, rfl⟩ := List.getElem_of_mem hx
      have := hall t (by omega)
      unfold fL1 at this
      rw [Bool.and_eq_true, decide_eq_true_eq, List.getD_eq_getElem?_getD, List.getElem?_eq_getElem ht] at this
      exact this.1.1
    have h := fits_l2 (ups sizes) (by unfold ups; rw [List.length_map]; omega) i p g m more hp hg hn hp2 p 0 k (by omega) (by omega)
    rw [up_ups hpos] at h
    rw [parity_fits.l1, if_neg (by omega), hp]
    show _ = some (if true = true then _ else _)
    rw [if_pos rfl]
    exact h
  | succ d ih =>
    intro i k hi hk hall
    obtain ⟨k, rfl⟩ : ∃ m, k = m + 1 := ⟨k - 1, by omega⟩
    have hf : fL1 rows sizes g i = (decide (0 ≤ sizes.getD i 0 ∧ sizes.getD i 0 ≤ 16777216) && (g.getD i false || decide (((rows.getD i []).length : Int) = sizes.getD i 0))) := rfl
    have h2 := ih (i + 1) k (by omega) (by omega)
    rw [parity_fits.l1, if_pos (by omega), if_pos (by omega), hs, if_pos (by omega), rd_nat, rdB_nat, hg, if_pos (show (i : Int) < ((n + p : Nat) : Int) by omega), hr, if_pos (show (i : Int) < (n : Int) by omega), rdL_nat, wr1 (i := i) (n := n) (by omega) (by omega)]
    rw [okFrom_succ]
    have hf2 := hf
    rw [hf2]
    generalize sizes.getD i 0 = s at hf hf2 ⊢
    by_cases c1 : s < 0
    · rw [if_pos c1, decide_eq_false (by omega), Bool.false_and, Bool.false_and, if_neg (by decide)]
    · rw [if_neg c1]
      by_cases c2 : s > 16777216
      · rw [if_pos c2, decide_eq_false (by omega), Bool.false_and, Bool.false_and, if_neg (by decide)]
      · rw [if_neg c2, decide_eq_true (by omega), Bool.true_and]
        rw [decide_eq_true (by omega : 0 ≤ s ∧ s ≤ 16777216), Bool.true_and] at hf
        by_cases hb : g.getD i false = true
        · rw [hb, Bool.true_or] at hf
          rw [if_pos hb, hb, Bool.true_or, Bool.true_and]
          exact h2 (fun t ht => by by_cases e : t = i; (· rw [e]; exact hf); (· exact hall t (by omega)))
        · rw [eq_false_of_ne_true hb, Bool.false_or] at hf
          rw [if_neg hb, eq_false_of_ne_true hb, Bool.false_or]
          by_cases hl : ((rows.getD i []).length : Int) = s
          · rw [decide_eq_true hl] at hf
            rw [if_pos hl, decide_eq_true hl, Bool.true_and]
            exact h2 (fun t ht => by by_cases e : t = i; (· rw [e]; exact hf); (· exact hall t (by omega)))
          · rw [if_neg hl, decide_eq_false hl, Bool.false_and, if_neg (by decide)]
def fitsQ (rows : List (List Int)) (sizes : List Int) (more : List (List Int)) (n p m : Nat) (g : List Bool) : List Bool × Int := if okFrom (fL1 rows sizes g) 0 n = true then fitsR more sizes n p m g else ([], 52)
theorem fits_l0 (rows : List (List Int)) (sizes : List Int) (n p : Nat) (more : List (List Int)) (lost : List Int) (hlo : lost.length ≤ 140737488355328) (hs : sizes.length = n) (hr : rows.length = n) (hp : more.length = p) (hn : n ≤ 1000) (hp2 : p ≤ 1000) : ∀ (d i k : Nat) (g : List Bool), i + d = lost.length → 2 * d + 5000 ≤ k → g.length = n + p →
    parity_fits.l0 k rows sizes more (n : Int) (p : Int) g ((cnt g : Nat) : Int) lost (lost.length : Int) (i : Int) = some (if okFrom (fL0 (n + p) lost) i d = true then fitsQ rows sizes more n p (cnt (marksFrom lost g i d)) (marksFrom lost g i d) else ([], 52)) := by
  intro d
  induction d with
  | zero =>
    intro i k g hi hk hg
    obtain ⟨k, rfl⟩ : ∃ m, k = m + 1 := ⟨k - 1, by omega⟩
    have h := fits_l1 rows sizes n p g (cnt g) more hs hr hp hg hn hp2 n 0 k (by omega) (by omega) (fun t ht => absurd ht (by omega))
    rw [parity_fits.l0, if_neg (by omega), hs]
    show _ = some (if true = true then _ else _)
    rw [if_pos rfl]
    exact h
  | succ d ih =>
    intro i k g hi hk hg
    obtain ⟨k, rfl⟩ : ∃ m, k = m + 2 := ⟨k - 2, by omega⟩
    have hf : fL0 (n + p) lost i = decide (0 ≤ rd lost (i : Int) ∧ rd lost (i : Int) < ((n + p : Nat) : Int)) := by unfold fL0; rw [rd_nat]
    have h2 := fun g' hg' => ih (i + 1) k g' (by omega) (by omega) hg'
    have hci : wrap64 ((i : Int) + 1) = ((i + 1 : Nat) : Int) := wr1 (i := i) (n := lost.length) (by omega) hlo
    have hcl := cnt_le g
    have hcm : wrap64 (((cnt g : Nat) : Int) + 1) = ((cnt g + 1 : Nat) : Int) := wrs (a := cnt g) (b := 1) (by omega)
    have hw : wrap64 ((n : Int) + (p : Int)) = ((n + p : Nat) : Int) := wrs (by omega)
    have hi1 : (i : Int) < (lost.length : Int) := by clear hw hcm hci h2 ih; omega
    have hi0 : (0 : Int) ≤ (i : Int) := by clear hw hcm hci h2 ih; omega
    have HCI := Aside0.mk hci
    have HCM := Aside0.mk hcm
    rw [parity_fits.l0, if_pos hi1, if_pos hi0, if_pos hi1, hw]
    clear hci hcm hw
    rw [okFrom_succ, marksFrom_succ]
    rw [hf]
    generalize rd lost (i : Int) = s at hf ⊢
    by_cases c1 : s < 0
    · rw [if_pos c1, parity_fits.j2, if_pos rfl, decide_eq_false (by omega), Bool.false_and, if_neg (by decide)]
    · rw [if_neg c1]
      by_cases c2 : s ≥ ((n + p : Nat) : Int)
      · rw [decide_eq_true c2, parity_fits.j2, if_pos rfl, decide_eq_false (by omega), Bool.false_and, if_neg (by decide)]
      · obtain ⟨t, rfl⟩ := Int.eq_ofNat_of_zero_le (show 0 ≤ s by omega)
        have ht : t < g.length := by omega
        rw [decide_eq_false c2, parity_fits.j2, if_neg (by decide), if_pos (by omega), if_pos (by omega), rdB_nat, decide_eq_true (by omega), Bool.true_and, HCI.out, Int.toNat_natCast, HCM.out]
        have h3 := h2 (g.set t true) (by rw [List.length_set]; exact hg)
        have hgd : g.getD t false = g[t] := by rw [List.getD_eq_getElem?_getD, List.getElem?_eq_getElem ht]; rfl
        have hcs := cnt_set ht
        rw [hgd]
        by_cases hb : g[t] = true
        · rw [if_pos hb] at hcs ⊢
          rw [hcs] at h3
          exact h3
        · rw [if_neg hb] at hcs ⊢
          rw [hcs] at h3
          exact h3
def fitsL (rows : List (List Int)) (sizes : List Int) (more : List (List Int)) (lost : List Int) : List Bool × Int :=
  if 200 < rows.length ∨ 16 < more.length then ([], 51)
  else if sizes.length ≠ rows.length then ([], 52)
  else if okFrom (fL0 (rows.length + more.length) lost) 0 lost.length = true then fitsQ rows sizes more rows.length more.length (cnt (gonesL (rows.length + more.length) lost)) (gonesL (rows.length + more.length) lost)
  else ([], 52)
theorem fits_f (rows : List (List Int)) (sizes : List Int) (more : List (List Int)) (lost : List Int) (hlo : lost.length ≤ 140737488355328) {k : Nat} (hk : 2 * lost.length + 6000 ≤ k) : parity_fits.f k rows sizes more lost = some (fitsL rows sizes more lost) := by
  obtain ⟨k, rfl⟩ : ∃ m, k = m + 1 := ⟨k - 1, by omega⟩
  unfold parity_fits.f fitsL
  by_cases h1 : 200 < rows.length
  · rw [if_pos (by omega), if_pos (.inl h1), parity_fits.j0, if_pos rfl]
  · rw [if_neg (by omega)]
    by_cases h2 : 16 < more.length
    · rw [decide_eq_true (by omega), if_pos (.inr h2), parity_fits.j0, if_pos rfl]
    · rw [decide_eq_false (by omega), if_neg (by omega), parity_fits.j0, if_neg (by decide)]
      have hw : wrap64 ((rows.length : Int) + (more.length : Int)) = ((rows.length + more.length : Nat) : Int) := wrs (by omega)
      by_cases h3 : sizes.length = rows.length
      · have hc0 : cnt (List.replicate (rows.length + more.length) false) = 0 := by unfold cnt; simp [List.count_replicate]
        have h := fits_l0 rows sizes rows.length more.length more lost hlo h3 rfl rfl (by omega) (by omega) lost.length 0 k (List.replicate (rows.length + more.length) false) (by omega) (by omega) List.length_replicate
        rw [hc0] at h
        rw [if_pos (by omega), hw, if_pos (by omega), Int.toNat_natCast, if_pos (by omega), if_neg (fun e => e h3)]
        exact h
      · rw [if_neg (by omega), if_pos h3]
end Go.Proofs.Ytdhajlkiiphlfaa.Par
