/- A part of the proof of ParityPlays: see the text's theorems. No conditions beyond their own. -/
import Derived.Test.YtdhajlkiiphlfaaYb
import Derived.Deep.CutRange
import Derived.Lib.SlBytesConst
import Derived.Lib.BufferWrite
import Derived.Test.YtdhajlkiiphlfaaProg
import Derived.Below
import Derived.Deep.Draws
import Derived.Deep.AppendLies
import Derived.Maps.AppendAt
import Derived.OwnWalk
import Derived.Laws.BytesArg
import Derived.Laws.MakeOwn
import Derived.Laws.OwnMore
import Derived.Deep.OwnRows
import Derived.Tactics
import Derived.Lib.ConvBytes
import Derived.Laws.Slices
import Derived.WalkKit
import Derived.KernelRfl
import Derived.RowKit3
import Derived.Deep.LoopGhost
import Derived.Deep.QuietTactic
import Derived.BigQuiet
import Derived.WideLaws
import Derived.Deep.DeepCutAuto
import Derived.Deep.CutBlock
import Derived.Deep.RegionHeld3
import Derived.Laws.Rows
import Derived.Lib.AppendStr
import Derived.ArgAppend
import Derived.Laws.IdiomCopy
import Derived.OrdersHeld
import Derived.Laws.BitsLemmas
import Derived.RowKit
import Derived.Test.YtdhajlkiiphlfaaYa
set_option linter.unusedVariables false
set_option linter.unusedSimpArgs false
namespace Go.Proofs.Ytdhajlkiiphlfaa.Par
open Go.RowKit Go.Proofs.Ytdhajlkiiphlfaa.QB Go.Proofs.YtdhajlkiiphlfaaW.PrintWords Go.Proofs.YtdhajlkiiphlfaaW.PrintLast Go.Proofs.YtdhajlkiiphlfaaW.PrintMore Go.Proofs.Ytdhajlkiiphlfaa.Solve
def part (c : Nat → Int) (rows : List (List Int)) (z : List Int) : Nat → List Int
 | 0 => z
 | j + 1 => addAt (c j) (rows.getD j []) 0 (part c rows z j)
theorem q0s (c : Nat → Int) (rows : List (List Int)) (z : List Int) : ∀ j, (part c rows z j).length = z.length
 | 0 => rfl
 | j + 1 => by rw [part, q1l, q0s c rows z j]
theorem part_in (c : Nat → Int) (rows : List (List Int)) (z : List Int) (hz : ∀ y ∈ z, In8 y) : ∀ j, (∀ t, t < j → In8 (c t)) → ∀ y ∈ part c rows z j, In8 y
 | 0, _ => hz
 | j + 1, h => by rw [part]; exact addAt_in _ (h j (by omega)) _ _ _ (part_in c rows z hz j (fun t ht => h t (by omega)))
def q0f (rows : List (List Int)) : Nat := wideN (rows.map List.length)
def zeros (n : Nat) : List Int := List.replicate n 0
theorem zeros_in (n : Nat) : ∀ y ∈ zeros n, In8 y := fun y hy => by rw [List.eq_of_mem_replicate hy]; exact ⟨by decide, by decide⟩
def q1s (rows : List (List Int)) (i : Nat) : List Int := part (cE i) rows (zeros (q0f rows)) rows.length
def madeL (rows : List (List Int)) (p : Nat) : List (List Int) := (List.range p).map (q1s rows)
def midO (rows : List (List Int)) (p i : Nat) : List (List Int) := (List.range p).map fun t => if t < i then q1s rows t else zeros (q0f rows)
def midI (rows : List (List Int)) (p i j : Nat) : List (List Int) := (midO rows p i).set i (part (cE i) rows (zeros (q0f rows)) j)
theorem midO_get (rows : List (List Int)) {p i t : Nat} (ht : t < p) : (midO rows p i)[t]? = some (if t < i then q1s rows t else zeros (q0f rows)) := by
 unfold midO; rw [List.getElem?_map, List.getElem?_range ht]; rfl
theorem midO_length (rows : List (List Int)) (p i : Nat) : (midO rows p i).length = p := by simp [midO]
theorem midO_zero (rows : List (List Int)) (p : Nat) : midO rows p 0 = (List.replicate p (q0f rows)).map fun k => List.replicate k (0 : Int) := by
 unfold midO zeros; simp [List.map_const']
theorem midO_all (rows : List (List Int)) (p : Nat) : midO rows p p = madeL rows p := by
 unfold midO madeL
 apply List.map_congr_left
 intro t ht; rw [if_pos (List.mem_range.1 ht)]
theorem midI_zero (rows : List (List Int)) {p i : Nat} (hi : i < p) : midI rows p i 0 = midO rows p i := by
 unfold midI
 refine set_same ?_
 rw [midO_get rows hi, if_neg (by omega)]; rfl
theorem midI_all (rows : List (List Int)) {p i : Nat} (hi : i < p) : midI rows p i rows.length = midO rows p (i + 1) := by
 unfold midI
 apply List.ext_getElem?
 intro t
 by_cases ht : t < p
 ·
  rw [midO_get rows ht]
  by_cases e : i = t
  · subst e; rw [List.getElem?_set_self (by rw [midO_length]; exact hi), if_pos (by omega)]; rfl
  · rw [List.getElem?_set_ne e, midO_get rows ht]
    by_cases h : t < i
    · rw [if_pos h, if_pos (by omega)]
    · rw [if_neg h, if_neg (by omega)]
 · rw [List.getElem?_eq_none (by rw [List.length_set, midO_length]; omega), List.getElem?_eq_none (by rw [midO_length]; omega)]
theorem midI_get (rows : List (List Int)) {p i : Nat} (hi : i < p) (j : Nat) : (midI rows p i j)[i]? = some (part (cE i) rows (zeros (q0f rows)) j) := by
 unfold midI; rw [List.getElem?_set_self (by rw [midO_length]; exact hi)]
theorem midI_succ (rows : List (List Int)) {p i : Nat} (hi : i < p) (j : Nat) : (midI rows p i j).set i (addAt (cE i j) (rows.getD j []) 0 (part (cE i) rows (zeros (q0f rows)) j)) = midI rows p i (j + 1) := by
 unfold midI; rw [List.set_set]; rfl
theorem moreRow_in (rows : List (List Int)) (hn : rows.length ≤ 256) (i : Nat) : ∀ y ∈ q1s rows i, In8 y := part_in _ _ _ (zeros_in _) _ (fun t ht => cE_in (by omega))
theorem midI_in (rows : List (List Int)) (hn : rows.length ≤ 256) (p i j : Nat) (hj : j ≤ rows.length) : ∀ y ∈ (midI rows p i j).flatten, In8 y := by
 intro y hy
 obtain ⟨r, hr, hy⟩ := List.mem_flatten.1 hy
 rcases List.mem_or_eq_of_mem_set hr with hr | rfl
 · obtain ⟨t, _, rfl⟩ := List.mem_map.1 hr
   split at hy
   · exact moreRow_in rows hn t y hy
   · exact zeros_in _ y hy
 · exact part_in _ _ _ (zeros_in _) _ (fun t ht => cE_in (by omega)) y hy
theorem Cu.added {w w' : World} {base g b : Nat} {m : List (List Int)} (h : Cu w base g b m) (hk : Kept w w' (fun k => k = b)) {i o : Nat} {r l : List Int} (hi : m[i]? = some r) (ho : 0 < r.length → o = ((m.take i).flatten).length) (hl : l.length ≤ r.length) (c : Int)
    (hd : w'.heap[b]? = some (.cells (q18 (addAt c l o m.flatten)) 5 (0, 0))) : Cu w' base g b (m.set i (addAt c l 0 r)) := by
 refine h.put hk hi (q1l _ _ _ _) ?_
 rw [hd]
 by_cases hr : 0 < r.length
 · rw [ho hr, addAt_flat hi hl]
 · have e : l = [] := List.eq_nil_of_length_eq_zero (by omega)
   subst e
   show some (Obj.cells (q18 m.flatten) 5 (0, 0)) = some (Obj.cells (q18 (m.set i r).flatten) 5 (0, 0))
   rw [set_same hi]
theorem off_le {m : List (List Int)} {i o W : Nat} {r l : List Int} (h1 : o ≤ m.flatten.length) (h2 : 0 < W → o = ((m.take i).flatten).length) (hg : m[i]? = some r) (hl : l.length ≤ W) (hr : r.length = W) : o + l.length ≤ m.flatten.length := by
 by_cases h : 0 < W
 · rw [h2 h, q22 hg, List.length_append, List.length_append]; omega
 · omega
theorem flat_const {m : List (List Int)} {W : Nat} (h : ∀ r ∈ m, r.length = W) : m.flatten.length = m.length * W := by
 induction m with
 | nil => simp
 | cons r l ih =>
  rw [List.flatten_cons, List.length_append, ih (fun q hq => h q (List.mem_cons_of_mem _ hq)), h r List.mem_cons_self, List.length_cons, Nat.add_mul]; omega
theorem midI_rows (rows : List (List Int)) (p i j : Nat) : ∀ r ∈ midI rows p i j, r.length = q0f rows := by
 intro r hr
 have hz : (zeros (q0f rows)).length = q0f rows := List.length_replicate
 rcases List.mem_or_eq_of_mem_set hr with hr | rfl
 · obtain ⟨t, _, rfl⟩ := List.mem_map.1 hr
   split
   · unfold q1s; rw [q0s, hz]
   · exact hz
 · rw [q0s, hz]
theorem flat_small (rows : List (List Int)) (p i j : Nat) (hp : p ≤ 16) (hw : q0f rows ≤ 16777216) : (midI rows p i j).flatten.length ≤ 268435456 := by
 rw [flat_const (midI_rows rows p i j)]
 have h1 : (midI rows p i j).length = p := by unfold midI; rw [List.length_set, midO_length]
 rw [h1]
 exact Nat.le_trans (Nat.mul_le_mul hp hw) (by decide)
structure Mk (w0 w1 w : World) (g b : Nat) (m : List (List Int)) : Prop where
 below : Below w0.heap.size w0 w
 kept : Kept w1 w (fun k => k = b)
 cu : Cu w w0.heap.size g b m
set_option maxHeartbeats 800000 in
set_option maxRecDepth 100000 in
theorem made_calls (A0 : Option Addr) (c0 : Nat) (rows : List (List Int)) (p : Nat) (w : World) (hr0 : Kd.C (Kd.slice 5 (Kd.int .u8)) w A0 rows.length rows) (hc0 : rows.length ≤ c0) (hn : rows.length ≤ 200) (hp : p ≤ 16) (hin : ∀ r ∈ rows, ∀ y ∈ r, In8 y) (hlen : ∀ r ∈ rows, r.length ≤ 16777216) :
    Calls Try.prog 29 #[.slice A0 rows.length c0, .int .i64 (p : Int)] w fun e w' => ∃ g b, e = .returned (.slice (some ⟨g, 0, none⟩) p p) ∧ Cu w' w.heap.size g b (madeL rows p) ∧ Below w.heap.size w w' := by
 have HW : q0f rows ≤ 16777216 := wideN_le (fun x hx => by obtain ⟨r, hr, rfl⟩ := List.mem_map.1 hx; exact hlen r hr)
 have HLE : Aside0 (∀ r ∈ rows, r.length ≤ q0f rows) := ⟨fun r hr => le_wideN (List.mem_map.2 ⟨r, hr, rfl⟩)⟩
 have HR0 := sqM hr0
 have HC0 := sqM hc0
 have HN := sqM hn
 have HP := sqM hp
 have HIN := sqM hin
 have HWI := sqM HW
 have F1 : Aside0 (parity_lengths.f 2000 rows = some (up (rows.map List.length))) := ⟨lengths_f rows (by omega) (by omega)⟩
 have F2 : Aside0 (parity_wide.f 2000 (up (rows.map List.length)) = some ((q0f rows : Nat) : Int)) := ⟨wide_f (rows.map List.length) (by rw [List.length_map]; omega) (by omega)⟩
 have F3 : Aside0 (parity_same.f 2000 ((q0f rows : Nat) : Int) (p : Int) = some (up (List.replicate p (q0f rows)))) := ⟨by rw [same_f _ _ (by omega) (by omega)]; unfold up; rw [List.map_replicate]⟩
 have F4 : Aside0 (parity_matrix.f 80000 (p : Int) (rows.length : Int) = some (matL p rows.length)) := ⟨matrix_f hp hn (by omega)⟩
 have F5 : Aside0 ((up (List.replicate p (q0f rows))).length = p) := ⟨by rw [q27, List.length_replicate]⟩
 have F6 : Aside0 ((List.replicate p (q0f rows)).sum ≤ 281474976710656) := ⟨by rw [List.sum_replicate_nat]; have := Nat.mul_le_mul hp HW; omega⟩
 clear hr0 hc0 hn hp hin HW hlen
 go_enter Try.func29, Try.ntmps29
 go_wp2_with (first
  | (go_at_call 46; (with_reducible refine (parity_lengths.calls 2000 _ _ rows _ _ ?s1 HC0.out F1.out).mono ?_); (case s1 => exact HR0.out); rintro e w1 ⟨v1, rfl, ho, hb⟩; obtain ⟨A1, c1, rfl, hl1, hC1⟩ := Kd.R_reads ho; have HC1 := sqM hC1; have HL1 := sqM hl1; have HB1 := sqM hb; clear ho hC1 hl1 hb)
  | (go_at_call 31; (with_reducible refine (parity_wide.calls 2000 _ _ _ _ _ ?s1 HL1.out F2.out).mono ?_); (case s1 => exact HC1.out); rintro e w2 ⟨rfl, hb⟩; have HB2 := sqM (q04 HB1.out hb); clear hb)
  | (go_at_call 45; (with_reducible refine (parity_same.calls 2000 _ _ _ _ F3.out).mono ?_); rintro e w3 ⟨v3, rfl, ho, hb⟩; obtain ⟨A3, c3, rfl, hl3, hC3⟩ := Kd.R_reads ho; have HC3 := sqM hC3; have HB3 := sqM (q04 HB2.out hb); clear ho hC3 hl3 hb)
  | (go_at_call 32; (with_reducible refine (cut_calls' _ _ _ (List.replicate p (q0f rows)) ?s1 _ ?s2 ?s3 F6.out).mono ?_); (case s1 => rw [F5.out, List.length_replicate]); (case s2 => exact HC3.out); (case s3 => rw [F5.out]; have := HP.out; omega); rw [F5.out]; rintro e w4 ⟨g, b, rfl, hcu, hb⟩; have HB4 := sqM (q04 HB3.out hb); have HCU := sqM (hcu.base_down (q01 HB3.out)); clear hcu hb)
  | (go_at_call 33; (with_reducible refine (parity_matrix.calls 80000 _ _ _ _ F4.out).mono ?_); rintro e w5 ⟨v5, rfl, ho, hb⟩))
 have hbl := HCU.out.lt_b
 obtain ⟨Am, cm, rfl, hlm, _⟩ := Kd.S_reads ho
 have HM : Aside0 (∀ W, Kept w5 W (fun k => k = b) → Kd.C (Kd.slice 5 (Kd.int .u8)) W Am (matL p rows.length).length (matL p rows.length)) := ⟨Kd.C_kept_own (Kd.R_bound (Kd.S_R ho)) (fun k hk e => by have := hk.2.1; omega)⟩
 have HMK : Aside0 (Mk w w5 w5 g b (midO rows p 0)) := ⟨⟨q04 HB4.out hb, Kept.refl _ _, by rw [midO_zero]; exact HCU.out.below hb⟩⟩
 clear HC1 HL1 HB1 HB2 HC3 HB3 HB4 HCU ho hb hbl hlm F1 F2 F3 F4 F5 F6
 have hml : (matL p rows.length).length = p := by unfold matL cau; split <;> simp
 rw [hml] at HM ⊢
 clear hml
 go_loopw [22] (fun v22 wr => ∃ i : Nat, i ≤ p ∧ v22 = .int .i64 (i : Int) ∧ Aside0 (Mk w w5 wr g b (midO rows p i))) (fun v22 _ => p - (intOf v22).toNat)
 case atStart => exact ⟨0, Nat.zero_le _, rfl, HMK⟩
 case round =>
  clear HMK
  obtain ⟨i, hi, rfl, HMK⟩ := hrel
  by_cases hlt : i < p
  ·
   have HLT := sqM hlt
   have hli : (i : Int) < (p : Int) := by omega
   have HW1 := sqM (wr1 (i := i) hlt (by have := HP.out; omega))
   rw [← midI_zero rows hlt] at HMK
   clear hlt hi
   go_wp2
   go_loopw [27] (fun v27 wr => ∃ j : Nat, j ≤ rows.length ∧ v27 = .int .i64 (j : Int) ∧ Aside0 (Mk w w5 wr g b (midI rows p i j))) (fun v27 _ => rows.length - (intOf v27).toNat)
   case atStart => exact ⟨0, Nat.zero_le _, rfl, HMK⟩
   case round =>
    clear HMK
    obtain ⟨j, hj, rfl, HMK⟩ := hrel
    by_cases hjlt : j < rows.length
    ·
     have HJ := sqM hjlt
     have HW2 := sqM (wr1 (i := j) hjlt (by have := HN.out; omega))
     have hlj : (j : Int) < (rows.length : Int) := by omega
     have hmc := HMK.out.cu
     obtain ⟨o, hh1, hole, hoff⟩ := hmc.head (midI_get rows HLT.out j)
     rw [q0s] at hh1 hoff
     obtain ⟨ad, A2, c2, e2, hx2, hl2, hC2⟩ := at_L2 HR0.out (j : Int) (by omega) (by omega)
     cases e2
     have hrow : rd_L2 rows (j : Int) = rows.getD j [] := by unfold rd_L2; rw [Int.toNat_natCast]
     rw [hrow] at hx2 hl2 hC2
     rw [Int.toNat_natCast] at hx2
     replace hx2 := (HMK.out.below.cell (World.block_lt_of_cell? w _ hx2)).trans hx2
     have hmem : rows.getD j [] ∈ rows := by rw [List.getD_eq_getElem?_getD, List.getElem?_eq_getElem hjlt]; exact List.getElem_mem hjlt
     have hsucc := midI_succ rows HLT.out j
     have hmat : matL p rows.length = cau p rows.length := by unfold matL; rw [if_neg (by have := HLT.out; omega)]
     have hCm := HM.out _ HMK.out.kept
     rw [hmat] at hCm
     obtain ⟨am, A3, c3, e3, hx3, hl3, hC3⟩ := at_L2 hCm (i : Int) (by omega) (by omega)
     cases e3
     rw [rowZ (cau_row HLT.out), Int.toNat_natCast] at hx3
     rw [rowZ (cau_row HLT.out)] at hC3
     rw [List.length_map, List.length_range] at hx3 hC3
     obtain ⟨ae, e4, hx4⟩ := Kd.at_int hC3 (j : Int) (by omega) (by omega)
     cases e4
     rw [elZ (y := cE i j) (by rw [List.getElem?_map, List.getElem?_range hjlt]; rfl), Int.toNat_natCast] at hx4
     obtain ⟨l, hl⟩ : ∃ l, l = rows.getD j [] := ⟨_, rfl⟩
     rw [← hl] at hx2 hl2 hC2 hmem hsucc
     have HSU := sqM hsucc
     have HOFF := sqM hoff
     have HOLE := sqM hole
     have HC2 := sqM hC2
     have HMEM := sqM hmem
     have HGET := sqM (midI_get rows HLT.out j)
     have hzl : (zeros (q0f rows)).length = q0f rows := List.length_replicate
     rw [hzl] at hh1 HOFF
     clear hsucc hoff hole hC2 hmem hl hmat hCm hC3 hl2 hl3 hrow hjlt hj hmc hzl
     go_wp2_with (fail)
     go_still_tail 12, (by kernel_rfl)
     change wpList _ _ _ _ _ wr.drew
     have hcd : Cu wr.drew w.heap.size g b (midI rows p i j) := HMK.out.cu.below (q06 (Below.refl _ _))
     have HCD := sqM hcd
     have HBD : Aside0 (Below w.heap.size w wr.drew) := ⟨q06 HMK.out.below⟩
     have HKD : Aside0 (Kept w5 wr.drew (fun k => k = b)) := ⟨HMK.out.kept⟩
     clear hcd
     generalize wr.drew = wd at HCD HBD HKD ⊢
     go_wp2_with (first | (go_at_call 34; (with_reducible refine (add_calls w _ b o _ _ (midI rows p i j).flatten _ _ l (cE i j) ?s1 ?s2 ?s3 ?s4 ?s5 ?s6 ?s7 ?s8 ?s9 ?s10 ?s11).mono ?_); go_loud ((case s1 => exact HBD.out); (case s2 => exact HCD.out.hb); (case s3 => exact HCD.out.data); (case s4 => exact midI_in rows (by have := HN.out; omega) p i j (by have := HJ.out; omega)); (case s5 => exact HLE.out _ HMEM.out); (case s6 => exact off_le HOLE.out HOFF.out HGET.out (HLE.out _ HMEM.out) (by rw [q0s]; exact List.length_replicate)); (case s7 => have := HCD.out.many; have := flat_small rows p i j HP.out HWI.out; omega); (case s8 => have := HWI.out; omega); (case s9 => exact Kd.C_kept_came (Kd.heap_int _) HC2.out HBD.out (fun k hk => by rw [hk]; exact HCD.out.hb)); (case s10 => exact HIN.out _ HMEM.out); (case s11 => exact cE_in (by have := HN.out; have := HJ.out; omega)); rintro e w9 ⟨rfl, hb9, hk9, hd9⟩; have HB9 := sqM hb9; have HK9 := sqM hk9; have HD9 := sqM hd9; clear hb9 hk9 hd9)))
     have HMK9 : Aside0 (Mk w w5 w9 g b (midI rows p i (j + 1))) := ⟨⟨HB9.out, HKD.out.then_ HK9.out (fun k hk => .inl hk), by
      rw [← HSU.out]
      exact HCD.out.added HK9.out HGET.out (by rw [q0s]; intro hp; exact HOFF.out (by rwa [show (zeros (q0f rows)).length = q0f rows from List.length_replicate] at hp)) (by rw [q0s, show (zeros (q0f rows)).length = q0f rows from List.length_replicate]; exact HLE.out _ HMEM.out) _ HD9.out⟩⟩
     clear HB9 HK9 HD9
     go_roundw
     case rel => exact ⟨j + 1, HJ.out, by rw [HW2.out], HMK9⟩
     case measure => exact meas HW2.out HJ.out
    · obtain rfl : j = rows.length := by omega
      rw [midI_all rows HLT.out] at HMK
      go_wp2
      go_roundw
      case rel => exact ⟨i + 1, HLT.out, by rw [HW1.out], HMK⟩
      case measure => exact meas HW1.out HLT.out
  · obtain rfl : i = p := by omega
    rw [midO_all] at HMK
    go_wp2
    go_ret
    exact ⟨g, b, rfl, HMK.out.cu, HMK.out.below⟩
end Go.Proofs.Ytdhajlkiiphlfaa.Par
namespace Go.Proofs.Ytdhajlkiiphlfaa.Par
open Go.RowKit Go.Proofs.Ytdhajlkiiphlfaa.QB Go.Proofs.YtdhajlkiiphlfaaW.PrintWords Go.Proofs.YtdhajlkiiphlfaaW.PrintLast Go.Proofs.YtdhajlkiiphlfaaW.PrintMore Go.Proofs.Ytdhajlkiiphlfaa.Solve
def rowsFit (rows : List (List Int)) : Bool := rows.all fun r => decide (r.length ≤ 16777216)
theorem rowsFit_iff {rows : List (List Int)} : rowsFit rows = true ↔ ∀ r ∈ rows, r.length ≤ 16777216 := by
 unfold rowsFit; rw [List.all_eq_true]
 exact ⟨fun h r hr => of_decide_eq_true (h r hr), fun h r hr => decide_eq_true (h r hr)⟩
set_option maxHeartbeats 800000 in
set_option maxRecDepth 100000 in
theorem make_51 (A0 : Option Addr) (c0 : Nat) (rows : List (List Int)) (p : Int) (w : World) (h : 200 < rows.length ∨ p < 0 ∨ 16 < p) :
    Calls Try.prog 15 #[.slice A0 rows.length c0, .int .i64 p] w fun e w' => e = .returned (.tuple #[.slice none 0 0, .int .i64 51]) ∧ Below w.heap.size w w' := by
 by_cases h1 : 200 < rows.length
 ·
  have h2 : decide (200 < (rows.length : Int)) = true := decide_eq_true (by omega)
  have h3 : decide (200 < rows.length) = true := decide_eq_true h1
  clear h h1
  go_enter Try.func15, Try.ntmps15
  go_wp2
  go_ret2
  exact ⟨rfl, by repeat (first | (with_reducible (exact Below.refl _ _)))⟩
 ·
  have h2 : decide (200 < (rows.length : Int)) = false := decide_eq_false (by omega)
  have h3 : decide (200 < rows.length) = false := decide_eq_false h1
  by_cases h4 : p < 0
  · have h5 : decide (p < 0) = true := decide_eq_true h4
    clear h h1 h4
    go_enter Try.func15, Try.ntmps15
    go_wp2
    go_ret2
    exact ⟨rfl, by repeat (first | (with_reducible (exact Below.refl _ _)))⟩
  ·
   have h5 : decide (p < 0) = false := decide_eq_false h4
   have h6 : decide (16 < p) = true := decide_eq_true (by omega)
   clear h h1 h4
   go_enter Try.func15, Try.ntmps15
   go_wp2
   go_ret2
   exact ⟨rfl, by repeat (first | (with_reducible (exact Below.refl _ _)))⟩
def MakePost (w : World) (rows : List (List Int)) (p : Nat) (e : Ending) (w' : World) : Prop := if rowsFit rows = true then (∃ g b, e = .returned (.tuple #[.slice (some ⟨g, 0, none⟩) p p, .int .i64 0]) ∧ Cu w' w.heap.size g b (madeL rows p) ∧ Below w.heap.size w w') else (e = .returned (.tuple #[.slice none 0 0, .int .i64 52]) ∧ Below w.heap.size w w')
theorem MakePost.yes {w w' : World} {rows : List (List Int)} {p : Nat} {e : Ending} (h : rowsFit rows = true) {g b : Nat} (he : e = .returned (.tuple #[.slice (some ⟨g, 0, none⟩) p p, .int .i64 0])) (h1 : Cu w' w.heap.size g b (madeL rows p)) (h2 : Below w.heap.size w w') : MakePost w rows p e w' := by
 unfold MakePost; rw [if_pos h]; exact ⟨g, b, he, h1, h2⟩
theorem MakePost.no {w w' : World} {rows : List (List Int)} {p : Nat} {e : Ending} (h : rowsFit rows = false) (he : e = .returned (.tuple #[.slice none 0 0, .int .i64 52])) (h2 : Below w.heap.size w w') : MakePost w rows p e w' := by
 unfold MakePost; rw [if_neg (by rw [h]; decide)]; exact ⟨he, h2⟩
set_option maxHeartbeats 800000 in
set_option maxRecDepth 100000 in
theorem make_ok (A0 : Option Addr) (c0 : Nat) (rows : List (List Int)) (p : Nat) (w : World) (hr0 : Kd.C (Kd.slice 5 (Kd.int .u8)) w A0 rows.length rows) (hc0 : rows.length ≤ c0) (hn : rows.length ≤ 200) (hp : p ≤ 16) (hin : ∀ r ∈ rows, ∀ y ∈ r, In8 y) :
    Calls Try.prog 15 #[.slice A0 rows.length c0, .int .i64 (p : Int)] w (MakePost w rows p) := by
 have HR0 := sqM hr0
 have HC0 := sqM hc0
 have HN := sqM hn
 have HP := sqM hp
 have HIN := sqM hin
 have h2 : decide (200 < (rows.length : Int)) = false := decide_eq_false (by omega)
 have h3 : decide (200 < rows.length) = false := decide_eq_false (by omega)
 have h5 : decide ((p : Int) < 0) = false := decide_eq_false (by omega)
 have h6 : decide (16 < (p : Int)) = false := decide_eq_false (by omega)
 have h7 : decide (16 < p) = false := decide_eq_false (by omega)
 clear hr0 hc0 hn hp hin
 go_enter Try.func15, Try.ntmps15
 go_wp2
 go_loopw [21] (fun v21 wr => ∃ i : Nat, i ≤ rows.length ∧ v21 = .int .i64 (i : Int) ∧ Aside0 (∀ r ∈ rows.take i, r.length ≤ 16777216) ∧ Aside0 (Below w.heap.size w wr)) (fun v21 _ => rows.length - (intOf v21).toNat)
 case atStart => exact ⟨0, Nat.zero_le _, rfl, ⟨fun r hr => by cases hr⟩, ⟨by repeat (first | (with_reducible (exact Below.refl _ _)))⟩⟩
 case round =>
  obtain ⟨i, hi, rfl, HA, HB⟩ := hrel
  by_cases hlt : i < rows.length
  ·
   obtain ⟨ad, A2, c2, e2, hx2, hl2, hC2⟩ := at_L2 HR0.out (i : Int) (by omega) (by omega)
   cases e2
   have hrow : rd_L2 rows (i : Int) = rows[i] := by unfold rd_L2; rw [Int.toNat_natCast, List.getD_eq_getElem?_getD, List.getElem?_eq_getElem hlt]; rfl
   rw [hrow, Int.toNat_natCast] at hx2
   replace hx2 := (HB.out.cell (World.block_lt_of_cell? w _ hx2)).trans hx2
   have HW1 := sqM (wr1 (i := i) hlt (by have := HN.out; omega))
   have HLT := sqM hlt
   have HTK := sqM (take_one rows hlt)
   have HMEM := sqM (List.getElem_mem hlt)
   generalize rows[i] = r at hx2 HTK HMEM
   clear hrow hl2 hC2
   by_cases hr : 16777216 < r.length
   ·
    have hr1 : decide (16777216 < (r.length : Int)) = true := decide_eq_true (by omega)
    have hr2 : decide (16777216 < r.length) = true := decide_eq_true hr
    have HF : Aside0 (rowsFit rows = false) := ⟨by
     cases e : rowsFit rows with
     | false => rfl
     | true => have := rowsFit_iff.1 e r HMEM.out; omega⟩
    clear hr
    go_wp2
    go_ret2
    exact MakePost.no HF.out rfl HB.out
   ·
    have hr1 : decide (16777216 < (r.length : Int)) = false := decide_eq_false (by omega)
    have hr2 : decide (16777216 < r.length) = false := decide_eq_false hr
    have HA2 : Aside0 (∀ q ∈ rows.take (i + 1), q.length ≤ 16777216) := ⟨fun q hq => by
     rw [HTK.out] at hq
     rcases List.mem_append.1 hq with hq | hq
     · exact HA.out q hq
     · rw [List.mem_singleton.1 hq]; omega⟩
    clear hr
    go_wp2
    go_roundw
    case rel => exact ⟨i + 1, HLT.out, by rw [HW1.out], HA2, HB⟩
    case measure => exact meas HW1.out HLT.out
  ·
   obtain rfl : i = rows.length := by omega
   rw [List.take_length] at HA
   have HF : Aside0 (rowsFit rows = true) := ⟨rowsFit_iff.2 HA.out⟩
   have hC := Kd.C_below HR0.out HB.out
   have HCC := sqM hC
   clear hC
   go_wp2_with (first | (go_at_call 29; (with_reducible refine (made_calls _ _ rows p _ HCC.out HC0.out HN.out HP.out HIN.out HA.out).mono ?_); rintro e w2 ⟨g, b, rfl, hcu, hb⟩; have HCU := sqM (hcu.base_down (q01 HB.out)); have HB2 := sqM (q04 HB.out hb); clear hcu hb))
   go_ret2
   exact MakePost.yes HF.out rfl HCU.out HB2.out
end Go.Proofs.Ytdhajlkiiphlfaa.Par
namespace Go.Proofs.Ytdhajlkiiphlfaa.Par
open Go.RowKit Go.Proofs.Ytdhajlkiiphlfaa.QB Go.Proofs.YtdhajlkiiphlfaaW.PrintWords Go.Proofs.YtdhajlkiiphlfaaW.PrintLast Go.Proofs.YtdhajlkiiphlfaaW.PrintMore Go.Proofs.Ytdhajlkiiphlfaa.Solve
def q0y (f : Nat → Bool) : Nat → Nat → Bool
 | _, 0 => true
 | i, d + 1 => f i && q0y f (i + 1) d
theorem q1i (f : Nat → Bool) (i d : Nat) : q0y f i (d + 1) = (f i && q0y f (i + 1) d) := rfl
theorem okFrom_iff (f : Nat → Bool) : ∀ (d i : Nat), q0y f i d = true ↔ ∀ t, i ≤ t → t < i + d → f t = true
 | 0, i => by simp [q0y]; intro t h1 h2; omega
 | d + 1, i => by
  rw [q0y, Bool.and_eq_true, okFrom_iff f d (i + 1)]
  constructor
  · rintro ⟨h1, h2⟩ t h3 h4
    by_cases e : t = i
    · rw [e]; exact h1
    · exact h2 t (by omega) (by omega)
  · intro h
    exact ⟨h i (by omega) (by omega), fun t h1 h2 => h t (by omega) (by omega)⟩
def q0x (lost : List Int) : List Bool → Nat → Nat → List Bool
 | g, _, 0 => g
 | g, i, d + 1 => q0x lost (g.set (rd lost (i : Int)).toNat true) (i + 1) d
theorem marksFrom_succ (lost : List Int) (g : List Bool) (i d : Nat) : q0x lost g i (d + 1) = q0x lost (g.set (rd lost (i : Int)).toNat true) (i + 1) d := rfl
theorem marksFrom_length (lost : List Int) : ∀ (d i : Nat) (g : List Bool), (q0x lost g i d).length = g.length
 | 0, _, _ => rfl
 | d + 1, i, g => by rw [q0x, marksFrom_length lost d, List.length_set]
def cnt (g : List Bool) : Nat := g.count true
theorem cnt_le (g : List Bool) : cnt g ≤ g.length := List.count_le_length
theorem cnt_set {g : List Bool} {k : Nat} (hk : k < g.length) : cnt (g.set k true) = if g[k] = true then cnt g else cnt g + 1 := by
 induction g generalizing k with
 | nil => simp at hk
 | cons b l ih =>
  cases k with
  | zero => cases b <;> simp [cnt]
  | succ k =>
   have := ih (k := k) (by simpa using hk)
   simp only [cnt, List.set_cons_succ, List.count_cons, List.getElem_cons_succ] at this ⊢
   rw [this]; split <;> omega
def q1u (N : Nat) (lost : List Int) : List Bool := q0x lost (List.replicate N false) 0 lost.length
def fL2 (more : List (List Int)) (g : List Bool) (n W : Nat) (i : Nat) : Bool := g.getD (n + i) false || decide ((more.getD i []).length = W)
def fL1 (rows : List (List Int)) (sizes : List Int) (g : List Bool) (i : Nat) : Bool := decide (0 ≤ sizes.getD i 0 ∧ sizes.getD i 0 ≤ 16777216) && (g.getD i false || decide (((rows.getD i []).length : Int) = sizes.getD i 0))
def fL0 (N : Nat) (lost : List Int) (i : Nat) : Bool := decide (0 ≤ lost.getD i 0 ∧ lost.getD i 0 < N)
theorem rd_nat (l : List Int) (i : Nat) : rd l (i : Int) = l.getD i 0 := by unfold rd; rw [Int.toNat_natCast]
theorem rdB_nat (l : List Bool) (i : Nat) : rdOf false l (i : Int) = l.getD i false := by unfold rdOf; rw [Int.toNat_natCast]
theorem rdL_nat (l : List (List Int)) (i : Nat) : rd_L2 l (i : Int) = l.getD i [] := by unfold rd_L2; rw [Int.toNat_natCast]
theorem fits_l2 (ls : List Nat) (hls : ls.length ≤ 1000) (n p : Nat) (g : List Bool) (m : Nat) (more : List (List Int)) (hp : more.length = p) (hg : g.length = n + p) (hn : n ≤ 1000) (hp2 : p ≤ 1000) : ∀ (d i k : Nat), i + d = p → d + 1010 ≤ k →
    parity_fits.l2 k (up ls) (n : Int) (p : Int) g (m : Int) more (p : Int) (i : Int) = some (if q0y (fL2 more g n (wideN ls)) i d = true then (if p < m then ([], 53) else (g, 0)) else ([], 52)) := by
 intro d
 induction d with
 | zero =>
  intro i k hi hk
  obtain ⟨k, rfl⟩ : ∃ m, k = m + 1 := ⟨k - 1, by omega⟩
  rw [parity_fits.l2, if_neg (by omega)]
  show _ = some (if true = true then _ else _)
  rw [if_pos rfl]
  by_cases h : p < m
  · rw [if_pos h, if_pos (by omega)]
  · rw [if_neg h, if_neg (by omega)]
 | succ d ih =>
  intro i k hi hk
  obtain ⟨k, rfl⟩ : ∃ m, k = m + 1 := ⟨k - 1, by omega⟩
  have h2 := ih (i + 1) k (by omega) (by omega)
  have hw : wrap64 ((n : Int) + (i : Int)) = ((n + i : Nat) : Int) := wrs (by omega)
  rw [parity_fits.l2, if_pos (by omega), if_pos (by omega), hp, if_pos (by omega), hw, if_pos (by omega), if_pos (by omega), rdB_nat, wr1 (i := i) (n := p) (by omega) (by omega), h2, wide_f ls hls (by omega), Option.bind_some, rdL_nat]
  rw [q1i]
  have hf : fL2 more g n (wideN ls) i = (g.getD (n + i) false || decide ((more.getD i []).length = wideN ls)) := rfl
  rw [hf]
  by_cases hb : g.getD (n + i) false = true
  · rw [if_pos hb, hb, Bool.true_or, Bool.true_and]
  · rw [if_neg hb, eq_false_of_ne_true hb, Bool.false_or]
    by_cases hl : (more.getD i []).length = wideN ls
    · rw [if_pos (by omega), decide_eq_true hl, Bool.true_and]
    · rw [if_neg (by omega), decide_eq_false hl, Bool.false_and, if_neg (by decide)]
def ups (sizes : List Int) : List Nat := sizes.map Int.toNat
theorem up_ups {sizes : List Int} (h : ∀ x ∈ sizes, 0 ≤ x) : up (ups sizes) = sizes := by
 unfold up ups
 rw [List.map_map]
 conv => rhs; rw [← List.map_id sizes]
 refine List.map_congr_left (fun x hx => ?_)
 show ((x.toNat : Nat) : Int) = x
 have := h x hx; omega
def fitsR (more : List (List Int)) (sizes : List Int) (n p m : Nat) (g : List Bool) : List Bool × Int := if q0y (fL2 more g n (wideN (ups sizes))) 0 p = true then (if p < m then ([], 53) else (g, 0)) else ([], 52)
theorem fits_l1 (rows : List (List Int)) (sizes : List Int) (n p : Nat) (g : List Bool) (m : Nat) (more : List (List Int)) (hs : sizes.length = n) (hr : rows.length = n) (hp : more.length = p) (hg : g.length = n + p) (hn : n ≤ 1000) (hp2 : p ≤ 1000) : ∀ (d i k : Nat), i + d = n → d + 3000 ≤ k → (∀ t, t < i → fL1 rows sizes g t = true) →
    parity_fits.l1 k rows sizes more (n : Int) (p : Int) g (m : Int) sizes (n : Int) (i : Int) = some (if q0y (fL1 rows sizes g) i d = true then fitsR more sizes n p m g else ([], 52)) := by
 intro d
 induction d with
 | zero =>
  intro i k hi hk hall
  obtain ⟨k, rfl⟩ : ∃ m, k = m + 1 := ⟨k - 1, by omega⟩
  obtain rfl : i = n := by omega
  have hpos : ∀ x ∈ sizes, 0 ≤ x := by
   intro x hx
   obtain ⟨t, ht, rfl⟩ := List.getElem_of_mem hx
   have := hall t (by omega)
   unfold fL1 at this
   rw [Bool.and_eq_true, decide_eq_true_eq, List.getD_eq_getElem?_getD, List.getElem?_eq_getElem ht] at this
   exact this.1.1
  have h := fits_l2 (ups sizes) (by unfold ups; rw [List.length_map]; omega) i p g m more hp hg hn hp2 p 0 k (by omega) (by omega)
  rw [up_ups hpos] at h
  rw [parity_fits.l1, if_neg (by omega), hp]
  show _ = some (if true = true then _ else _)
  rw [if_pos rfl]
  exact h
 | succ d ih =>
  intro i k hi hk hall
  obtain ⟨k, rfl⟩ : ∃ m, k = m + 1 := ⟨k - 1, by omega⟩
  have hf : fL1 rows sizes g i = (decide (0 ≤ sizes.getD i 0 ∧ sizes.getD i 0 ≤ 16777216) && (g.getD i false || decide (((rows.getD i []).length : Int) = sizes.getD i 0))) := rfl
  have h2 := ih (i + 1) k (by omega) (by omega)
  rw [parity_fits.l1, if_pos (by omega), if_pos (by omega), hs, if_pos (by omega), rd_nat, rdB_nat, hg, if_pos (show (i : Int) < ((n + p : Nat) : Int) by omega), hr, if_pos (show (i : Int) < (n : Int) by omega), rdL_nat, wr1 (i := i) (n := n) (by omega) (by omega)]
  rw [q1i]
  have hf2 := hf
  rw [hf2]
  generalize sizes.getD i 0 = s at hf hf2 ⊢
  by_cases c1 : s < 0
  · rw [if_pos c1, decide_eq_false (by omega), Bool.false_and, Bool.false_and, if_neg (by decide)]
  ·
   rw [if_neg c1]
   by_cases c2 : s > 16777216
   · rw [if_pos c2, decide_eq_false (by omega), Bool.false_and, Bool.false_and, if_neg (by decide)]
   ·
    rw [if_neg c2, decide_eq_true (by omega), Bool.true_and]
    rw [decide_eq_true (by omega : 0 ≤ s ∧ s ≤ 16777216), Bool.true_and] at hf
    by_cases hb : g.getD i false = true
    · rw [hb, Bool.true_or] at hf
      rw [if_pos hb, hb, Bool.true_or, Bool.true_and]
      exact h2 (fun t ht => by by_cases e : t = i; (· rw [e]; exact hf); (· exact hall t (by omega)))
    · rw [eq_false_of_ne_true hb, Bool.false_or] at hf
      rw [if_neg hb, eq_false_of_ne_true hb, Bool.false_or]
      by_cases hl : ((rows.getD i []).length : Int) = s
      · rw [decide_eq_true hl] at hf
        rw [if_pos hl, decide_eq_true hl, Bool.true_and]
        exact h2 (fun t ht => by by_cases e : t = i; (· rw [e]; exact hf); (· exact hall t (by omega)))
      · rw [if_neg hl, decide_eq_false hl, Bool.false_and, if_neg (by decide)]
def fitsQ (rows : List (List Int)) (sizes : List Int) (more : List (List Int)) (n p m : Nat) (g : List Bool) : List Bool × Int := if q0y (fL1 rows sizes g) 0 n = true then fitsR more sizes n p m g else ([], 52)
theorem fits_l0 (rows : List (List Int)) (sizes : List Int) (n p : Nat) (more : List (List Int)) (lost : List Int) (hlo : lost.length ≤ 140737488355328) (hs : sizes.length = n) (hr : rows.length = n) (hp : more.length = p) (hn : n ≤ 1000) (hp2 : p ≤ 1000) : ∀ (d i k : Nat) (g : List Bool), i + d = lost.length → 2 * d + 5000 ≤ k → g.length = n + p →
    parity_fits.l0 k rows sizes more (n : Int) (p : Int) g ((cnt g : Nat) : Int) lost (lost.length : Int) (i : Int) = some (if q0y (fL0 (n + p) lost) i d = true then fitsQ rows sizes more n p (cnt (q0x lost g i d)) (q0x lost g i d) else ([], 52)) := by
 intro d
 induction d with
 | zero =>
  intro i k g hi hk hg
  obtain ⟨k, rfl⟩ : ∃ m, k = m + 1 := ⟨k - 1, by omega⟩
  have h := fits_l1 rows sizes n p g (cnt g) more hs hr hp hg hn hp2 n 0 k (by omega) (by omega) (fun t ht => absurd ht (by omega))
  rw [parity_fits.l0, if_neg (by omega), hs]
  show _ = some (if true = true then _ else _)
  rw [if_pos rfl]
  exact h
 | succ d ih =>
  intro i k g hi hk hg
  obtain ⟨k, rfl⟩ : ∃ m, k = m + 2 := ⟨k - 2, by omega⟩
  have hf : fL0 (n + p) lost i = decide (0 ≤ rd lost (i : Int) ∧ rd lost (i : Int) < ((n + p : Nat) : Int)) := by unfold fL0; rw [rd_nat]
  have h2 := fun g' hg' => ih (i + 1) k g' (by omega) (by omega) hg'
  have hci : wrap64 ((i : Int) + 1) = ((i + 1 : Nat) : Int) := wr1 (i := i) (n := lost.length) (by omega) hlo
  have hcl := cnt_le g
  have hcm : wrap64 (((cnt g : Nat) : Int) + 1) = ((cnt g + 1 : Nat) : Int) := wrs (a := cnt g) (b := 1) (by omega)
  have hw : wrap64 ((n : Int) + (p : Int)) = ((n + p : Nat) : Int) := wrs (by omega)
  have hi1 : (i : Int) < (lost.length : Int) := by clear hw hcm hci h2 ih; omega
  have hi0 : (0 : Int) ≤ (i : Int) := by clear hw hcm hci h2 ih; omega
  have HCI := sqM hci
  have HCM := sqM hcm
  rw [parity_fits.l0, if_pos hi1, if_pos hi0, if_pos hi1, hw]
  clear hci hcm hw
  rw [q1i, marksFrom_succ]
  rw [hf]
  generalize rd lost (i : Int) = s at hf ⊢
  by_cases c1 : s < 0
  · rw [if_pos c1, parity_fits.j2, if_pos rfl, decide_eq_false (by omega), Bool.false_and, if_neg (by decide)]
  ·
   rw [if_neg c1]
   by_cases c2 : s ≥ ((n + p : Nat) : Int)
   · rw [decide_eq_true c2, parity_fits.j2, if_pos rfl, decide_eq_false (by omega), Bool.false_and, if_neg (by decide)]
   ·
    obtain ⟨t, rfl⟩ := Int.eq_ofNat_of_zero_le (show 0 ≤ s by omega)
    have ht : t < g.length := by omega
    rw [decide_eq_false c2, parity_fits.j2, if_neg (by decide), if_pos (by omega), if_pos (by omega), rdB_nat, decide_eq_true (by omega), Bool.true_and, HCI.out, Int.toNat_natCast, HCM.out]
    have h3 := h2 (g.set t true) (by rw [List.length_set]; exact hg)
    have hgd : g.getD t false = g[t] := by rw [List.getD_eq_getElem?_getD, List.getElem?_eq_getElem ht]; rfl
    have hcs := cnt_set ht
    rw [hgd]
    by_cases hb : g[t] = true
    · rw [if_pos hb] at hcs ⊢
      rw [hcs] at h3
      exact h3
    · rw [if_neg hb] at hcs ⊢
      rw [hcs] at h3
      exact h3
def fitsL (rows : List (List Int)) (sizes : List Int) (more : List (List Int)) (lost : List Int) : List Bool × Int :=
 if 200 < rows.length ∨ 16 < more.length then ([], 51)
 else if sizes.length ≠ rows.length then ([], 52)
 else if q0y (fL0 (rows.length + more.length) lost) 0 lost.length = true then fitsQ rows sizes more rows.length more.length (cnt (q1u (rows.length + more.length) lost)) (q1u (rows.length + more.length) lost)
 else ([], 52)
theorem fits_f (rows : List (List Int)) (sizes : List Int) (more : List (List Int)) (lost : List Int) (hlo : lost.length ≤ 140737488355328) {k : Nat} (hk : 2 * lost.length + 6000 ≤ k) : parity_fits.f k rows sizes more lost = some (fitsL rows sizes more lost) := by
 obtain ⟨k, rfl⟩ : ∃ m, k = m + 1 := ⟨k - 1, by omega⟩
 unfold parity_fits.f fitsL
 by_cases h1 : 200 < rows.length
 · rw [if_pos (by omega), if_pos (.inl h1), parity_fits.j0, if_pos rfl]
 ·
  rw [if_neg (by omega)]
  by_cases h2 : 16 < more.length
  · rw [decide_eq_true (by omega), if_pos (.inr h2), parity_fits.j0, if_pos rfl]
  ·
   rw [decide_eq_false (by omega), if_neg (by omega), parity_fits.j0, if_neg (by decide)]
   have hw : wrap64 ((rows.length : Int) + (more.length : Int)) = ((rows.length + more.length : Nat) : Int) := wrs (by omega)
   by_cases h3 : sizes.length = rows.length
   · have hc0 : cnt (List.replicate (rows.length + more.length) false) = 0 := by unfold cnt; simp [List.count_replicate]
     have h := fits_l0 rows sizes rows.length more.length more lost hlo h3 rfl rfl (by omega) (by omega) lost.length 0 k (List.replicate (rows.length + more.length) false) (by omega) (by omega) List.length_replicate
     rw [hc0] at h
     rw [if_pos (by omega), hw, if_pos (by omega), Int.toNat_natCast, if_pos (by omega), if_neg (fun e => e h3)]
     exact h
   · rw [if_neg (by omega), if_pos h3]
theorem kept_setRow (w : World) (g : Nat) (cs : Array Value) : Kept w (w.setRow g cs) (fun k => k = g) := ⟨by simp [World.setRow], fun i _ hn => setRow_other w g i cs (by exact hn)⟩
theorem wpList_copy_Cu {w : World} {ops : Array Oper} {rest : List Oper} {o : Oper} {a : Act} {Q : Exit → Act → World → Prop} (hgd : o.guard = none) (d s : Operand) (ho : o.op = .call { callee := .builtin .copy, args := #[d, s], argTypes := #[41, 41] })
    {base g b i off dc : Nat} {m : List (List Int)} {r ys : List Int} {A : Option Addr} {sc : Nat} (hC : Cu w base g b m) (hi : m[i]? = some r) (hoff : 0 < r.length → off = ((m.take i).flatten).length)
    (hd : a.eval d = .slice (some ⟨b, off, none⟩) r.length dc) (hs : a.eval s = .slice A ys.length sc) (hY : Kd.C (Kd.int .u8) w A ys.length ys) (hl : r.length ≤ ys.length) (B : Nat) (w0 : World) (hb : Below B w0 w) (hB : B ≤ base)
    (h : ∀ w', Cu w' base g b (m.set i (ys.take r.length)) → Below B w0 w' → Kept w w' (fun k => k = b) → wpList Try.prog ops Q rest (a.put o.dst (goInt (r.length : Int))) w') : wpList Try.prog ops Q (o :: rest) a w := by
 by_cases h0 : r.length = 0
 · refine wpList_copy_nothing hgd d s 41 41 ho 5 Try.underlying41 size5 _ _ _ _ _ _ hd hs (by rw [h0]; exact Nat.min_zero _) ?_
   have := h w (by rw [h0, List.take_zero, ← List.eq_nil_of_length_eq_zero h0, set_same hi]; exact hC) hb (Kept.refl _ _)
   rw [h0] at this
   exact this
 ·
  have hp : 0 < r.length := by omega
  obtain ⟨ad, rfl, hcell⟩ := hY.2.2 (by omega)
  have hlen : ((ys.take r.length).map (Value.int .u8)).length = r.length := by rw [List.length_map, List.length_take]; omega
  have hsp := q22 hi
  have hfl := flat_set (r' := ys.take r.length) hi
  refine wpList_copy_own hgd d s 41 41 ho 5 Try.underlying41 size5 b off r.length dc ad ys.length sc hd hs _ 5 hC.data ((ys.take r.length).map (Value.int .u8)) (by rw [hlen]; exact (Nat.min_eq_right hl).symm) (fun j v hj => ?_) (by rw [hlen, hoff hp, List.size_toArray, List.length_map, hsp, List.length_append, List.length_append]; omega) (by
   intro u hu; obtain ⟨z, _, rfl⟩ := List.mem_map.1 hu; rfl) ?_
  ·
   rw [List.getElem?_map, List.getElem?_take] at hj
   split at hj
   · obtain ⟨z, hz, rfl⟩ := Option.map_eq_some_iff.1 hj
     obtain ⟨cc, _, hcc, hcl⟩ := hcell j z hz
     have hcc' : cc = [Value.int .u8 z] := hcc
     subst hcc'
     have := hcl 0 (.int .u8 z) rfl
     rw [show j * (Kd.int .u8).sz + 0 = j from Nat.mul_one j] at this
     exact this
   · cases hj
  ·
   rw [hlen]
   refine h _ (hC.put (kept_setRow _ _ _) hi (by rw [List.length_take]; omega) ?_) (below_setRow hb (Nat.le_trans hB hC.hb) _) (kept_setRow _ _ _)
   rw [setRow_heap w b _ _ 5 _ hC.data]
   unfold q18
   rw [hfl, hoff hp, hsp]
   simp only [List.map_append, List.toList_toArray]
   have e1 : (List.map (Value.int .u8) (m.take i).flatten).length = (m.take i).flatten.length := List.length_map _
   rw [List.take_append_of_le_length (by rw [e1]; exact Nat.le_refl _), List.take_of_length_le (by rw [e1]; exact Nat.le_refl _)]
   rw [List.drop_append, List.drop_of_length_le (by rw [e1]; omega), List.nil_append, e1, Nat.add_sub_cancel_left]
   rw [List.drop_append_of_le_length (by rw [List.length_map]; exact Nat.le_refl _), List.drop_of_length_le (by rw [List.length_map]; exact Nat.le_refl _), List.nil_append]
theorem R_of_own {k : IntKind} {e base : Nat} {w : World} {v : Value} {xs : List Int} (h : w.ownsRow base e 1 v xs.length (nums k xs)) : Kd.R (Kd.int k) e w base (fun _ => True) v xs := ⟨fun _ _ => trivial, nums k xs, h, CopyR.reps_nums xs⟩
abbrev Hdr := Option Addr × Nat × Nat
def hdV (h : Hdr) : Value := .slice h.1 h.2.1 h.2.2
structure RdH (w : World) (base : Nat) (hs : List Hdr) (m : List (List Int)) : Prop where
 len : hs.length = m.length
 row : ∀ (i : Nat) (h : Hdr) (r : List Int), hs[i]? = some h → m[i]? = some r → h.2.1 = r.length ∧ r.length ≤ h.2.2 ∧ r.length ≤ 281474976710656 ∧ (0 < r.length → ∃ k cells, h.1 = some ⟨k, 0, none⟩ ∧ base ≤ k ∧ w.heap[k]? = some (.cells cells 5 (0, 0)) ∧ cells.toList.take r.length = r.map (Value.int .u8))
theorem RdH.nil (w : World) (base : Nat) : RdH w base [] [] := ⟨rfl, fun i h r hi => by simp at hi⟩
theorem RdH.move {w w' : World} {base : Nat} {hs : List Hdr} {m : List (List Int)} (h : RdH w base hs m) (hm : ∀ k cells, base ≤ k → w.heap[k]? = some (.cells cells 5 (0, 0)) → w'.heap[k]? = some (.cells cells 5 (0, 0))) : RdH w' base hs m :=
 ⟨h.len, fun i hd r h1 h2 => by
  obtain ⟨a, b, b2, c⟩ := h.row i hd r h1 h2
  refine ⟨a, b, b2, fun hp => ?_⟩
  obtain ⟨k, cells, e1, e2, e3, e4⟩ := c hp
  exact ⟨k, cells, e1, e2, hm k cells e2 e3, e4⟩⟩
theorem RdH.snoc {w : World} {base : Nat} {hs : List Hdr} {m : List (List Int)} (h : RdH w base hs m) {hd : Hdr} {r : List Int} (h1 : hd.2.1 = r.length ∧ r.length ≤ hd.2.2 ∧ r.length ≤ 281474976710656 ∧ (0 < r.length → ∃ k cells, hd.1 = some ⟨k, 0, none⟩ ∧ base ≤ k ∧ w.heap[k]? = some (.cells cells 5 (0, 0)) ∧ cells.toList.take r.length = r.map (Value.int .u8))) : RdH w base (hs ++ [hd]) (m ++ [r]) := by
 refine ⟨by rw [List.length_append, List.length_append, h.len]; rfl, fun i hd' r' a b => ?_⟩
 by_cases hi : i < hs.length
 · rw [List.getElem?_append_left hi] at a
   rw [List.getElem?_append_left (by rw [← h.len]; exact hi)] at b
   exact h.row i hd' r' a b
 ·
  rw [List.getElem?_append_right (by omega)] at a
  rw [List.getElem?_append_right (by rw [← h.len]; omega), ← h.len] at b
  have : i - hs.length = 0 := by
   have := (List.getElem?_eq_some_iff.1 a).1
   simp at this; omega
  rw [this] at a b
  simp only [List.getElem?_cons_zero, Option.some.injEq] at a b
  subst a; subst b
  exact h1
theorem ownC {w : World} {k o : Nat} {r : List Int} {A : Option Addr} (hb : r.length ≤ 281474976710656) (h : 0 < r.length → ∃ k cells, A = some ⟨k, 0, none⟩ ∧ w.heap[k]? = some (.cells cells 5 (0, 0)) ∧ cells.toList.take r.length = r.map (Value.int .u8)) : Kd.C (Kd.int .u8) w A r.length r := by
 refine ⟨rfl, by omega, fun hp => ?_⟩
 obtain ⟨k, cells, rfl, hh, ht⟩ := h hp
 refine ⟨_, rfl, fun j p hj => ⟨[.int .u8 p], rfl, rfl, fun t u hu => ?_⟩⟩
 have hjl := (List.getElem?_eq_some_iff.1 hj).1
 match t, hu with
 | 0, hu =>
  obtain rfl := Option.some.inj hu
  rw [show (⟨k, 0, none⟩ : Addr).add (j * (Kd.int .u8).sz + 0) = ⟨k, j, none⟩ from (q1r k 0 _).trans (by rw [Nat.zero_add]; exact congrArg (fun z => (⟨k, z, none⟩ : Addr)) (Nat.mul_one j))]
  rw [q0h hh, ← Array.getElem?_toList]
  have : (cells.toList.take r.length)[j]? = (r.map (Value.int .u8))[j]? := by rw [ht]
  rw [List.getElem?_take, if_pos hjl, List.getElem?_map, hj] at this
  exact this
 | t + 1, hu => simp at hu
theorem RdH.toC {w : World} {base base' : Nat} {hs : List Hdr} {m : List (List Int)} {v : Value} (h : RdH w base hs m) (ho : w.ownsRow base' 41 1 v hs.length (encs hdV hs)) : ∃ A c, v = .slice A m.length c ∧ m.length ≤ c ∧ Kd.C (Kd.slice 5 (Kd.int .u8)) w A m.length m := by
 have hl := h.len
 obtain ⟨hlen, hcase⟩ := ho
 rcases hcase with ⟨rfl, hx0⟩ | ⟨g, cap, cur, rfl, hg, hh, hnc, hcm, hcs, htake⟩
 · obtain rfl : m = [] := List.eq_nil_of_length_eq_zero (by omega)
   exact ⟨none, 0, rfl, Nat.le_refl _, rfl, by decide, fun hp => absurd hp (by decide)⟩
 ·
  refine ⟨_, cap, by rw [hl], by omega, rfl, by unfold maxLen at hcm; omega, fun hp => ⟨_, rfl, fun j p hj => ?_⟩⟩
  have hjl := (List.getElem?_eq_some_iff.1 hj).1
  have hg2 := List.getElem?_eq_getElem (show j < hs.length by omega)
  obtain ⟨e1, e2, e3, e4⟩ := h.row j _ p hg2 hj
  generalize hs[j] = hd at hg2 e1 e2 e4
  refine ⟨[hdV hd], rfl, ⟨hd.1, hd.2.2, by unfold hdV; rw [e1], e2, ownC (k := 0) (o := 0) e3 (fun hp => by obtain ⟨k, cells, a, _, b, c⟩ := e4 hp; exact ⟨k, cells, a, b, c⟩)⟩, fun t u hu => ?_⟩
  match t, hu with
  | 0, hu =>
   obtain rfl := Option.some.inj hu
   rw [show (⟨g, 0, none⟩ : Addr).add (j * (Kd.slice 5 (Kd.int .u8)).sz + 0) = ⟨g, j, none⟩ from (q1r g 0 _).trans (by rw [Nat.zero_add]; exact congrArg (fun z => (⟨g, z, none⟩ : Addr)) (Nat.mul_one j))]
   rw [q0h hh, ← Array.getElem?_toList]
   have : (cur.toList.take (hs.length * 1))[j]? = (encs hdV hs)[j]? := by rw [htake]
   rw [List.getElem?_take, if_pos (by omega)] at this
   rw [this]
   unfold encs
   rw [List.getElem?_map, hg2]; rfl
  | t + 1, hu => simp at hu
end Go.Proofs.Ytdhajlkiiphlfaa.Par
namespace Go.Proofs.Ytdhajlkiiphlfaa.Par
open Go.RowKit Go.Proofs.Ytdhajlkiiphlfaa.QB Go.Proofs.YtdhajlkiiphlfaaW.PrintWords Go.Proofs.YtdhajlkiiphlfaaW.PrintLast Go.Proofs.YtdhajlkiiphlfaaW.PrintMore Go.Proofs.Ytdhajlkiiphlfaa.Solve
def woL (g : List Bool) (i : Nat) : List Nat := (List.range i).filter (fun t => g.getD t false)
theorem woL_succ (g : List Bool) (i : Nat) : woL g (i + 1) = if g.getD i false = true then woL g i ++ [i] else woL g i := by
 unfold woL
 rw [List.range_succ, List.filter_append]
 cases h : g.getD i false <;> simp [List.filter_cons, -List.getD_eq_getElem?_getD, h]
theorem q0i (g : List Bool) (i : Nat) : (woL g i).length ≤ i := by
 unfold woL; have := List.length_filter_le (fun t => g.getD t false) (List.range i); rwa [List.length_range] at this
theorem mem_woL {g : List Bool} {i t : Nat} : t ∈ woL g i ↔ t < i ∧ g.getD t false = true := by
 unfold woL; rw [List.mem_filter, List.mem_range]
def usedL (g : List Bool) (n i : Nat) : List Nat := (List.range i).filter (fun t => !g.getD (n + t) false)
theorem usedL_succ (g : List Bool) (n i : Nat) : usedL g n (i + 1) = if g.getD (n + i) false = true then usedL g n i else usedL g n i ++ [i] := by
 unfold usedL
 rw [List.range_succ, List.filter_append]
 cases h : g.getD (n + i) false <;> simp [List.filter_cons, -List.getD_eq_getElem?_getD, h]
theorem usedL_length_le (g : List Bool) (n i : Nat) : (usedL g n i).length ≤ i := by
 unfold usedL; have := List.length_filter_le (fun t => !g.getD (n + t) false) (List.range i); rwa [List.length_range] at this
def outA (rows : List (List Int)) (ls : List Nat) (g : List Bool) (i : Nat) : List (List Int) := (List.range ls.length).map fun t => if t < i ∧ g.getD t false = false then rows.getD t [] else zeros (ls.getD t 0)
theorem outA_get (rows : List (List Int)) (ls : List Nat) (g : List Bool) (i : Nat) {t : Nat} (ht : t < ls.length) : (outA rows ls g i)[t]? = some (if t < i ∧ g.getD t false = false then rows.getD t [] else zeros (ls.getD t 0)) := by
 unfold outA; rw [List.getElem?_map, List.getElem?_range ht]; rfl
theorem q1o (rows : List (List Int)) (ls : List Nat) (g : List Bool) (i : Nat) : (outA rows ls g i).length = ls.length := by simp [outA]
theorem outA_zero (rows : List (List Int)) (ls : List Nat) (g : List Bool) : outA rows ls g 0 = ls.map fun k => List.replicate k (0 : Int) := by
 apply List.ext_getElem?
 intro t
 by_cases ht : t < ls.length
 · rw [outA_get rows ls g 0 ht, if_neg (by omega), List.getElem?_map, List.getElem?_eq_getElem ht, List.getD_eq_getElem?_getD, List.getElem?_eq_getElem ht]; rfl
 · rw [List.getElem?_eq_none (by rw [q1o]; omega), List.getElem?_eq_none (by rw [List.length_map]; omega)]
theorem outA_gone (rows : List (List Int)) (ls : List Nat) (g : List Bool) {i : Nat} (h : g.getD i false = true) : outA rows ls g (i + 1) = outA rows ls g i := by
 unfold outA
 refine List.map_congr_left (fun t _ => ?_)
 by_cases e : t = i
 · subst e; rw [if_neg (by rw [h]; simp), if_neg (by omega)]
 · by_cases h2 : t < i ∧ g.getD t false = false
   · rw [if_pos h2, if_pos ⟨by omega, h2.2⟩]
   · rw [if_neg h2, if_neg (fun h3 => h2 ⟨by omega, h3.2⟩)]
theorem outA_kept (rows : List (List Int)) (ls : List Nat) (g : List Bool) {i : Nat} (hi : i < ls.length) (h : g.getD i false = false) : (outA rows ls g i).set i (rows.getD i []) = outA rows ls g (i + 1) := by
 apply List.ext_getElem?
 intro t
 by_cases ht : t < ls.length
 ·
  rw [outA_get rows ls g (i + 1) ht]
  by_cases e : i = t
  · subst e; rw [List.getElem?_set_self (by rw [q1o]; exact hi), if_pos ⟨by omega, h⟩]
  · rw [List.getElem?_set_ne e, outA_get rows ls g i ht]
    by_cases h2 : t < i ∧ g.getD t false = false
    · rw [if_pos h2, if_pos ⟨by omega, h2.2⟩]
    · rw [if_neg h2, if_neg (fun h3 => h2 ⟨by omega, h3.2⟩)]
 · rw [List.getElem?_eq_none (by rw [List.length_set, q1o]; omega), List.getElem?_eq_none (by rw [q1o]; omega)]
def lineP (g : List Bool) (i j : Nat) : List Int := (woL g j).map fun t => cE i t
theorem lineP_succ (g : List Bool) (i j : Nat) : lineP g i (j + 1) = if g.getD j false = true then lineP g i j ++ [cE i j] else lineP g i j := by
 unfold lineP; rw [woL_succ]; split
 · rw [List.map_append]; rfl
 · rfl
def leftP (g : List Bool) (out : List (List Int)) (i : Nat) (z : List Int) : Nat → List Int
 | 0 => z
 | j + 1 => if g.getD j false = true then leftP g out i z j else addAt (cE i j) (out.getD j []) 0 (leftP g out i z j)
theorem q1m (g : List Bool) (out : List (List Int)) (i : Nat) (z : List Int) : ∀ j, (leftP g out i z j).length = z.length
 | 0 => rfl
 | j + 1 => by rw [leftP]; split; (· exact q1m g out i z j); (· rw [q1l]; exact q1m g out i z j)
theorem leftP_in (g : List Bool) (out : List (List Int)) (i : Nat) (z : List Int) (hz : ∀ y ∈ z, In8 y) : ∀ j, j ≤ 256 → ∀ y ∈ leftP g out i z j, In8 y
 | 0, _ => hz
 | j + 1, hj => by rw [leftP]; split; (· exact leftP_in g out i z hz j (by omega)); (· exact addAt_in _ (cE_in (by omega)) _ _ _ (leftP_in g out i z hz j (by omega)))
def partL (g : List Bool) (n i : Nat) : List (List Int) := (usedL g n i).map fun t => lineP g t n
def vL (g : List Bool) (n : Nat) (out more : List (List Int)) (i : Nat) : List (List Int) := (usedL g n i).map fun t => leftP g out t (more.getD t []) n
def outB (wo : List Nat) (X : List (List Int)) (ls : List Nat) (out : List (List Int)) : Nat → List (List Int)
 | 0 => out
 | k + 1 => (outB wo X ls out k).set (wo.getD k 0) ((X.getD k []).take (ls.getD (wo.getD k 0) 0))
def restB (g : List Bool) (n : Nat) (more base : List (List Int)) (i : Nat) : List (List Int) := (List.range base.length).map fun t => if t < i ∧ g.getD (n + t) false = false then more.getD t [] else base.getD t []
theorem restB_get (g : List Bool) (n : Nat) (more base : List (List Int)) (i : Nat) {t : Nat} (ht : t < base.length) : (restB g n more base i)[t]? = some (if t < i ∧ g.getD (n + t) false = false then more.getD t [] else base.getD t []) := by
 unfold restB; rw [List.getElem?_map, List.getElem?_range ht]; rfl
theorem q1n (g : List Bool) (n : Nat) (more base : List (List Int)) (i : Nat) : (restB g n more base i).length = base.length := by simp [restB]
theorem restB_zero (g : List Bool) (n : Nat) (more base : List (List Int)) : restB g n more base 0 = base := by
 apply List.ext_getElem?
 intro t
 by_cases ht : t < base.length
 · rw [restB_get g n more base 0 ht, if_neg (by omega), List.getD_eq_getElem?_getD, List.getElem?_eq_getElem ht]; rfl
 · rw [List.getElem?_eq_none (by rw [q1n]; omega), List.getElem?_eq_none (by omega)]
theorem restB_gone (g : List Bool) (n : Nat) (more base : List (List Int)) {i : Nat} (h : g.getD (n + i) false = true) : restB g n more base (i + 1) = restB g n more base i := by
 unfold restB
 refine List.map_congr_left (fun t _ => ?_)
 by_cases e : t = i
 · subst e; rw [if_neg (by rw [h]; simp), if_neg (by omega)]
 · by_cases h2 : t < i ∧ g.getD (n + t) false = false
   · rw [if_pos h2, if_pos ⟨by omega, h2.2⟩]
   · rw [if_neg h2, if_neg (fun h3 => h2 ⟨by omega, h3.2⟩)]
theorem restB_kept (g : List Bool) (n : Nat) (more base : List (List Int)) {i : Nat} (hi : i < base.length) (h : g.getD (n + i) false = false) : (restB g n more base i).set i (more.getD i []) = restB g n more base (i + 1) := by
 apply List.ext_getElem?
 intro t
 by_cases ht : t < base.length
 ·
  rw [restB_get g n more base (i + 1) ht]
  by_cases e : i = t
  · subst e; rw [List.getElem?_set_self (by rw [q1n]; exact hi), if_pos ⟨by omega, h⟩]
  · rw [List.getElem?_set_ne e, restB_get g n more base i ht]
    by_cases h2 : t < i ∧ g.getD (n + t) false = false
    · rw [if_pos h2, if_pos ⟨by omega, h2.2⟩]
    · rw [if_neg h2, if_neg (fun h3 => h2 ⟨by omega, h3.2⟩)]
 · rw [List.getElem?_eq_none (by rw [List.length_set, q1n]; omega), List.getElem?_eq_none (by rw [q1n]; omega)]
end Go.Proofs.Ytdhajlkiiphlfaa.Par
namespace Go.Proofs.Ytdhajlkiiphlfaa.Par
open Go.RowKit Go.Proofs.Ytdhajlkiiphlfaa.QB Go.Proofs.YtdhajlkiiphlfaaW.PrintWords Go.Proofs.YtdhajlkiiphlfaaW.PrintLast Go.Proofs.YtdhajlkiiphlfaaW.PrintMore Go.Proofs.Ytdhajlkiiphlfaa.Solve
theorem addV_take (b : Int) : ∀ (l : List Int) (o : Nat) (r : List Int) (D : Array Value), o + l.length ≤ r.length → D.toList.take r.length = r.map (Value.int .u8) → (addV b l ((r.drop o).take l.length) o D).toList.take r.length = (addAt b l o r).map (Value.int .u8)
 | [], _, r, D, _, h => by simpa [addV, addAt] using h
 | v :: l, o, r, D, hl, h => by
  rw [List.length_cons] at hl
  rw [List.drop_eq_getElem_cons (by omega), List.length_cons, List.take_succ_cons, addV, addAt]
  have e0 : r.getD o 0 = r[o] := by rw [List.getD_eq_getElem?_getD, List.getElem?_eq_getElem (by omega)]; rfl
  rw [e0]
  have h2 := addV_take b l (o + 1) (r.set o (xorZ r[o] (mulZ b v))) (D.setIfInBounds o (.int .u8 (xorZ r[o] (mulZ b v)))) (by rw [List.length_set]; omega) (by
   rw [List.length_set, Array.toList_setIfInBounds, List.take_set, h, List.map_set])
  rw [List.length_set, List.drop_set_of_lt (by omega)] at h2
  exact h2
theorem add_any (w0 w : World) (T : Option Addr) (g o n c : Nat) (D : Array Value) (xs : List Int) (A1 : Option Addr) (c1 : Nat) (l : List Int) (b : Int) (hB : Below w0.heap.size w0 w) (hg : w0.heap.size ≤ g)
    (hD : 0 < l.length → T = some ⟨g, o, none⟩ ∧ w.heap[g]? = some (.cells D 5 (0, 0))) (hxl : xs.length = l.length) (hxs : ∀ x y, xs[x]? = some y → D[o + x]? = some (.int .u8 y)) (hDi : ∀ y ∈ xs, In8 y)
    (hl : l.length ≤ n) (hnn : n ≤ 140737488355328) (hr1 : ∀ W, Kept w W (fun j => j = g) → Kd.C (Kd.int .u8) W A1 l.length l) (hli : ∀ y ∈ l, In8 y) (hb : In8 b) :
    Calls Try.prog 34 #[.slice T n c, .slice A1 l.length c1, .int .u8 b] w fun e w' => e = .returned (.tuple #[]) ∧ Below w0.heap.size w0 w' ∧ Kept w w' (fun j => 0 < l.length ∧ j = g) ∧ (0 < l.length → w'.heap[g]? = some (.cells (addV b l xs o D) 5 (0, 0))) := by
 by_cases h0 : l.length = 0
 · have e : l = [] := List.eq_nil_of_length_eq_zero h0
   subst e
   refine (add_nil w T A1 n c c1 b hb).mono ?_
   rintro e w' ⟨rfl, h1⟩
   exact ⟨rfl, q04 hB h1, Kept.of_below h1 _, fun hp => absurd hp (by decide)⟩
 · obtain ⟨rfl, hd⟩ := hD (by omega)
   refine (add_gen w0 w g o n c D xs A1 c1 l b hB hg hd hxl hxs hDi hl hnn hr1 hli hb).mono ?_
   rintro e w' ⟨rfl, h1, h2, h3⟩
   exact ⟨rfl, h1, h2.mono (fun k hk => ⟨by omega, hk⟩), fun _ => h3⟩
theorem own_slice {w : World} {base e size n : Nat} {v : Value} {xs : List Value} (h : w.ownsRow base e size v n xs) : ∃ A c, v = .slice A n c ∧ n ≤ c := by
 obtain ⟨_, hc⟩ := h
 rcases hc with ⟨rfl, rfl⟩ | ⟨g, cap, cur, rfl, _, _, hnc, _⟩
 · exact ⟨_, _, rfl, Nat.le_refl _⟩
 · exact ⟨_, _, rfl, hnc⟩
def Lone (w : World) (k : Nat) (A : Option Addr) (r : List Int) : Prop := 0 < r.length → A = some ⟨k, 0, none⟩ ∧ ∃ cells, w.heap[k]? = some (.cells cells 5 (0, 0)) ∧ cells.toList.take r.length = r.map (Value.int .u8)
theorem Lone.of_own {w : World} {base : Nat} {A : Option Addr} {c : Nat} {r : List Int} (h : w.ownsRow base 5 1 (.slice A r.length c) r.length (nums .u8 r)) : ∃ k, base ≤ k ∧ (0 < r.length → k < w.heap.size) ∧ Lone w k A r := by
 obtain ⟨_, hc⟩ := h
 rcases hc with ⟨hv, h0⟩ | ⟨g, cap, cur, hv, hg, hh, hnc, hcm, hcs, ht⟩
 · exact ⟨base, Nat.le_refl _, fun hp => absurd hp (by omega), fun hp => absurd hp (by omega)⟩
 · injection hv with h1 _ _
   subst h1
   rw [Nat.mul_one] at ht
   exact ⟨g, hg, fun _ => q0l hh, fun _ => ⟨rfl, cur, hh, ht⟩⟩
def RowFact (w : World) (s5 : Nat) (hd : Hdr) (r : List Int) : Prop := hd.2.1 = r.length ∧ r.length ≤ hd.2.2 ∧ r.length ≤ 281474976710656 ∧ (0 < r.length → ∃ k cells, hd.1 = some ⟨k, 0, none⟩ ∧ s5 ≤ k ∧ w.heap[k]? = some (.cells cells 5 (0, 0)) ∧ cells.toList.take r.length = r.map (Value.int .u8))
structure LoB (w0 w5 w : World) (hsP hsV : List Hdr) (vp : Value) (Av : Option Addr) (cv : Nat) (pl vl : List (List Int)) : Prop where
 below : Below w0.heap.size w0 w
 kept : Kept w5 w (fun _ => False)
 p : w.ownsRow w5.heap.size 41 1 vp hsP.length (encs hdV hsP)
 v : w.ownsRow w5.heap.size 41 1 (.slice Av hsV.length cv) hsV.length (encs hdV hsV)
 ne : ∀ k, vp.ownBlock = some k → (Value.slice Av hsV.length cv).ownBlock ≠ some k
 rp : RdH w w5.heap.size hsP pl
 rv : RdH w w5.heap.size hsV vl
namespace LoB
variable {w0 w5 w w' : World} {hsP hsV : List Hdr} {vp : Value} {Av : Option Addr} {cv : Nat} {pl vl : List (List Int)}
theorem move (h : LoB w0 w5 w hsP hsV vp Av cv pl vl) (hb : Below w0.heap.size w0 w') (hk : Kept w w' (fun _ => False)) : LoB w0 w5 w' hsP hsV vp Av cv pl vl :=
 ⟨hb, h.kept.then_ hk (fun k hk => .inl hk), q0t h.p (fun k e => hk.2 k (q0u h.p k e) (fun e => e)), q0t h.v (fun k e => hk.2 k (q0u h.v k e) (fun e => e)), h.ne,
  h.rp.move (fun k cells _ hc => (hk.2 k (q0l hc) (fun e => e)).trans hc), h.rv.move (fun k cells _ hc => (hk.2 k (q0l hc) (fun e => e)).trans hc)⟩
theorem ne_of {w : World} {base n k : Nat} {v : Value} {xs cells : _} (h : w.ownsRow base 41 1 v n xs) (hc : w.heap[k]? = some (.cells cells 5 (0, 0))) : some k ≠ v.ownBlock := by
 intro e
 obtain ⟨c2, h2⟩ := q0b h k e.symm
 rw [hc] at h2
 injection h2 with h2
 injection h2 with _ h2
 exact absurd h2 (by decide)
theorem appP (h : LoB w0 w5 w hsP hsV vp Av cv pl vl) (hle : w0.heap.size ≤ w5.heap.size) {vp' : Value} {hd : Hdr} {r : List Int} (h1 : w'.ownsRow w5.heap.size 41 1 vp' (hsP ++ [hd]).length (encs hdV (hsP ++ [hd]))) (h2 : Below w5.heap.size w w') (h3 : w.grownBy w' vp.ownBlock) (h4 : vp'.ownBlock = vp.ownBlock ∨ ∃ b, vp'.ownBlock = some b ∧ w.heap.size ≤ b)
    (hr : RowFact w w5.heap.size hd r) : LoB w0 w5 w' (hsP ++ [hd]) hsV vp' Av cv (pl ++ [r]) vl := by
 have mv : ∀ k cells, w5.heap.size ≤ k → w.heap[k]? = some (.cells cells 5 (0, 0)) → w'.heap[k]? = some (.cells cells 5 (0, 0)) := fun k cells _ hc => (h3.block k (q0l hc) (ne_of h.p hc)).trans hc
 refine ⟨h.below.trans (h2.mono hle), h.kept.then_ (Kept.of_grown h3 (Kept.refl _ (fun k => vp.ownBlock = some k)) (fun k hk => .inl hk)) (fun k hk => .inr (q0k h.p k hk)), h1, q0t h.v (fun k e => h3.block k (q0u h.v k e) (fun e2 => h.ne k e2.symm e)), fun k hk hk2 => ?_, (h.rp.move mv).snoc ?_, h.rv.move mv⟩
 · rcases h4 with h4 | ⟨b, h4, h5⟩
   · exact h.ne k (by rw [← h4]; exact hk) hk2
   · rw [h4] at hk; injection hk with hk; have := q0u h.v k hk2; omega
 · obtain ⟨a, b, b2, c⟩ := hr
   refine ⟨a, b, b2, fun hp => ?_⟩
   obtain ⟨k, cells, e1, e2, e3, e4⟩ := c hp
   exact ⟨k, cells, e1, e2, mv k cells e2 e3, e4⟩
theorem appV (h : LoB w0 w5 w hsP hsV vp Av cv pl vl) (hle : w0.heap.size ≤ w5.heap.size) {vv' : Value} {hd : Hdr} {r : List Int} (h1 : w'.ownsRow w5.heap.size 41 1 vv' (hsV ++ [hd]).length (encs hdV (hsV ++ [hd]))) (h2 : Below w5.heap.size w w') (h3 : w.grownBy w' (Value.slice Av hsV.length cv).ownBlock) (h4 : vv'.ownBlock = (Value.slice Av hsV.length cv).ownBlock ∨ ∃ b, vv'.ownBlock = some b ∧ w.heap.size ≤ b)
    (hr : RowFact w w5.heap.size hd r) : ∃ Av' cv', vv' = .slice Av' (hsV ++ [hd]).length cv' ∧ LoB w0 w5 w' hsP (hsV ++ [hd]) vp Av' cv' pl (vl ++ [r]) := by
 obtain ⟨Av', cv', rfl, _⟩ := own_slice h1
 have mv : ∀ k cells, w5.heap.size ≤ k → w.heap[k]? = some (.cells cells 5 (0, 0)) → w'.heap[k]? = some (.cells cells 5 (0, 0)) := fun k cells _ hc => (h3.block k (q0l hc) (ne_of h.v hc)).trans hc
 refine ⟨_, _, rfl, h.below.trans (h2.mono hle), h.kept.then_ (Kept.of_grown h3 (Kept.refl _ (fun k => (Value.slice Av hsV.length cv).ownBlock = some k)) (fun k hk => .inl hk)) (fun k hk => .inr (q0k h.v k hk)), q0t h.p (fun k e => h3.block k (q0u h.p k e) (fun e2 => h.ne k e e2.symm)), h1, fun k hk hk2 => ?_, h.rp.move mv, (h.rv.move mv).snoc ?_⟩
 · rcases h4 with h4 | ⟨b, h4, h5⟩
   · exact h.ne k hk (by rw [← h4]; exact hk2)
   · rw [h4] at hk2; injection hk2 with hk2; have := q0u h.p k hk; omega
 · obtain ⟨a, b, b2, c⟩ := hr
   refine ⟨a, b, b2, fun hp => ?_⟩
   obtain ⟨k, cells, e1, e2, e3, e4⟩ := c hp
   exact ⟨k, cells, e1, e2, mv k cells e2 e3, e4⟩
end LoB
structure LoC (w0 wi w : World) (vl : Value) (line : List Int) (kl : Nat) (Al : Option Addr) (left : List Int) : Prop where
 below : Below w0.heap.size w0 w
 kept : Kept wi w (fun _ => False)
 line : w.ownsRow wi.heap.size 5 1 vl line.length (nums .u8 line)
 ne : 0 < left.length → vl.ownBlock ≠ some kl
 klo : wi.heap.size ≤ kl
 klt : 0 < left.length → kl < w.heap.size
 left : Lone w kl Al left
namespace LoC
variable {w0 wi w w' : World} {vl : Value} {line left : List Int} {kl : Nat} {Al : Option Addr}
theorem drew (h : LoC w0 wi w vl line kl Al left) : LoC w0 wi w.drew vl line kl Al left := ⟨q06 h.below, h.kept.drew, q0t h.line (fun _ _ => rfl), h.ne, h.klo, h.klt, h.left⟩
theorem appended (h : LoC w0 wi w vl line kl Al left) (hle : w0.heap.size ≤ wi.heap.size) {v' : Value} {x : Int} (h1 : w'.ownsRow wi.heap.size 5 1 v' (line ++ [x]).length (nums .u8 (line ++ [x]))) (h2 : Below wi.heap.size w w') (h3 : w.grownBy w' vl.ownBlock) (h4 : v'.ownBlock = vl.ownBlock ∨ ∃ b, v'.ownBlock = some b ∧ w.heap.size ≤ b) : LoC w0 wi w' v' (line ++ [x]) kl Al left := by
 refine ⟨h.below.trans (h2.mono hle), h.kept.then_ (Kept.of_grown h3 (Kept.refl _ (fun k => vl.ownBlock = some k)) (fun k hk => .inl hk)) (fun k hk => .inr (q0k h.line k hk)), h1, fun hp e => ?_, h.klo, fun hp => Nat.lt_of_lt_of_le (h.klt hp) h3.size, fun hp => ?_⟩
 · rcases h4 with h4 | ⟨b, h4, h5⟩
   · exact h.ne hp (by rw [← h4]; exact e)
   · rw [h4] at e; injection e with e; have := h.klt hp; omega
 · obtain ⟨e1, cells, e2, e3⟩ := h.left hp
   exact ⟨e1, cells, (h3.block kl (q0l e2) (fun e => h.ne hp e.symm)).trans e2, e3⟩
theorem added (h : LoC w0 wi w vl line kl Al left) {b : Int} {l : List Int} {D : Array Value} (h1 : Below w0.heap.size w0 w') (h2 : Kept w w' (fun k => 0 < l.length ∧ k = kl)) (hl : l.length ≤ left.length) (hD : 0 < l.length → w.heap[kl]? = some (.cells D 5 (0, 0)) ∧ D.toList.take left.length = left.map (Value.int .u8)) (h3 : 0 < l.length → w'.heap[kl]? = some (.cells (addV b l (left.take l.length) 0 D) 5 (0, 0))) : LoC w0 wi w' vl line kl Al (addAt b l 0 left) := by
 refine ⟨h1, h.kept.then_ h2 (fun k hk => .inr (by rw [hk.2]; exact h.klo)), q0t h.line (fun k hk => h2.2 k (q0u h.line k hk) (fun e => h.ne (by omega) (by rw [← e.2]; exact hk))), fun hp => h.ne (by rwa [q1l] at hp), h.klo, fun hp => Nat.lt_of_lt_of_le (h.klt (by rwa [q1l] at hp)) h2.1, fun hp => ?_⟩
 rw [q1l] at hp
 obtain ⟨e1, cells, e2, e3⟩ := h.left hp
 by_cases h0 : 0 < l.length
 · have h4 := addV_take b l 0 left D (by omega) (hD h0).2
   rw [List.drop_zero] at h4
   exact ⟨e1, _, h3 h0, by rw [q1l]; exact h4⟩
 · have e : l = [] := List.eq_nil_of_length_eq_zero (by omega)
   subst e
   exact ⟨e1, cells, (h2.2 kl (q0l e2) (fun e => absurd e.1 (by decide))).trans e2, e3⟩
theorem start {w0 wi w6 : World} {q : Nat} {v : Value} {z : List Int} (hB : Below w0.heap.size w0 wi) (hq : q ≤ 1000) (h1 : w6.ownsRow (wi.heap.size + 1) 5 1 v z.length (nums .u8 z)) (h2 : Below (wi.heap.size + 1) (wi.alloc (.cells (madeCells #[.int .u8 0] q) 5)) w6) :
    ∃ Al cl kl, v = .slice Al z.length cl ∧ z.length ≤ cl ∧ LoC w0 wi w6 (.slice (some ⟨wi.heap.size, 0, none⟩) 0 q) [] kl Al z := by
 obtain ⟨Al, cl, rfl, hl⟩ := own_slice h1
 obtain ⟨kl, hk1, hk2, hk3⟩ := Lone.of_own h1
 have hs : (wi.alloc (.cells (madeCells #[.int .u8 0] q) 5)).heap.size = wi.heap.size + 1 := size_alloc' _ _
 have hle := hB.size
 refine ⟨Al, cl, kl, rfl, hl, (q02 hB _).trans (h2.mono (by omega)), (Kept.of_below (q02 (Below.refl _ _) _) _).then_ (S2 := fun _ => False) ⟨by have := h2.size; exact this, fun i hi _ => h2.block i (by omega)⟩ (fun k hk => hk.elim), ⟨rfl, .inr ⟨wi.heap.size, q, madeCells #[.int .u8 0] q, rfl, Nat.le_refl _, ?_, Nat.zero_le _, by unfold maxLen; omega, ?_, rfl⟩⟩, fun _ e => ?_, by omega, hk2, hk3⟩
 · exact (h2.block _ (by omega)).trans (q0z _ _)
 · rw [made_rep]; simp
 · have e2 : wi.heap.size = kl := Option.some.inj e
   omega
theorem addCall (h : LoC w0 wi w vl line kl Al left) (hwi : w0.heap.size ≤ wi.heap.size) {l : List Int} {A1 : Option Addr} {c1 cl : Nat} {b : Int} (hl : l.length ≤ left.length) (hin : ∀ y ∈ left, In8 y) (hsm : left.length ≤ 140737488355328) (hr1 : ∀ W, Kept w W (fun k => k = kl) → Kd.C (Kd.int .u8) W A1 l.length l) (hli : ∀ y ∈ l, In8 y) (hb : In8 b) :
    Calls Try.prog 34 #[.slice Al left.length cl, .slice A1 l.length c1, .int .u8 b] w fun e w' => e = .returned (.tuple #[]) ∧ LoC w0 wi w' vl line kl Al (addAt b l 0 left) := by
 obtain ⟨D, hD⟩ : ∃ D : Array Value, 0 < left.length → Al = some ⟨kl, 0, none⟩ ∧ w.heap[kl]? = some (.cells D 5 (0, 0)) ∧ D.toList.take left.length = left.map (Value.int .u8) := by
  by_cases hp : 0 < left.length
  · obtain ⟨e1, D, e2, e3⟩ := h.left hp
    exact ⟨D, fun _ => ⟨e1, e2, e3⟩⟩
  · exact ⟨#[], fun hp2 => absurd hp2 hp⟩
 refine (add_any w0 w Al kl 0 left.length cl D (left.take l.length) A1 c1 l b h.below (Nat.le_trans hwi h.klo) (fun hp => ⟨(hD (by omega)).1, (hD (by omega)).2.1⟩) (by rw [List.length_take]; omega) (fun x y hx => ?_) (fun y hy => hin y (List.mem_of_mem_take hy)) hl hsm hr1 hli hb).mono ?_
 ·
  have hlt := (List.getElem?_eq_some_iff.1 hx).1
  rw [List.length_take] at hlt
  have e3 := (hD (by omega)).2.2
  rw [List.getElem?_take, if_pos (by omega)] at hx
  have : (D.toList.take left.length)[x]? = (left.map (Value.int .u8))[x]? := by rw [e3]
  rw [List.getElem?_take, if_pos (by omega), List.getElem?_map, hx] at this
  rw [Nat.zero_add, ← Array.getElem?_toList, this]; rfl
 · rintro e w' ⟨rfl, h1, h2, h3⟩
   exact ⟨rfl, h.added h1 h2 hl (fun hp => (hD (by omega)).2) h3⟩
theorem lineFact {A : Option Addr} {c s5 : Nat} (h : LoC w0 wi w (.slice A line.length c) line kl Al left) (h5 : s5 ≤ wi.heap.size) (hc : line.length ≤ c) (hs : line.length ≤ 281474976710656) : RowFact w s5 (A, line.length, c) line := by
 obtain ⟨k, h1, _, h3⟩ := Lone.of_own h.line
 refine ⟨rfl, hc, hs, fun hp => ?_⟩
 obtain ⟨e1, cells, e2, e3⟩ := h3 hp
 exact ⟨k, cells, e1, by omega, e2, e3⟩
theorem leftFact {cl s5 zl : Nat} (h : LoC w0 wi w vl line kl Al left) (h5 : s5 ≤ wi.heap.size) (hz : left.length = zl) (hc : zl ≤ cl) (hs : zl ≤ 281474976710656) : RowFact w s5 (Al, zl, cl) left := by
 subst hz
 refine ⟨rfl, hc, hs, fun hp => ?_⟩
 obtain ⟨e1, cells, e2, e3⟩ := h.left hp
 exact ⟨kl, cells, e1, by have := h.klo; omega, e2, e3⟩
end LoC
theorem RowFact.grown {w w' : World} {s5 : Nat} {hd : Hdr} {r : List Int} {row : Option Nat} (h : RowFact w s5 hd r) (hg : w.grownBy w' row) (hrow : ∀ k cells, w.heap[k]? = some (.cells cells 5 (0, 0)) → some k ≠ row) : RowFact w' s5 hd r := by
 obtain ⟨a, b, c, d⟩ := h
 refine ⟨a, b, c, fun hp => ?_⟩
 obtain ⟨k, cells, e1, e2, e3, e4⟩ := d hp
 exact ⟨k, cells, e1, e2, (hg.block k (q0l e3) (hrow k cells e3)).trans e3, e4⟩
structure Dt (w : World) (base b : Nat) (hs : List Hdr) (m : List (List Int)) : Prop where
 hb : base ≤ b
 len : hs.length = m.length
 few : m.length ≤ 1000
 many : m.flatten.length ≤ 281474976710656
 data : w.heap[b]? = some (.cells (m.flatten.map (Value.int .u8)).toArray 5 (0, 0))
 row : ∀ (i : Nat) (r : List Int), m[i]? = some r → ∃ o : Nat, hs[i]? = some (some ⟨b, o, none⟩, r.length, r.length) ∧ o ≤ m.flatten.length ∧ (0 < r.length → o = ((m.take i).flatten).length)
theorem Cu.toDt {w : World} {base g b : Nat} {m : List (List Int)} (h : Cu w base g b m) : ∃ hs : List Hdr, w.heap[g]? = some (.cells (encs hdV hs).toArray 41 (0, 0)) ∧ Dt w base b hs m := by
 obtain ⟨hv, hh, hl, hx⟩ := h.heads
 have ex : ∀ i : Nat, ∃ hd : Hdr, ∀ r, m[i]? = some r → hv[i]? = some (hdV hd) ∧ ∃ o : Nat, hd = (some ⟨b, o, none⟩, r.length, r.length) ∧ o ≤ m.flatten.length ∧ (0 < r.length → o = ((m.take i).flatten).length) := by
  intro i
  cases e : m[i]? with
  | none => exact ⟨(none, 0, 0), fun r hr => by cases hr⟩
  | some r =>
   obtain ⟨o, h1, h2, h3⟩ := hx i r e
   exact ⟨(some ⟨b, o, none⟩, r.length, r.length), fun r' hr' => by
    obtain rfl := Option.some.inj hr'
    exact ⟨h1, o, rfl, h2, h3⟩⟩
 obtain ⟨f, hf⟩ := Classical.skolem.1 ex
 refine ⟨(List.range m.length).map f, ?_, h.hb, by simp, h.few, h.many, h.data, fun i r hr => ?_⟩
 ·
  rw [hh]
  congr 3
  apply List.ext_getElem?
  intro i
  by_cases hi : i < m.length
  · have := (hf i m[i] (List.getElem?_eq_getElem hi)).1
    rw [this]
    unfold encs
    rw [List.getElem?_map, List.getElem?_map, List.getElem?_range hi]; rfl
  · rw [List.getElem?_eq_none (by omega), List.getElem?_eq_none (by simp [encs]; omega)]
 · have hi := (List.getElem?_eq_some_iff.1 hr).1
   obtain ⟨_, o, e, h2, h3⟩ := hf i r hr
   refine ⟨o, ?_, h2, h3⟩
   rw [List.getElem?_map, List.getElem?_range hi, ← e]; rfl
theorem Dt.move {w w' : World} {base b : Nat} {hs : List Hdr} {m : List (List Int)} (h : Dt w base b hs m) (hm : w'.heap[b]? = w.heap[b]?) : Dt w' base b hs m := ⟨h.hb, h.len, h.few, h.many, hm.trans h.data, h.row⟩
theorem Dt.rowC {w : World} {base b : Nat} {hs : List Hdr} {m : List (List Int)} (h : Dt w base b hs m) {i : Nat} {r : List Int} (hi : m[i]? = some r) {o : Nat} (ho : 0 < r.length → o = ((m.take i).flatten).length) : Kd.C (Kd.int .u8) w (some ⟨b, o, none⟩) r.length r := by
 refine ⟨rfl, ?_, fun hp => ⟨_, rfl, fun j p hj => ⟨[.int .u8 p], rfl, rfl, fun t u ht => ?_⟩⟩⟩
 · have := h.many
   rw [q22 hi, List.length_append, List.length_append] at this
   omega
 ·
  have hjl := (List.getElem?_eq_some_iff.1 hj).1
  match t, ht with
  | 0, ht =>
   obtain rfl := Option.some.inj ht
   rw [show (⟨b, o, none⟩ : Addr).add (j * (Kd.int .u8).sz + 0) = ⟨b, o + (j * 1 + 0), none⟩ from q1r b o _]
   rw [q0h h.data, ho hp, q22 hi]
   simp only [List.getElem?_toArray, List.getElem?_map]
   rw [List.getElem?_append_right (by omega), show (List.take i m).flatten.length + (j * 1 + 0) - (List.take i m).flatten.length = j by omega, List.getElem?_append_left hjl, hj]
   rfl
  | t + 1, ht => simp at ht
structure RRes (w : World) (base : Nat) (v : Value) (hs1 hs2 : List Hdr) (b1 b2 : Nat) (m1 m2 : List (List Int)) : Prop where
 own : w.ownsRow base 41 1 v (hs1 ++ hs2).length (encs hdV (hs1 ++ hs2))
 d1 : Dt w base b1 hs1 m1
 d2 : Dt w base b2 hs2 m2
 ne : b1 ≠ b2
 n1 : v.ownBlock ≠ some b1
 n2 : v.ownBlock ≠ some b2
theorem RRes.reads {w : World} {base : Nat} {v : Value} {hs1 hs2 : List Hdr} {b1 b2 : Nat} {m1 m2 : List (List Int)} (h : RRes w base v hs1 hs2 b1 b2 m1 m2) : ∃ A c, v = .slice A (m1 ++ m2).length c ∧ (m1 ++ m2).length ≤ c ∧ Kd.C (Kd.slice 5 (Kd.int .u8)) w A (m1 ++ m2).length (m1 ++ m2) := by
 have hl : (hs1 ++ hs2).length = (m1 ++ m2).length := by rw [List.length_append, List.length_append, h.d1.len, h.d2.len]
 have hrow : ∀ (j : Nat) p, (m1 ++ m2)[j]? = some p → ∃ A c, (hs1 ++ hs2)[j]? = some (A, p.length, c) ∧ p.length ≤ c ∧ Kd.C (Kd.int .u8) w A p.length p := by
  intro j p hj
  by_cases hlt : j < m1.length
  · rw [List.getElem?_append_left hlt] at hj
    obtain ⟨o, e1, _, e3⟩ := h.d1.row j p hj
    exact ⟨_, _, by rw [List.getElem?_append_left (by rw [h.d1.len]; exact hlt)]; exact e1, Nat.le_refl _, h.d1.rowC hj e3⟩
  · rw [List.getElem?_append_right (by omega)] at hj
    obtain ⟨o, e1, _, e3⟩ := h.d2.row _ p hj
    exact ⟨_, _, by rw [List.getElem?_append_right (by rw [h.d1.len]; omega), h.d1.len]; exact e1, Nat.le_refl _, h.d2.rowC hj e3⟩
 obtain ⟨hlen, hcase⟩ := h.own
 rcases hcase with ⟨rfl, hx0⟩ | ⟨g, cap, cur, rfl, hg, hh, hnc, hcm, hcs, htake⟩
 · have e : m1 ++ m2 = [] := List.eq_nil_of_length_eq_zero (by omega)
   rw [e]
   exact ⟨none, 0, rfl, Nat.le_refl _, rfl, by decide, fun hp => absurd hp (by decide)⟩
 ·
  refine ⟨_, cap, by rw [hl], by omega, rfl, by have := h.d1.few; have := h.d2.few; rw [List.length_append]; omega, fun hp => ⟨_, rfl, fun j p hj => ?_⟩⟩
  obtain ⟨A, c, e1, e2, e3⟩ := hrow j p hj
  have hjl := (List.getElem?_eq_some_iff.1 hj).1
  refine ⟨[.slice A p.length c], rfl, ⟨A, c, rfl, e2, e3⟩, fun t u hu => ?_⟩
  match t, hu with
  | 0, hu =>
   obtain rfl := Option.some.inj hu
   rw [show (⟨g, 0, none⟩ : Addr).add (j * (Kd.slice 5 (Kd.int .u8)).sz + 0) = ⟨g, j, none⟩ from (q1r g 0 _).trans (by rw [Nat.zero_add]; exact congrArg (fun z => (⟨g, z, none⟩ : Addr)) (Nat.mul_one j))]
   rw [q0h hh, ← Array.getElem?_toList]
   have : (cur.toList.take ((hs1 ++ hs2).length * 1))[j]? = (encs hdV (hs1 ++ hs2))[j]? := by rw [htake]
   rw [List.getElem?_take, if_pos (by omega)] at this
   rw [this]
   unfold encs
   rw [List.getElem?_map, e1]; rfl
  | t + 1, hu => simp at hu
theorem own_heads {w : World} {base g : Nat} {hs : List Hdr} (hg : base ≤ g) (hh : w.heap[g]? = some (.cells (encs hdV hs).toArray 41 (0, 0))) (hl : hs.length ≤ 1000) : w.ownsRow base 41 1 (.slice (some ⟨g, 0, none⟩) hs.length hs.length) hs.length (encs hdV hs) := by
 have e : (encs hdV hs).length = hs.length := by simp [encs]
 refine ⟨by rw [e, Nat.mul_one], .inr ⟨g, hs.length, _, rfl, hg, hh, Nat.le_refl _, by unfold maxLen; omega, by rw [List.size_toArray, e, Nat.mul_one], ?_⟩⟩
 rw [List.toList_toArray, Nat.mul_one, ← e, List.take_length]
theorem reads_heads {w : World} {g : Nat} {hs : List Hdr} (hh : w.heap[g]? = some (.cells (encs hdV hs).toArray 41 (0, 0))) (hl : hs.length ≤ 1000) : q0j hdV ((none, 0, 0) : Hdr) w (some ⟨g, 0, none⟩) hs.length hs := by
 refine ⟨rfl, by omega, fun hp => ⟨_, rfl, fun j hj => ?_⟩⟩
 rw [q1r, Nat.zero_add, q0h hh]
 unfold encs
 rw [List.getElem?_toArray, List.getElem?_map, List.getElem?_eq_getElem hj, List.getD_eq_getElem?_getD, List.getElem?_eq_getElem hj]; rfl
end Go.Proofs.Ytdhajlkiiphlfaa.Par
namespace Go.Proofs.Ytdhajlkiiphlfaa.Par
open Go.RowKit Go.Proofs.Ytdhajlkiiphlfaa.QB Go.Proofs.YtdhajlkiiphlfaaW.PrintWords Go.Proofs.YtdhajlkiiphlfaaW.PrintLast Go.Proofs.YtdhajlkiiphlfaaW.PrintMore Go.Proofs.Ytdhajlkiiphlfaa.Solve
set_option maxHeartbeats 800000 in
set_option maxRecDepth 100000 in
theorem restore_no (A0 A1 A2 A3 : Option Addr) (c0 c1 c2 c3 : Nat) (rows : List (List Int)) (sizes : List Int) (more : List (List Int)) (lost : List Int) (g : List Bool) (x : Int) (w : World)
    (hr0 : Kd.C (Kd.slice 5 (Kd.int .u8)) w A0 rows.length rows) (hc0 : rows.length ≤ c0) (hr1 : Kd.C (Kd.int .i64) w A1 sizes.length sizes) (hc1 : sizes.length ≤ c1) (hr2 : Kd.C (Kd.slice 5 (Kd.int .u8)) w A2 more.length more) (hc2 : more.length ≤ c2) (hr3 : Kd.C (Kd.int .i64) w A3 lost.length lost) (hc3 : lost.length ≤ c3)
    (hlo : lost.length ≤ 140737488355328) (hf : fitsL rows sizes more lost = (g, x)) (hx : x ≠ 0) :
    Calls Try.prog 16 #[.slice A0 rows.length c0, .slice A1 sizes.length c1, .slice A2 more.length c2, .slice A3 lost.length c3] w fun e w' => e = .returned (.tuple #[.slice none 0 0, .int .i64 x]) ∧ Below w.heap.size w w' := by
 obtain ⟨K, hK⟩ : ∃ K, K = 2 * lost.length + 6000 := ⟨_, rfl⟩
 have F1 : Aside0 (parity_fits.f K rows sizes more lost = some (g, x)) := ⟨by rw [fits_f rows sizes more lost hlo (by omega), hf]⟩
 have HR0 := sqM hr0
 have HR1 := sqM hr1
 have HR2 := sqM hr2
 have HR3 := sqM hr3
 have HC0 := sqM hc0
 have HC1 := sqM hc1
 have HC2 := sqM hc2
 have HC3 := sqM hc3
 have hx1 : (x != 0) = true := bne_iff_ne.mpr hx
 clear hr0 hr1 hr2 hr3 hc0 hc1 hc2 hc3 hf hlo hK hx
 go_enter Try.func16, Try.ntmps16
 go_wp2_with (first
  | (go_at_call 30; (with_reducible refine (parity_fits.calls K _ _ rows _ _ sizes _ _ more _ _ lost g x _ HR0.out HC0.out HR1.out HC1.out HR2.out HC2.out HR3.out HC3.out F1.out).mono ?_); rintro e w1 ⟨v1, rfl, ho, hb⟩; have HB1 := sqM hb; clear ho hb))
 go_ret2
 exact ⟨rfl, HB1.out⟩
structure Given (rows : List (List Int)) (ls : List Nat) (more : List (List Int)) (g : List Bool) (n p W : Nat) : Prop where
 rn : rows.length = n
 pn : more.length = p
 ln : ls.length = n
 gn : g.length = n + p
 n200 : n ≤ 200
 p16 : p ≤ 16
 wid : W = wideN ls
 small : ∀ t, t < n → ls.getD t 0 ≤ 16777216
 rowsFit : ∀ t, t < n → g.getD t false = false → (rows.getD t []).length = ls.getD t 0
 moreFit : ∀ t, t < p → g.getD (n + t) false = false → (more.getD t []).length = W
 rin : ∀ r ∈ rows, ∀ y ∈ r, In8 y
 min : ∀ r ∈ more, ∀ y ∈ r, In8 y
theorem getD_mem {α : Type} {l : List α} {d : α} {t : Nat} (h : t < l.length) : l.getD t d ∈ l := by
 rw [List.getD_eq_getElem?_getD, List.getElem?_eq_getElem h]; exact List.getElem_mem h
theorem getD_get {α : Type} {l : List α} {d : α} {t : Nat} (h : t < l.length) : l[t]? = some (l.getD t d) := by
 rw [List.getD_eq_getElem?_getD, List.getElem?_eq_getElem h]; rfl
theorem at_boolC {w : World} {A : Option Addr} {n : Nat} {xs : List Bool} (h : Kd.C Kd.bool w A n xs) {i : Nat} (hi : i < n) : ∃ ad, A = some ad ∧ w.cell? (ad.add i) = some (.bool (xs.getD i false)) := by
 obtain ⟨ad, c, e, _, hK, hc⟩ := Kd.C_get h false (i : Int) (by omega) (by omega)
 have hK' : c = [.bool (xs.getD (i : Int).toNat false)] := hK
 subst hK'
 have := hc 0 _ rfl
 rw [Int.toNat_natCast, show i * Kd.bool.sz + 0 = i from Nat.mul_one i] at this
 exact ⟨ad, e, this⟩
theorem sum_le {ls : List Nat} {B : Nat} (h : ∀ t, t < ls.length → ls.getD t 0 ≤ B) : ls.sum ≤ ls.length * B := by
 induction ls with
 | nil => simp
 | cons a l ih =>
  have h0 := h 0 (by simp)
  have := ih (fun t ht => h (t + 1) (by simpa using ht))
  rw [List.sum_cons, List.length_cons, Nat.add_mul]
  simp at h0
  omega
theorem make_cap (q : Nat) (hq : q ≤ 1000) (W : World) : (Instr.makeSlice 41 (.int .i64 0) (.int .i64 (q : Int))).run Try.prog W = .ok (.slice (some ⟨W.heap.size, 0, none⟩) 0 q) (W.alloc (.cells (madeCells #[.int .u8 0] q) 5)) := by
 obtain ⟨i0, hi, hzz⟩ := Option.map_eq_some_iff.1 info5'
 simp only [Prod.mk.injEq] at hzz
 obtain ⟨hz0, hz1, hz2⟩ := hzz
 have h := run_make (P := Try.prog) W 41 5 i0 (.int .u8 0) Try.underlying41 hi hz0 .i64 .i64 0 (q : Int) (by omega) (by omega) (by rw [hz2]; omega) (by omega)
 rw [h, hz1, Int.toNat_natCast, Nat.mul_one]
 rfl
theorem out_len {rows : List (List Int)} {ls : List Nat} {more : List (List Int)} {g : List Bool} {n p W : Nat} (h : Given rows ls more g n p W) {j : Nat} (hj : j < n) : ((outA rows ls g n).getD j []).length = ls.getD j 0 ∧ ls.getD j 0 ≤ W ∧ ∀ y ∈ (outA rows ls g n).getD j [], In8 y := by
 have hjl : j < ls.length := by rw [h.ln]; exact hj
 have e : (outA rows ls g n).getD j [] = if j < n ∧ g.getD j false = false then rows.getD j [] else zeros (ls.getD j 0) := by
  rw [List.getD_eq_getElem?_getD, outA_get rows ls g n hjl]; rfl
 refine ⟨?_, by rw [h.wid]; exact le_wideN (getD_mem hjl), ?_⟩
 · rw [e]
   by_cases hc : j < n ∧ g.getD j false = false
   · rw [if_pos hc]; exact h.rowsFit j hj hc.2
   · rw [if_neg hc]; exact List.length_replicate
 · rw [e]
   by_cases hc : j < n ∧ g.getD j false = false
   · rw [if_pos hc]; exact h.rin _ (getD_mem (by rw [h.rn]; exact hj))
   · rw [if_neg hc]; exact zeros_in _
theorem outB_row {rows : List (List Int)} {ls : List Nat} {more : List (List Int)} {g : List Bool} {n p W q : Nat} (h : Given rows ls more g n p W) (hq : (woL g n).length = q) {X : List (List Int)} (hX : Sh q W X) : ∀ k, k ≤ q → (outB (woL g n) X ls (outA rows ls g n) k).length = n ∧ ∀ t, t < n → ∃ r, (outB (woL g n) X ls (outA rows ls g n) k)[t]? = some r ∧ r.length = ls.getD t 0 ∧ ∀ y ∈ r, In8 y
 | 0, _ => ⟨by rw [outB, q1o, h.ln], fun t ht => ⟨_, getD_get (by rw [outB, q1o, h.ln]; exact ht), (out_len h ht).1, (out_len h ht).2.2⟩⟩
 | k + 1, hk => by
  obtain ⟨h1, h2⟩ := outB_row h hq hX k (by omega)
  refine ⟨by rw [outB, List.length_set]; exact h1, fun t ht => ?_⟩
  rw [outB]
  by_cases e : (woL g n).getD k 0 = t
  ·
   rw [e]
   have hkX : k < X.length := by rw [hX.len]; omega
   have hmem := getD_mem (d := []) hkX
   refine ⟨_, List.getElem?_set_self (by rw [h1]; exact ht), ?_, fun y hy => hX.el _ hmem y (List.mem_of_mem_take hy)⟩
   rw [List.length_take, hX.row _ hmem]
   have := (out_len h ht).2.1
   omega
  · rw [List.getElem?_set_ne e]
    exact h2 t ht
structure LoD (w0 w6 w : World) (gh b : Nat) (out : List (List Int)) : Prop where
 below : Below w0.heap.size w0 w
 kept : Kept w6 w (fun k => k = b)
 cu : Cu w w0.heap.size gh b out
theorem LoD.drew {w0 w6 w : World} {gh b : Nat} {out : List (List Int)} (h : LoD w0 w6 w gh b out) : LoD w0 w6 w.drew gh b out := ⟨q06 h.below, h.kept.drew, h.cu.below (q06 (Below.refl _ _))⟩
structure LoA (w0 w1 w : World) (gh b : Nat) (out : List (List Int)) (v : Value) (wo : List Nat) : Prop where
 below : Below w0.heap.size w0 w
 kept : Kept w1 w (fun k => k = b)
 cu : Cu w w0.heap.size gh b out
 wo : w.ownsRow w1.heap.size 3 1 v wo.length (nums .i64 (up wo))
theorem LoA.drew {w0 w1 w : World} {gh b : Nat} {out : List (List Int)} {v : Value} {wo : List Nat} (h : LoA w0 w1 w gh b out v wo) : LoA w0 w1 w.drew gh b out v wo := ⟨q06 h.below, h.kept.drew, h.cu.below (q06 (Below.refl _ _)), q0t h.wo (fun _ _ => rfl)⟩
theorem LoA.copied {w0 w1 w w' : World} {gh b : Nat} {out out' : List (List Int)} {v : Value} {wo : List Nat} (h : LoA w0 w1 w gh b out v wo) (hb : b < w1.heap.size) (h1 : Cu w' w0.heap.size gh b out') (h2 : Below w0.heap.size w0 w') (h3 : Kept w w' (fun k => k = b)) : LoA w0 w1 w' gh b out' v wo :=
 ⟨h2, h.kept.then_ h3 (fun k hk => .inl hk), h1, q0t h.wo (fun k hk => h3.2 k (q0u h.wo k hk) (fun e => by have := q0k h.wo k hk; omega))⟩
theorem LoA.appended {w0 w1 w w' : World} {gh b : Nat} {out : List (List Int)} {v v' : Value} {wo : List Nat} {x : Nat} (h : LoA w0 w1 w gh b out v wo) (hgb : gh < w1.heap.size ∧ b < w1.heap.size) (h1 : w'.ownsRow w1.heap.size 3 1 v' (up wo ++ [(x : Int)]).length (nums .i64 (up wo ++ [(x : Int)]))) (h2 : Below w1.heap.size w w') (h3 : w.grownBy w' v.ownBlock) (hle : w0.heap.size ≤ w1.heap.size) : LoA w0 w1 w' gh b out v' (wo ++ [x]) := by
 have hne : ∀ k, k < w1.heap.size → some k ≠ v.ownBlock := fun k hk e => by have := q0k h.wo k e.symm; omega
 refine ⟨h.below.trans (h2.mono hle), ⟨Nat.le_trans h.kept.1 h3.size, fun i hi hn => (h2.block i hi).trans (h.kept.2 i hi hn)⟩, ?_, ?_⟩
 · exact h.cu.kept (S := fun k => some k = v.ownBlock) ⟨h3.size, fun i hi hn => h3.block i hi hn⟩ (hne _ hgb.1) (hne _ hgb.2)
 · have e : up wo ++ [(x : Int)] = up (wo ++ [x]) := by unfold up; rw [List.map_append]; rfl
   rw [e, q27] at h1
   exact h1
theorem LoA.readsWo {w0 w1 w w' : World} {gh b : Nat} {out : List (List Int)} {Aw : Option Addr} {q cw : Nat} {wo : List Nat} (h : LoA w0 w1 w gh b out (.slice Aw q cw) wo) (hb : b < w1.heap.size) (hB : Below w.heap.size w w') : ∀ W, Kept w' W (fun k => k = b) → Kd.C (Kd.int .i64) W Aw q (up wo) := by
 have hR := R_of_own (xs := up wo) (by rw [q27]; exact h.wo)
 exact Kd.C_kept_own (Kd.R_bound (Kd.R_below hR hB)) (fun k hk e => by have := hk.2.1; omega)
set_option maxHeartbeats 4000000 in
set_option maxRecDepth 100000 in
theorem restore_ok (A0 A1 A2 A3 : Option Addr) (c0 c1 c2 c3 : Nat) (rows : List (List Int)) (ls : List Nat) (more : List (List Int)) (lost : List Int) (g : List Bool) (n p W : Nat) (w : World)
    (hr0 : Kd.C (Kd.slice 5 (Kd.int .u8)) w A0 n rows) (hc0 : n ≤ c0) (hr1 : Kd.C (Kd.int .i64) w A1 n (up ls)) (hc1 : n ≤ c1) (hr2 : Kd.C (Kd.slice 5 (Kd.int .u8)) w A2 p more) (hc2 : p ≤ c2) (hr3 : Kd.C (Kd.int .i64) w A3 lost.length lost) (hc3 : lost.length ≤ c3)
    (hlo : lost.length ≤ 140737488355328) (hf : fitsL rows (up ls) more lost = (g, 0)) (hG : Given rows ls more g n p W) (q : Nat) (hq : (woL g n).length = q) (hcount : q ≤ (usedL g n p).length) (OUT : List (List Int)) (hOUT : outA rows ls g n = OUT) (X : List (List Int)) (hX : 0 < q → Sh q W X ∧ ∀ i, i ≤ p → (usedL g n i).length = q → cols q q 0 (partL g n i, vL g n OUT more i) = some X ∧ Sh q q (partL g n i) ∧ Sh q W (vL g n OUT more i)) :
    Calls Try.prog 16 #[.slice A0 n c0, .slice A1 n c1, .slice A2 p c2, .slice A3 lost.length c3] w fun e w' => ∃ v hs1 hs2 b1 b2, e = .returned (.tuple #[v, .int .i64 0]) ∧ RRes w' w.heap.size v hs1 hs2 b1 b2 (outB (woL g n) X ls OUT q) (restB g n more (madeL (outB (woL g n) X ls OUT q) p) p) ∧ Below w.heap.size w w' := by
 obtain ⟨K, hK⟩ : ∃ K, K = 2 * lost.length + 6000 := ⟨_, rfl⟩
 have F1 : Aside0 (parity_fits.f K rows (up ls) more lost = some (g, 0)) := ⟨by rw [fits_f rows (up ls) more lost hlo (by omega), hf]⟩
 have F2 : Aside0 (parity_wide.f 2000 (up ls) = some ((W : Nat) : Int)) := ⟨by rw [wide_f ls (by have := hG.ln; have := hG.n200; omega) (by omega), hG.wid]⟩
 have F3 : Aside0 (parity_matrix.f 80000 (p : Int) (n : Int) = some (matL p n)) := ⟨matrix_f hG.p16 hG.n200 (by omega)⟩
 have F4 : Aside0 (ls.sum ≤ 281474976710656) := ⟨by
  have h1 := sum_le (ls := ls) (B := 16777216) (fun t ht => hG.small t (by rw [← hG.ln]; exact ht))
  have h2 : ls.length ≤ 200 := by rw [hG.ln]; exact hG.n200
  omega⟩
 have HG := sqM hG
 have HQ := sqM hq
 have HCNT := sqM hcount
 have HOUT := sqM hOUT
 have HX := sqM hX
 have HU : Aside0 ((up ls).length = n) := ⟨by rw [q27, hG.ln]⟩
 have HR0 := sqM hr0
 have HR1 := sqM hr1
 have HR2 := sqM hr2
 have HR3 := sqM hr3
 have HC0 := sqM hc0
 have HC1 := sqM hc1
 have HC2 := sqM hc2
 have HC3 := sqM hc3
 have f1 := fun A (c : Nat) B (d : Nat) C (e : Nat) D (f : Nat) (W : World) h0 h1 h2 h3 h4 h5 h6 h7 => parity_fits.calls K A c rows B d (up ls) C e more D f lost g 0 W h0 h1 h2 h3 h4 h5 h6 h7 F1.out
 rw [hG.rn, hG.pn, HU.out] at f1
 have f2 := fun A (c : Nat) (W' : World) h0 h1 => parity_wide.calls 2000 A c (up ls) _ W' h0 h1 F2.out
 rw [HU.out] at f2
 have F5 := sqM f1
 have F6 := sqM f2
 clear hr0 hr1 hr2 hr3 hc0 hc1 hc2 hc3 hG hf hlo hK f1 f2 hq hcount hOUT hX
 go_enter Try.func16, Try.ntmps16
 go_wp2_with (first
  | (go_at_call 30; (with_reducible refine (F5.out _ _ _ _ _ _ _ _ _ HR0.out HC0.out HR1.out HC1.out HR2.out HC2.out HR3.out HC3.out).mono ?_); rintro e w1 ⟨v1, rfl, ho, hb⟩; obtain ⟨Ag, cg, rfl, _, hCg⟩ := Kd.R_reads ho; have HCG := sqM hCg; have HB1 := sqM hb; clear ho hCg hb)
  | (go_at_call 31; (with_reducible refine (F6.out _ _ _ ?s1 HC1.out).mono ?_); (case s1 => exact Kd.C_below HR1.out HB1.out); rintro e w2 ⟨rfl, hb⟩; have HB2 := sqM (q04 HB1.out hb); have HCG2 := sqM (Kd.C_below HCG.out hb); clear hb HCG HB1)
  | (go_at_call 32; (with_reducible refine (cut_calls' _ _ _ ls HG.out.ln _ ?s2 ?s3 F4.out).mono ?_); (case s2 => exact Kd.C_below HR1.out HB2.out); (case s3 => have := HG.out.n200; omega); rintro e w3 ⟨gh, b, rfl, hcu, hb⟩; have HB3 := sqM (q04 HB2.out hb); have HB23 := sqM hb; have HBD := sqM hcu.hb; have HCU := sqM (hcu.base_down (q01 HB2.out)); clear hcu hb))
 have HK3 : Aside0 (LoA w w3 w3 gh b (outA rows ls g 0) (.slice none 0 0) []) := ⟨⟨HB3.out, Kept.refl _ _, by rw [outA_zero]; exact HCU.out, ⟨rfl, .inl ⟨rfl, rfl⟩⟩⟩⟩
 have HGB : Aside0 (gh < w3.heap.size ∧ b < w3.heap.size) := ⟨⟨HCU.out.lt_g, HCU.out.lt_b⟩⟩
 have HLE : Aside0 (w.heap.size ≤ w3.heap.size) := ⟨q01 HB3.out⟩
 have PG : Aside0 (∀ W, Kept w3 W (fun k => k = b) → Kd.C Kd.bool W Ag g.length g) := ⟨Kd.C_kept_came Kd.heap_bool HCG2.out HB23.out (fun k hk => by rw [hk]; exact HBD.out)⟩
 have P0 : Aside0 (∀ W, Kept w3 W (fun k => k = b) → Kd.C (Kd.slice 5 (Kd.int .u8)) W A0 n rows) := ⟨Kd.C_kept_came (Kd.heap_slice 5 (Kd.heap_int .u8)) HR0.out HB3.out (fun k hk => by rw [hk]; have := HBD.out; have := q01 HB2.out; omega)⟩
 have P2 : Aside0 (∀ W, Kept w3 W (fun k => k = b) → Kd.C (Kd.slice 5 (Kd.int .u8)) W A2 p more) := ⟨Kd.C_kept_came (Kd.heap_slice 5 (Kd.heap_int .u8)) HR2.out HB3.out (fun k hk => by rw [hk]; have := HBD.out; have := q01 HB2.out; omega)⟩
 rw [HG.out.gn] at PG ⊢
 clear HCG2 HCU HBD HB2 HB3 HB23 HR1 HR3 HC1 HC2 HC3 F1 F2 F5 F6
 go_loopw [16, 52] (fun v16 v52 wr => ∃ i : Nat, i ≤ n ∧ v52 = .int .i64 (i : Int) ∧ Aside0 (LoA w w3 wr gh b (outA rows ls g i) v16 (woL g i))) (fun _ v52 _ => n - (intOf v52).toNat)
 case atStart => exact ⟨0, Nat.zero_le _, rfl, HK3⟩
 case round =>
  clear HK3
  obtain ⟨i, hi, rfl, HLA⟩ := hrel
  by_cases hlt : i < n
  ·
   have HLT := sqM hlt
   have hli : (i : Int) < (n : Int) := by omega
   have hlg : (i : Int) < ((n + p : Nat) : Int) := by omega
   have HW1 := sqM (wr1 (i := i) hlt (by have := HG.out.n200; omega))
   obtain ⟨adg, eg, hxg⟩ := at_boolC (PG.out _ HLA.out.kept) (i := i) (by omega)
   cases eg
   cases hgi : g.getD i false
   ·
    -- it is there
    rw [hgi] at hxg
    have HGI := sqM hgi
    obtain ⟨o, hh1, hole, hoff⟩ := HLA.out.cu.head (outA_get rows ls g i (by rw [HG.out.ln]; exact hlt))
    rw [if_neg (by omega), show (zeros (ls.getD i 0)).length = ls.getD i 0 from List.length_replicate] at hh1 hoff
    obtain ⟨ad, A4, c4, e4, hx4, hl4, hC4⟩ := at_L2 (P0.out _ HLA.out.kept) (i : Int) (by omega) (by omega)
    cases e4
    rw [rdL_nat] at hx4 hl4 hC4
    rw [Int.toNat_natCast] at hx4
    have hrl := HG.out.rowsFit i hlt hgi
    have HOFF := sqM hoff
    have HC4 := sqM (P0.out _ HLA.out.kept)
    have HRL := sqM hrl
    have HRC := sqM hC4
    have HGA := sqM (outA_get rows ls g i (by rw [HG.out.ln]; exact hlt))
    have HSET := sqM (outA_kept rows ls g (i := i) (by rw [HG.out.ln]; exact hlt) hgi)
    clear hoff hole hl4 hC4 hrl hgi hlt hi
    go_wp2_with (fail)
    go_still_tail 8, (by kernel_rfl)
    change wpList _ _ _ _ _ wr.drew
    have HLA2 := sqM HLA.out.drew
    have HRC2 : Aside0 (Kd.C (Kd.int .u8) wr.drew A4 (rows.getD i []).length (rows.getD i [])) := ⟨Kd.C_drew HRC.out⟩
    clear HLA HRC hh1 hx4 hxg
    generalize wr.drew = wd at HLA2 HRC2 ⊢
    go_wp2_with (first | (refine wpList_copy_Cu rfl (.tmp 66) (.tmp 70) rfl (i := i) (off := o) (dc := ls.getD i 0) (r := zeros (ls.getD i 0)) (ys := rows.getD i []) (A := A4) (sc := c4) HLA2.out.cu ?c1 ?c2 ?c3 ?c4 HRC2.out ?c5 w.heap.size w HLA2.out.below (Nat.le_refl _) ?_; (case c1 => rw [HGA.out, if_neg (by omega)]); (case c2 => rw [show (zeros (ls.getD i 0)).length = ls.getD i 0 from List.length_replicate]; exact HOFF.out); (case c3 => rw [show (zeros (ls.getD i 0)).length = ls.getD i 0 from List.length_replicate]; rfl); (case c4 => rfl); (case c5 => rw [show (zeros (ls.getD i 0)).length = ls.getD i 0 from List.length_replicate, HRL.out]; exact Nat.le_refl _); rw [show (zeros (ls.getD i 0)).length = ls.getD i 0 from List.length_replicate]; intro w5 hc5 hb5 hk5; rw [← HRL.out, List.take_length, HSET.out] at hc5; have HL5 := sqM (HLA2.out.copied HGB.out.2 hc5 hb5 hk5); clear hc5 hb5 hk5))
    have HWO : Aside0 (woL g (i + 1) = woL g i) := ⟨by rw [woL_succ, if_neg (by rw [HGI.out]; decide)]⟩
    go_roundw
    case rel => exact ⟨i + 1, HLT.out, by rw [HW1.out], ⟨by rw [HWO.out]; exact HL5.out⟩⟩
    case measure => exact meas HW1.out HLT.out
   ·
    -- it is gone
    rw [hgi] at hxg
    have HGI := sqM hgi
    have HWO : Aside0 (woL g (i + 1) = woL g i ++ [i]) := ⟨by rw [woL_succ, if_pos hgi]⟩
    have HOA : Aside0 (outA rows ls g (i + 1) = outA rows ls g i) := ⟨outA_gone rows ls g hgi⟩
    clear hgi hlt hi
    go_wp2_with (first | (refine q0o (w0 := wr) w3.heap.size rfl (.tmp 59) (.tmp 61) 30 3 .i64 8 rfl Try.underlying30 info3 (by decide) u16 (up (woL g i)) (i : Int) rfl rfl ?a1 (Below.refl _ _) ?a2 ?a3 ?_; (case a1 => rw [q27]; exact HLA.out.wo); (case a2 => exact HLA.out.kept.1); (case a3 => have := q0i g i; have := HLT.out; have := HG.out.n200; rw [q27]; omega); intro v5 w5 hown hb5 hg5 _; have HL5 := sqM (HLA.out.appended HGB.out hown hb5 hg5 HLE.out); clear hown hb5 hg5))
    go_roundw
    case rel => exact ⟨i + 1, HLT.out, by rw [HW1.out], ⟨by rw [HWO.out, HOA.out]; exact HL5.out⟩⟩
    case measure => exact meas HW1.out HLT.out
  ·
   obtain rfl : n = i := by omega
   rw [HOUT.out] at HLA
   obtain ⟨Aw, cw, e16, hlw⟩ := own_slice HLA.out.wo
   subst e16
   have HLW : Aside0 (q ≤ cw) := ⟨by rw [← HQ.out]; exact hlw⟩
   rw [HQ.out] at HLA ⊢
   clear hlw hlt hi
   go_upto_block 2 with (first | (go_at_call 33; (with_reducible refine (parity_matrix.calls 80000 _ _ _ _ F3.out).mono ?_); rintro e w5 ⟨v5, rfl, ho, hb⟩; obtain ⟨Am, cm, rfl, _, _⟩ := Kd.S_reads ho; have HSM := sqM ho; have HB5 := sqM hb; clear ho hb))
   have hkw := HLA.out.kept.below HB5.out
   have PG5 := sqM (Kd.C_kept_step PG.out hkw)
   have P25 := sqM (Kd.C_kept_step P2.out hkw)
   have PW5 := sqM (HLA.out.readsWo HGB.out.2 HB5.out)
   have PM5 : Aside0 (∀ W, Kept w5 W (fun k => k = b) → Kd.C (Kd.slice 5 (Kd.int .u8)) W Am (matL p n).length (matL p n)) := ⟨Kd.C_kept_own (Kd.R_bound (Kd.S_R HSM.out)) (fun k hk e => by have h1 := hk.2.1; have h2 := HLA.out.cu.lt_b; omega)⟩
   have hml : (matL p n).length = p := by unfold matL cau; split <;> simp
   rw [hml] at PM5 ⊢
   have HCO := sqM (HLA.out.cu.below HB5.out)
   have HL0 : Aside0 (LoB w w5 w5 [] [] (.slice none 0 0) none 0 (partL g n 0) (vL g n OUT more 0)) := ⟨⟨q04 HLA.out.below HB5.out, Kept.refl _ _, ⟨rfl, .inl ⟨rfl, rfl⟩⟩, ⟨rfl, .inl ⟨rfl, rfl⟩⟩, (fun k hk => by simp [Value.ownBlock] at hk), RdH.nil _ _, RdH.nil _ _⟩⟩
   have HLE5 : Aside0 (w.heap.size ≤ w5.heap.size) := ⟨q01 HL0.out.below⟩
   have HMK := sqM (fun W => make_cap q (by rw [← HQ.out]; have := q0i g n; have := HG.out.n200; omega) W)
   clear hml hkw PG P2 P0 HLA HB5 HSM F3 F4 HR0 HC0
   go_cut [19, 20, 21, 22, 23, 24] from 76 to 142 (fun v19 v20 v21 v22 v23 v24 wx => ∃ (i : Nat) (hsP hsV : List Hdr) (Av : Option Addr) (cv : Nat), i ≤ p ∧ v20 = .slice Av hsV.length cv ∧ hsV.length = q ∧ Aside0 (LoB w w5 wx hsP hsV v19 Av cv (partL g n i) (vL g n OUT more i)))
   case first =>
    go_wp2_with (fail)
    go_loopw [19, 20, 21] (fun v19 v20 v21 wr => ∃ (i : Nat) (hsP hsV : List Hdr) (Av : Option Addr) (cv : Nat), i ≤ p ∧ v21 = .int .i64 (i : Int) ∧ v20 = .slice Av hsV.length cv ∧ hsV.length ≤ q ∧ Aside0 (LoB w w5 wr hsP hsV v19 Av cv (partL g n i) (vL g n OUT more i))) (fun _ _ v21 _ => p - (intOf v21).toNat)
    case atStart => exact ⟨0, [], [], none, 0, Nat.zero_le _, rfl, rfl, Nat.zero_le _, HL0⟩
    case round =>
     clear HL0
     obtain ⟨i, hsP, hsV, Av, cv, hi, rfl, rfl, hq, HLB⟩ := hrel
     by_cases hip : i < p
     ·
      have hd1 : decide ((i : Int) < (p : Int)) = true := decide_eq_true (by omega)
      have hd1' : decide (i < p) = true := decide_eq_true hip
      by_cases hvq : hsV.length < q
      ·
       have hd2 : decide ((hsV.length : Int) < (q : Int)) = true := decide_eq_true (by omega)
       have hd2' : decide (hsV.length < q) = true := decide_eq_true hvq
       have HIP := sqM hip
       have HVQ := sqM hvq
       have HW1 := sqM (wr1 (i := i) hip (by have := HG.out.p16; omega))
       have hw2 : wrap64 ((n : Int) + (i : Int)) = ((n + i : Nat) : Int) := wrs (by have := HG.out.p16; have := HG.out.n200; omega)
       obtain ⟨adg, eg, hxg⟩ := at_boolC (PG5.out _ (HLB.out.kept.mono (fun k hk => hk.elim))) (i := n + i) (by omega)
       cases eg
       have hlg : ((n + i : Nat) : Int) < ((n + p : Nat) : Int) := by omega
       cases hgi : g.getD (n + i) false
       ·
        -- it is there
        rw [hgi] at hxg
        have HGI := sqM hgi
        have hmk := HMK.out
        obtain ⟨ad4, A4, c4, e4, hx4, hl4, hC4⟩ := at_L2 (P25.out _ (HLB.out.kept.mono (fun k hk => hk.elim))) (i : Int) (by omega) (by omega)
        cases e4
        rw [rdL_nat] at hx4 hl4 hC4
        rw [Int.toNat_natCast] at hx4
        have hzl := HG.out.moreFit i hip hgi
        have hzi : ∀ y ∈ more.getD i [], In8 y := HG.out.min _ (getD_mem (by rw [HG.out.pn]; exact hip))
        have HU1 : Aside0 (partL g n (i + 1) = partL g n i ++ [lineP g i n] ∧ vL g n OUT more (i + 1) = vL g n OUT more i ++ [leftP g OUT i (more.getD i []) n]) := ⟨by unfold partL vL; rw [usedL_succ, if_neg (by rw [hgi]; decide)]; rw [List.map_append, List.map_append]; exact ⟨rfl, rfl⟩⟩
        generalize more.getD i [] = z at hx4 hl4 hC4 hzl hzi HU1
        have HZL := sqM hzl
        have HZI := sqM hzi
        have HC4 := sqM hC4
        have HZZ : Aside0 (z.length ≤ 16777216) := ⟨by rw [hzl, HG.out.wid]; exact wideN_le (fun x hx => by obtain ⟨t, ht, rfl⟩ := List.getElem_of_mem hx; have := HG.out.small t (by rw [← HG.out.ln]; exact ht); rw [List.getD_eq_getElem?_getD, List.getElem?_eq_getElem ht] at this; exact this)⟩
        have hx5 : (wr.alloc (Obj.cells (madeCells #[Value.int IntKind.u8 0] q) 5)).cell? (ad4.add i) = some (.slice A4 z.length c4) := ((q02 (Below.refl wr.heap.size wr) _).cell (World.block_lt_of_cell? wr _ hx4)).trans hx4
        clear hgi hip hvq hi hq hl4 hC4 hzl hzi hx4
        go_wp2_with (first | (refine print_append_row (w0 := (wr.alloc (Obj.cells (madeCells #[Value.int IntKind.u8 0] q) 5))) (wr.heap.size + 1) rfl (.const (.slice none 0 0)) (.tmp 100) 41 5 .u8 1 rfl Try.underlying41 info5' (by decide) (.slice none 0 0) [] z A4 z.length c4 rfl rfl ?a1 ?a2 (Below.refl _ _) ?a3 ?a4 ?_; (case a1 => exact ⟨rfl, .inl ⟨rfl, rfl⟩⟩); (case a2 => exact readsInt_of.2 (Kd.reads_of_C (Kd.C_alloc HC4.out _))); (case a3 => rw [size_alloc']; exact Nat.le_refl _); (case a4 => have := HZZ.out; rw [List.length_nil]; omega); rw [List.nil_append]; intro v6 w6 hown hb6 _ _; obtain ⟨Al, cl, kl, rfl, hcl, hlc⟩ := LoC.start HLB.out.below (by rw [← HQ.out]; have := q0i g n; have := HG.out.n200; omega) hown hb6; have HLC := sqM hlc; have HCL := sqM hcl; clear hown hb6 hlc hcl))
        have HLE6 : Aside0 (w5.heap.size ≤ wr.heap.size) := ⟨HLB.out.kept.1⟩
        clear hx5 hmk hxg hlg hw2 hd1 hd1' hd2 hd2'
        go_loopw [22, 104] (fun v22 v104 w' => ∃ j : Nat, j ≤ n ∧ v104 = .int .i64 (j : Int) ∧ Aside0 (LoC w wr w' v22 (lineP g i j) kl Al (leftP g OUT i z j))) (fun _ v104 _ => n - (intOf v104).toNat)
        case atStart => exact ⟨0, Nat.zero_le _, rfl, ⟨by exact HLC.out⟩⟩
        case round =>
         clear HLC
         obtain ⟨j, hj, rfl, HLC⟩ := hrel
         by_cases hjn : j < n
         ·
          have HJN := sqM hjn
          have hlj : (j : Int) < (n : Int) := by omega
          have hli : (i : Int) < (p : Int) := by have := HIP.out; omega
          have hljg : (j : Int) < ((n + p : Nat) : Int) := by omega
          have HW2 := sqM (wr1 (i := j) hjn (by have := HG.out.n200; omega))
          rename World => w7
          have hk7 := HLB.out.kept.then_ HLC.out.kept (fun k hk => .inl hk)
          have hk7b := hk7.mono (S' := fun k => k = b) (fun k hk => hk.elim)
          obtain ⟨adh, eh, hxj⟩ := at_boolC (PG5.out _ hk7b) (i := j) (by omega)
          cases eh
          have hmat : matL p n = cau p n := by unfold matL; rw [if_neg (by have := HIP.out; omega)]
          have hCm := PM5.out _ hk7b
          rw [hmat] at hCm
          obtain ⟨am, A9, c9, e9, hx9, hl9, hC9⟩ := at_L2 hCm (i : Int) (by omega) (by have := HIP.out; omega)
          cases e9
          rw [rowZ (cau_row HIP.out), Int.toNat_natCast] at hx9
          rw [rowZ (cau_row HIP.out)] at hC9
          rw [List.length_map, List.length_range] at hx9 hC9
          obtain ⟨ae, e10, hx10⟩ := Kd.at_int hC9 (j : Int) (by omega) (by omega)
          cases e10
          rw [elZ (y := cE i j) (by rw [List.getElem?_map, List.getElem?_range hjn]; rfl), Int.toNat_natCast] at hx10
          cases hgj : g.getD j false
          ·
           rw [hgj] at hxj
           have HLN : Aside0 (lineP g i (j + 1) = lineP g i j ∧ leftP g OUT i z (j + 1) = addAt (cE i j) (OUT.getD j []) 0 (leftP g OUT i z j)) := ⟨by rw [lineP_succ, if_neg (by rw [hgj]; decide), leftP, if_neg (by rw [hgj]; decide)]; exact ⟨rfl, rfl⟩⟩
           have hcu7 := HCO.out.kept hk7 (fun h => h) (fun h => h)
           obtain ⟨hol1, hol2, hol3⟩ := out_len HG.out (j := j) hjn
           rw [HOUT.out] at hol1 hol3
           have hoj : OUT[j]? = some (OUT.getD j []) := getD_get (by rw [← HOUT.out, q1o, HG.out.ln]; exact hjn)
           obtain ⟨oo, hho, _, hoo⟩ := hcu7.head hoj
           have hgb5 : gh < w5.heap.size ∧ b < w5.heap.size := ⟨HCO.out.lt_g, HCO.out.lt_b⟩
           have HROW : Aside0 (∀ W', Kept w7 W' (fun k => k = kl) → Kd.C (Kd.int .u8) W' (some ⟨b, oo, none⟩) (OUT.getD j []).length (OUT.getD j [])) := ⟨fun W' hW' => (hcu7.kept hW' (by have := HLC.out.klo; have := HLE6.out; omega) (by have := HLC.out.klo; have := HLE6.out; omega)).rowC hoj hoo⟩
           generalize OUT.getD j [] = l at hol1 hol3 hho HROW HLN
           have HL1 := sqM hol1
           have HL2 := sqM hol2
           have HL3 := sqM hol3
           have hll : (leftP g OUT i z j).length = z.length := q1m _ _ _ _ _
           have HLL := sqM hll
           have HLI : Aside0 (∀ y ∈ leftP g OUT i z j, In8 y) := ⟨leftP_in _ _ _ _ HZI.out _ (by have := HG.out.n200; omega)⟩
           clear hgj hjn hj hk7 hk7b hmat hCm hl9 hC9 hcu7 hol1 hol2 hol3 hoj hoo hgb5 hll
           go_wp2_with (fail)
           go_still_tail 12, (by kernel_rfl)
           change wpList _ _ _ _ _ w7.drew
           have HLC2 := sqM HLC.out.drew
           have HROW2 : Aside0 (∀ W', Kept w7.drew W' (fun k => k = kl) → Kd.C (Kd.int .u8) W' (some ⟨b, oo, none⟩) l.length l) := ⟨fun W' hW' => HROW.out W' hW'⟩
           clear HLC HROW hho hx9 hx10 hxj
           generalize w7.drew = w8 at HLC2 HROW2 ⊢
           rw [← HLL.out]
           go_wp2_with (first | (go_at_call 34; (with_reducible refine (HLC2.out.addCall (cl := cl) ?s1 ?s2 HLI.out ?s3 HROW2.out HL3.out ?s4).mono ?_); (case s1 => exact Nat.le_trans HLE5.out HLE6.out); (case s2 => rw [HL1.out, HLL.out, HZL.out]; exact HL2.out); (case s3 => rw [HLL.out]; have := HZZ.out; omega); (case s4 => exact cE_in (by have := HJN.out; have := HG.out.n200; omega)); rintro e w9 ⟨rfl, hlc⟩; rw [← HLN.out.2] at hlc; have HLC9 := sqM hlc; clear hlc))
           rw [HLL.out]
           go_roundw
           case rel => exact ⟨j + 1, HJN.out, by rw [HW2.out], ⟨by rw [HLN.out.1]; exact HLC9.out⟩⟩
           case measure => exact meas HW2.out HJN.out
          · rw [hgj] at hxj
            have HLN : Aside0 (lineP g i (j + 1) = lineP g i j ++ [cE i j] ∧ leftP g OUT i z (j + 1) = leftP g OUT i z j) := ⟨by rw [lineP_succ, if_pos hgj, leftP, if_pos hgj]; exact ⟨rfl, rfl⟩⟩
            have HCW : Aside0 ((lineP g i j).length ≤ 200) := ⟨by unfold lineP; rw [List.length_map]; have := q0i g j; have := HG.out.n200; omega⟩
            clear hgj hjn hj hk7 hk7b hmat hCm hl9 hC9
            go_wp2_with (first | (refine q0o (w0 := w7) wr.heap.size rfl (.tmp 111) (.tmp 119) 41 5 .u8 1 rfl Try.underlying41 info5' (by decide) u22 (lineP g i j) (cE i j) rfl rfl HLC.out.line (Below.refl _ _) HLC.out.kept.1 (by have := HCW.out; omega) ?_; intro v9 w9 hown hb9 hg9 hat9; have HLC9 := sqM (HLC.out.appended (Nat.le_trans HLE5.out HLE6.out) hown hb9 hg9 hat9); clear hown hb9 hg9 hat9))
            go_roundw
            case rel => exact ⟨j + 1, HJN.out, by rw [HW2.out], ⟨by rw [HLN.out.1, HLN.out.2]; exact HLC9.out⟩⟩
            case measure => exact meas HW2.out HJN.out
         ·
          obtain rfl : n = j := by omega
          rename World => w7
          have HLB7 := sqM (HLB.out.move HLC.out.below HLC.out.kept)
          obtain ⟨Aln, cln, e22, hcln⟩ := own_slice HLC.out.line
          subst e22
          have HLL : Aside0 ((leftP g OUT i z n).length = z.length) := ⟨q1m _ _ _ _ _⟩
          have HCW : Aside0 ((lineP g i n).length ≤ 200) := ⟨by unfold lineP; rw [List.length_map]; have := q0i g n; have := HG.out.n200; omega⟩
          have hf1 := HLC.out.lineFact HLE6.out hcln (by have := HCW.out; omega)
          have hf2 := HLC.out.leftFact (cl := cl) HLE6.out HLL.out HCL.out (by have := HZZ.out; omega)
          have HF1 := sqM hf1
          have HF2 := sqM hf2
          have HPL : Aside0 (hsP.length ≤ 200) := ⟨by have := HLB.out.rp.len; rw [this]; unfold partL; rw [List.length_map]; have := usedL_length_le g n i; have := HIP.out; have := HG.out.p16; omega⟩
          have HVL : Aside0 (hsV.length ≤ 200) := ⟨by have := HLB.out.rv.len; rw [this]; unfold vL; rw [List.length_map]; have := usedL_length_le g n i; have := HIP.out; have := HG.out.p16; omega⟩
          clear hf1 hf2 hjn hj hcln
          go_wp2_with (first
           | (refine q12 (w0 := w7) hdV w5.heap.size rfl (.tmp 135) (.tmp 137) 35 41 (.slice none 0 0) 24 rfl Try.underlying35 info41' rfl (by decide) u19 hsP (Aln, (lineP g i n).length, cln) rfl rfl rfl HLB7.out.p (Below.refl _ _) HLB7.out.kept.1 (by have := HPL.out; omega) ?_; intro v10 w10 hown hb10 hg10 hat10; have HF3 := sqM (HF2.out.grown hg10 (fun k cells hc => LoB.ne_of HLB7.out.p hc)); have HLB10 := sqM (HLB7.out.appP HLE5.out hown hb10 hg10 hat10 HF1.out); clear hown hb10 hg10 hat10)
           | (refine q12 (w0 := w10) hdV w5.heap.size rfl (.tmp 139) (.tmp 141) 35 41 (.slice none 0 0) 24 rfl Try.underlying35 info41' rfl (by decide) (.slice Av hsV.length cv) hsV (Al, z.length, cl) rfl rfl rfl HLB10.out.v (Below.refl _ _) HLB10.out.kept.1 (by have := HVL.out; omega) ?_; intro v11 w11 hown hb11 hg11 hat11; obtain ⟨Av', cv', rfl, hlb11⟩ := HLB10.out.appV HLE5.out hown hb11 hg11 hat11 HF3.out; have HLB11 := sqM hlb11; clear hown hb11 hg11 hat11 hlb11))
          have HUU := sqM HU1.out
          go_roundw
          case rel => exact ⟨i + 1, hsP ++ [(Aln, (lineP g i n).length, cln)], hsV ++ [(Al, z.length, cl)], Av', cv', HIP.out, by rw [HW1.out], by rw [List.length_append]; rfl, by rw [List.length_append]; have := HVQ.out; simp; omega, ⟨by rw [HU1.out.1, HU1.out.2]; exact HLB11.out⟩⟩
          case measure => exact meas HW1.out HIP.out
       · rw [hgi] at hxg
         have HU1 : Aside0 (partL g n (i + 1) = partL g n i ∧ vL g n OUT more (i + 1) = vL g n OUT more i) := ⟨by unfold partL vL; rw [usedL_succ, if_pos hgi]; exact ⟨rfl, rfl⟩⟩
         have HQ2 := sqM hq
         clear hgi hip hvq hi hq
         go_wp2
         go_roundw
         case rel => exact ⟨i + 1, hsP, hsV, Av, cv, HIP.out, by rw [HW1.out], rfl, HQ2.out, ⟨by rw [HU1.out.1, HU1.out.2]; exact HLB.out⟩⟩
         case measure => exact meas HW1.out HIP.out
      · obtain hvq2 : hsV.length = q := by omega
        have hd2 : decide ((hsV.length : Int) < (q : Int)) = false := decide_eq_false (by omega)
        have hd2' : decide (hsV.length < q) = false := decide_eq_false hvq
        have HE := sqM hvq2
        have HI := sqM hi
        clear hvq hvq2 hq hip hi
        go_wp2
        go_meet
        exact ⟨i, hsP, hsV, Av, cv, HI.out, rfl, HE.out, HLB⟩
     ·
      obtain rfl : i = p := by omega
      have hd1 : decide ((i : Int) < (i : Int)) = false := decide_eq_false (by omega)
      have hd1' : decide (i < i) = false := decide_eq_false (by omega)
      have HE : Aside0 (hsV.length = q) := ⟨by
       have h1 := HLB.out.rv.len
       unfold vL at h1
       rw [List.length_map] at h1
       have h2 := HCNT.out
       omega⟩
      clear hq hip hi
      go_wp2
      go_meet
      exact ⟨i, hsP, hsV, Av, cv, Nat.le_refl _, rfl, HE.out, HLB⟩
   case rest =>
    obtain ⟨i, hsP, hsV, Av, cv, hi, rfl, hq, HLB⟩ := hcut
    have HI := sqM hi
    have HVQ := sqM hq
    have HUL : Aside0 ((usedL g n i).length = q) := ⟨by have h1 := HLB.out.rv.len; unfold vL at h1; rw [List.length_map] at h1; omega⟩
    have HPL : Aside0 (hsP.length = q) := ⟨by have h1 := HLB.out.rp.len; unfold partL at h1; rw [List.length_map] at h1; rw [h1]; exact HUL.out⟩
    have HLD : Aside0 (LoD w w5 wc gh b (outB (woL g n) X ls OUT 0)) := ⟨⟨HLB.out.below, HLB.out.kept.mono (fun k hk => hk.elim), HCO.out.kept HLB.out.kept (fun h => h) (fun h => h)⟩⟩
    clear hi hq
    go_upto_if 145 with (fail)
    go_cut [19, 20, 25, 26, 27, 28] from 143 to 168 (fun v19 v20 v25 v26 v27 v28 wx => Aside0 (LoD w w5 wx gh b (outB (woL g n) X ls OUT q)))
    case first =>
     by_cases hq0 : q = 0
     · have hd : decide (0 < (q : Int)) = false := decide_eq_false (by omega)
       have hd' : decide (0 < q) = false := decide_eq_false (by omega)
       have HQ0 := sqM hq0
       clear hq0
       rw [hd']
       go_wp2
       go_meet
       exact ⟨by rw [HQ0.out]; exact HLD.out⟩
     ·
      have hd : decide (0 < (q : Int)) = true := decide_eq_true (by omega)
      have hd' : decide (0 < q) = true := decide_eq_true (by omega)
      obtain ⟨hshX, hsol⟩ := HX.out (by omega)
      obtain ⟨hcols, hsP, hsV⟩ := hsol i HI.out HUL.out
      obtain ⟨Ap, cp, e1, hcp, hCp⟩ := HLB.out.rp.toC HLB.out.p
      obtain ⟨Av', cv', e2, hcv, hCv⟩ := HLB.out.rv.toC HLB.out.v
      rw [hsP.len] at e1 hcp hCp
      rw [hsV.len] at e2 hcv hCv
      have hS := solve_pos q W (partL g n i) (vL g n OUT more i) Ap Av' cp cv' wc (by rw [hsP.len]; exact hCp) (by rw [hsP.len]; exact hcp) (by rw [hsV.len]; exact hCv) (by rw [hsV.len]; exact hcv) (by omega) (by have h1 := q0i g n; have h2 := HG.out.n200; have h3 := HQ.out; omega) (by rw [HG.out.wid]; exact Nat.le_trans (wideN_le (B := 16777216) (fun x hx => by obtain ⟨t, ht, rfl⟩ := List.getElem_of_mem hx; have := HG.out.small t (by rw [← HG.out.ln]; exact ht); rw [List.getD_eq_getElem?_getD, List.getElem?_eq_getElem ht] at this; exact this)) (by decide)) hsP hsV (some X) hcols
      rw [hsP.len, hsV.len] at hS
      rw [e1, e2]
      have HS := sqM hS
      have HSX := sqM hshX
      have HQ0 := sqM hq0
      rw [hd']
      clear e1 hcp hCp e2 hcv hCv hS hcols hsP hsV hsol hshX hq0
      go_wp2_with (first | (go_at_call 35; (with_reducible refine (HS.out).mono ?_); rintro e w6 ⟨⟨v6, rfl, hs6⟩, hb6⟩; obtain ⟨Ax, cx, rfl, _, _⟩ := Kd.S_reads hs6; have HS6 := sqM hs6; have HB6 := sqM hb6; clear hs6 hb6))
      have HLD6 : Aside0 (LoD w w6 w6 gh b (outB (woL g n) X ls OUT 0)) := ⟨⟨q04 HLD.out.below HB6.out, Kept.refl _ _, HLD.out.cu.below HB6.out⟩⟩
      have HK6 : Aside0 (Kept w5 w6 (fun k => k = b)) := ⟨HLD.out.kept.below HB6.out⟩
      have PX : Aside0 (∀ W', Kept w6 W' (fun k => k = b) → Kd.C (Kd.slice 5 (Kd.int .u8)) W' Ax X.length X) := ⟨Kd.C_kept_own (Kd.R_bound (Kd.S_R HS6.out)) (fun k hk e => by have h1 := hk.2.1; have h2 := HLD.out.cu.lt_b; omega)⟩
      have hXl := HSX.out.len
      rw [hXl] at PX ⊢
      clear hXl hd hd' HS HLD HS6 HB6
      go_loopw [154] (fun v154 w' => ∃ k : Nat, k ≤ q ∧ v154 = .int .i64 (k : Int) ∧ Aside0 (LoD w w6 w' gh b (outB (woL g n) X ls OUT k))) (fun v154 _ => q - (intOf v154).toNat)
      case atStart => exact ⟨0, Nat.zero_le _, rfl, ⟨by exact HLD6.out⟩⟩
      case round =>
       clear HLD6
       rename World => w7
       obtain ⟨k, hk, rfl, HLD⟩ := hrel
       by_cases hkq : k < q
       ·
        have HKQ := sqM hkq
        have hlk : (k : Int) < (q : Int) := by omega
        have HW3 := sqM (wr1 (i := k) hkq (by have h1 := q0i g n; have h2 := HG.out.n200; have h3 := HQ.out; omega))
        have hk57 := HK6.out.then_ HLD.out.kept (fun k hk => .inl hk)
        obtain ⟨aw, ew, hxw⟩ := Kd.at_int (PW5.out _ hk57) (k : Int) (by omega) (by omega)
        cases ew
        rw [up_rd (woL g n) (i := k) (by rw [HQ.out]; exact hkq), Int.toNat_natCast] at hxw
        have hwm : (woL g n)[k]'(by rw [HQ.out]; exact hkq) ∈ woL g n := List.getElem_mem _
        have hwe : (woL g n)[k]'(by rw [HQ.out]; exact hkq) = (woL g n).getD k 0 := by rw [List.getD_eq_getElem?_getD, List.getElem?_eq_getElem (by rw [HQ.out]; exact hkq)]; rfl
        rw [hwe] at hxw hwm
        have hwn := (mem_woL.1 hwm).1
        obtain ⟨_, hrow⟩ := outB_row HG.out HQ.out HSX.out k (by omega)
        rw [HOUT.out] at hrow
        obtain ⟨r, hr1, hr2, hr3⟩ := hrow _ hwn
        have hst : outB (woL g n) X ls OUT (k + 1) = (outB (woL g n) X ls OUT k).set ((woL g n).getD k 0) ((X.getD k []).take r.length) := by rw [outB, hr2]
        obtain ⟨oo, hho, _, hoo⟩ := HLD.out.cu.head hr1
        obtain ⟨ax, A8, c8, e8, hx8, hl8, hC8⟩ := at_L2 (PX.out _ HLD.out.kept) (k : Int) (by omega) (by omega)
        cases e8
        rw [rdL_nat] at hx8 hl8 hC8
        rw [Int.toNat_natCast] at hx8
        have hxk : (X.getD k []).length = W := HSX.out.row _ (getD_mem (by rw [HSX.out.len]; exact hkq))
        have hrW : r.length ≤ (X.getD k []).length := by rw [hxk, hr2]; exact (out_len HG.out hwn).2.1
        have hti : (((woL g n).getD k 0 : Nat) : Int) < (n : Int) := by omega
        generalize (woL g n).getD k 0 = t at hxw hr1 hst hho hoo hti
        generalize X.getD k [] = xk at hst hx8 hC8 hrW
        have HST := sqM hst
        have HR1 := sqM hr1
        have HOO := sqM hoo
        have HRW := sqM hrW
        have HLD2 := sqM HLD.out.drew
        have HC8 : Aside0 (Kd.C (Kd.int .u8) w7.drew A8 xk.length xk) := ⟨Kd.C_drew hC8⟩
        clear hst hr1 hoo hrW hkq hk hk57 hwm hwe hwn hrow hr2 hr3 hl8 hC8 hxk HLD
        go_wp2_with (fail)
        go_still_tail 8, (by kernel_rfl)
        change wpList _ _ _ _ _ w7.drew
        clear hxw hho hx8
        generalize w7.drew = w8 at HLD2 HC8 ⊢
        go_wp2_with (first | (refine wpList_copy_Cu rfl (.tmp 162) (.tmp 166) rfl (i := t) (off := oo) (dc := r.length) (r := r) (ys := xk) (A := A8) (sc := c8) HLD2.out.cu HR1.out HOO.out rfl rfl HC8.out HRW.out w.heap.size w HLD2.out.below (Nat.le_refl _) ?_; intro w9 hc9 hb9 hk9; rw [← HST.out] at hc9; have HLD9 : Aside0 (LoD w w6 w9 gh b (outB (woL g n) X ls OUT (k + 1))) := ⟨⟨hb9, HLD2.out.kept.then_ hk9 (fun k hk => .inl hk), hc9⟩⟩; clear hc9 hb9 hk9))
        go_roundw
        case rel => exact ⟨k + 1, HKQ.out, by rw [HW3.out], ⟨by exact HLD9.out⟩⟩
        case measure => exact meas HW3.out HKQ.out
       · have hkq2 : k = q := by omega
         have HF : Aside0 (LoD w w5 w7 gh b (outB (woL g n) X ls OUT q)) := ⟨⟨HLD.out.below, HK6.out.then_ HLD.out.kept (fun k hk => .inl hk), by rw [← hkq2]; exact HLD.out.cu⟩⟩
         have hlk : decide ((k : Int) < (q : Int)) = false := decide_eq_false (by omega)
         have hlk' : decide (k < q) = false := decide_eq_false (by omega)
         clear hkq hkq2 hk
         go_wp2
         go_meet
         exact HF
    case rest =>
     have HLDF := sqM hcut.out
     clear hcut HLD
     have HFR : Aside0 ((outB (woL g n) X ls OUT q).length = n ∧ ∀ t, t < n → ∃ r, (outB (woL g n) X ls OUT q)[t]? = some r ∧ r.length = ls.getD t 0 ∧ ∀ y ∈ r, In8 y) := ⟨by
      by_cases hq0 : 0 < q
      · have := outB_row HG.out HQ.out (HX.out hq0).1 q (Nat.le_refl _)
        rw [HOUT.out] at this; exact this
      · have e : q = 0 := by omega
        have := outB_row (q := 0) HG.out (by rw [HQ.out, e]) (X := []) ⟨rfl, (fun _ h => nomatch h), (fun _ h => nomatch h)⟩ 0 (Nat.le_refl _)
        rw [HOUT.out] at this
        rw [e]; exact this⟩
     obtain ⟨OF, hOF⟩ : ∃ OF, OF = outB (woL g n) X ls OUT q := ⟨_, rfl⟩
     rw [← hOF] at HLDF HFR
     have HOF := sqM hOF
     clear hOF
     have hmem : ∀ r ∈ OF, (∀ y ∈ r, In8 y) ∧ r.length ≤ 16777216 := fun r hr => by
      obtain ⟨t, ht, rfl⟩ := List.getElem_of_mem hr
      obtain ⟨r, e1, e2, e3⟩ := HFR.out.2 t (by rw [← HFR.out.1]; exact ht)
      rw [List.getElem?_eq_getElem ht] at e1
      obtain rfl := Option.some.inj e1
      exact ⟨e3, by rw [e2]; exact HG.out.small t (by rw [← HFR.out.1]; exact ht)⟩
     have HWF : Aside0 (q0f OF = W) := ⟨by
      unfold q0f
      rw [HG.out.wid]
      congr 1
      apply List.ext_getElem?
      intro t
      by_cases ht : t < n
      · obtain ⟨r, e1, e2, _⟩ := HFR.out.2 t ht
        rw [List.getElem?_map, e1, getD_get (d := 0) (by rw [HG.out.ln]; exact ht), ← e2]; rfl
      · rw [List.getElem?_eq_none (by rw [List.length_map, HFR.out.1]; omega), List.getElem?_eq_none (by rw [HG.out.ln]; omega)]⟩
     have hM := made_calls (some ⟨gh, 0, none⟩) n OF p wc HLDF.out.cu.reads (by rw [HFR.out.1]; exact Nat.le_refl _) (by rw [HFR.out.1]; exact HG.out.n200) HG.out.p16 (fun r hr => (hmem r hr).1) (fun r hr => (hmem r hr).2)
     rw [HFR.out.1] at hM
     have HM := sqM hM
     clear hM hmem
     go_wp2_with (first | (go_at_call 29; (with_reducible refine (HM.out).mono ?_); rintro e w8 ⟨g2, b2, rfl, hcu, hb⟩; have HCU2 := sqM hcu; have HB8 := sqM hb; clear hcu hb))
     have hbb2 : b < b2 ∧ gh < b2 ∧ b < g2 ∧ gh < g2 := by have h1 := HLDF.out.cu.lt_b; have h2 := HLDF.out.cu.lt_g; have h3 := HCU2.out.hb; have h4 := HCU2.out.hg; omega
     have HBB := sqM hbb2
     have HK58 : Aside0 (Kept w5 w8 (fun k => k = b)) := ⟨HLDF.out.kept.below HB8.out⟩
     have HML : Aside0 ((madeL OF p).length = p) := ⟨by simp [madeL]⟩
     have HL8 : Aside0 (LoD w w8 w8 g2 b2 (restB g n more (madeL OF p) 0)) := ⟨⟨q04 HLDF.out.below HB8.out, Kept.refl _ _, by rw [restB_zero]; exact HCU2.out.base_down (q01 HLDF.out.below)⟩⟩
     have HCB : Aside0 (w5.heap.size ≤ b2) := ⟨by have h1 := HLDF.out.kept.1; have h2 := HCU2.out.hb; omega⟩
     have HCF := sqM (HLDF.out.cu.below HB8.out)
     have HROW : Aside0 (∀ t, t < p → ∃ r, (madeL OF p)[t]? = some r ∧ r.length = W) := ⟨fun t ht => ⟨_, by unfold madeL; rw [List.getElem?_map, List.getElem?_range ht]; rfl, by unfold q1s; rw [q0s, HWF.out]; exact List.length_replicate⟩⟩
     clear hbb2 HLDF HM HB8 HCU2 HL0 HLB PM5 PW5 HMK HCO
     go_loopw [174] (fun v174 w' => ∃ i : Nat, i ≤ p ∧ v174 = .int .i64 (i : Int) ∧ Aside0 (LoD w w8 w' g2 b2 (restB g n more (madeL OF p) i))) (fun v174 _ => p - (intOf v174).toNat)
     case atStart => exact ⟨0, Nat.zero_le _, rfl, HL8⟩
     case round =>
      clear HL8
      rename World => w9
      obtain ⟨j, hj, rfl, HLE9⟩ := hrel
      by_cases hjp : j < p
      ·
       have HJP := sqM hjp
       have hlj : (j : Int) < (p : Int) := by omega
       have hljg : ((n + j : Nat) : Int) < ((n + p : Nat) : Int) := by omega
       have hw2 : wrap64 ((n : Int) + (j : Int)) = ((n + j : Nat) : Int) := wrs (by have := HG.out.p16; have := HG.out.n200; omega)
       have HW4 := sqM (wr1 (i := j) hjp (by have := HG.out.p16; omega))
       have hk59 : Kept w5 w9 (fun k => k = b) := HK58.out.then_ HLE9.out.kept (fun k hk => .inr (by rw [hk]; exact HCB.out))
       obtain ⟨adg, eg, hxg⟩ := at_boolC (PG5.out _ hk59) (i := n + j) (by omega)
       cases eg
       cases hgj : g.getD (n + j) false
       ·
        rw [hgj] at hxg
        obtain ⟨am, A8, c8, e8, hx8, hl8, hC8⟩ := at_L2 (P25.out _ hk59) (j : Int) (by omega) (by omega)
        cases e8
        rw [rdL_nat] at hx8 hl8 hC8
        rw [Int.toNat_natCast] at hx8
        obtain ⟨r, hr1, hr2⟩ := HROW.out j hjp
        have hzl := HG.out.moreFit j hjp hgj
        have hget : (restB g n more (madeL OF p) j)[j]? = some r := by
         rw [restB_get _ _ _ _ _ (by rw [HML.out]; exact hjp), if_neg (by omega), List.getD_eq_getElem?_getD, hr1]; rfl
        obtain ⟨oo, hho, _, hoo⟩ := HLE9.out.cu.head hget
        have hset := restB_kept g n more (madeL OF p) (i := j) (by rw [HML.out]; exact hjp) hgj
        have hch := cut_h (some ⟨b2, oo, none⟩) W r.length r.length (by omega)
        rw [hr2] at hch hho
        generalize more.getD j [] = z at hx8 hl8 hC8 hzl hset
        have HGET := sqM hget
        have HSET := sqM hset
        have HOO := sqM hoo
        have HR2 := sqM hr2
        have HZL := sqM hzl
        have HC8 : Aside0 (Kd.C (Kd.int .u8) w9.drew A8 z.length z) := ⟨Kd.C_drew hC8⟩
        have HLE10 := sqM HLE9.out.drew
        clear hgj hjp hj hget hset hoo hr1 hr2 hzl hl8 hC8 hk59 HLE9
        go_wp2_with (fail)
        go_still_tail 10, (by kernel_rfl)
        change wpList _ _ _ _ _ w9.drew
        clear hxg hx8 hho
        generalize w9.drew = w10 at HLE10 HC8 ⊢
        go_wp2_with (first | (refine wpList_copy_Cu rfl (.tmp 189) (.tmp 193) rfl (i := j) (off := oo) (dc := W) (r := r) (ys := z) (A := A8) (sc := c8) HLE10.out.cu HGET.out HOO.out (by rw [HR2.out]; rfl) rfl HC8.out (by rw [HR2.out, HZL.out]; exact Nat.le_refl _) w.heap.size w HLE10.out.below (Nat.le_refl _) ?_; intro w11 hc11 hb11 hk11; rw [HR2.out, ← HZL.out, List.take_length, HSET.out] at hc11; have HL11 : Aside0 (LoD w w8 w11 g2 b2 (restB g n more (madeL OF p) (j + 1))) := ⟨⟨hb11, HLE10.out.kept.then_ hk11 (fun k hk => .inl hk), hc11⟩⟩; clear hc11 hb11 hk11))
        go_roundw
        case rel => exact ⟨j + 1, HJP.out, by rw [HW4.out], ⟨by exact HL11.out⟩⟩
        case measure => exact meas HW4.out HJP.out
       · rw [hgj] at hxg
         have HGO := sqM (restB_gone g n more (madeL OF p) (i := j) hgj)
         clear hgj hjp hj hk59
         go_wp2
         go_roundw
         case rel => exact ⟨j + 1, HJP.out, by rw [HW4.out], ⟨by rw [HGO.out]; exact HLE9.out⟩⟩
         case measure => exact meas HW4.out HJP.out
      ·
       obtain rfl : p = j := by omega
       clear hjp hj
       obtain ⟨hs1, hh1, hd1⟩ := HCF.out.toDt
       obtain ⟨hs2, hh2, hd2⟩ := HLE9.out.cu.toDt
       have hl1 : hs1.length = n := by rw [hd1.len]; exact HFR.out.1
       have hl2 : hs2.length = p := by rw [hd2.len, q1n]; exact HML.out
       have hn2 := HG.out.n200
       have hp2 := HG.out.p16
       have hbb := HBB.out
       have hh1' := blk_kept hh1 HLE9.out.kept (by intro e; have e2 : gh = b2 := e; omega)
       have hd1' := hd1.move (HLE9.out.kept.2 b (q0l hd1.data) (by intro e; have e2 : b = b2 := e; omega))
       have hown := own_heads HCF.out.hg hh1' (by omega)
       have hrd := reads_heads hh2 (by omega)
       rw [hl1] at hown
       rw [hl2] at hrd
       have HOWN := sqM hown
       have HRD := sqM hrd
       have HD1 := sqM hd1'
       have HD2 := sqM hd2
       have HL1 := sqM hl1
       have HL2 := sqM hl2
       have HGL : Aside0 (gh < w9.heap.size ∧ gh ≠ b) := ⟨q0l hh1', HCF.out.ne⟩
       clear hh1 hd1 hh2 hd2 hl1 hl2 hn2 hp2 hbb hh1' hd1' hown hrd
       go_wp2_with (first | (refine q13 (w0 := w) hdV ((none, 0, 0) : Hdr) w.heap.size rfl (.tmp 196) (.tmp 197) 35 41 (.slice none 0 0) 24 rfl Try.underlying35 info41' rfl (by decide) (fun _ => rfl) (.slice (some ⟨gh, 0, none⟩) n n) hs1 hs2 (some ⟨g2, 0, none⟩) p p rfl rfl ?a1 HRD.out HLE9.out.below ?a2 ?a3 ?_; (case a1 => rw [HL1.out]; exact HOWN.out); (case a2 => exact q01 HLE9.out.below); (case a3 => rw [HL1.out]; have := HG.out.n200; have := HG.out.p16; omega); intro v12 w12 hown hb12 hg12 hat12; have HOW := sqM hown; have HB12 := sqM hb12; have HG12 := sqM hg12; have HAT := sqM hat12; clear hown hb12 hg12 hat12))
       go_ret2
       have hbb := HBB.out
       have hgl := HGL.out
       have nb : ∀ k, k ≠ gh → k < w9.heap.size → w12.heap[k]? = w9.heap[k]? := fun k hk hlt => HG12.out.block k hlt (fun e => hk (Option.some.inj e))
       have hvn : ∀ k, k ≠ gh → k < w9.heap.size → v12.ownBlock ≠ some k := fun k hk hlt e => by
        rcases HAT.out with h | ⟨b, h, hle⟩
        · rw [h] at e; exact hk (Option.some.inj e).symm
        · rw [h] at e; have := Option.some.inj e; omega
       have l1 := q0l HD1.out.data
       have l2 := q0l HD2.out.data
       rw [← HOF.out]
       exact ⟨v12, hs1, hs2, b, b2, rfl, ⟨HOW.out, HD1.out.move (nb b (fun e => hgl.2 e.symm) l1), HD2.out.move (nb b2 (fun e => by omega) l2), by omega, hvn b (fun e => hgl.2 e.symm) l1, hvn b2 (fun e => by omega) l2⟩, HB12.out⟩
def exR : List (List Int) := [[1, 0, 5], [2]]
def exM : List (List Int) := [[212, 0, 180], [48, 0, 253]]
def exX : List (List Int) := [[1, 0, 5], [2, 0, 0]]
def exG : List Bool := [true, true, false, false]
theorem ex_made : madeL exR 2 = exM := by decide +kernel
theorem ex_fits : fitsL [[7], []] (up [3, 1]) exM [0, 1] = (exG, 0) := by decide +kernel
theorem ex_out : outA [[7], []] [3, 1] exG 2 = [[0, 0, 0], [0]] := by decide +kernel
theorem ex_cols : cols 2 2 0 (partL exG 2 2, vL exG 2 [[0, 0, 0], [0]] exM 2) = some exX := by decide +kernel
theorem ex_outB : outB (woL exG 2) exX [3, 1] [[0, 0, 0], [0]] 2 = exR := by decide +kernel
theorem ex_rest : restB exG 2 exM (madeL exR 2) 2 = exM := by decide +kernel
def allB (l : List (List Int)) (n m : Nat) : Bool := decide (l.length = n) && l.all fun r => decide (r.length = m) && r.all fun y => decide (0 ≤ y ∧ y < 256)
theorem sh_of {l : List (List Int)} {n m : Nat} (h : allB l n m = true) : Sh n m l := by
 unfold allB at h
 rw [Bool.and_eq_true, decide_eq_true_eq, List.all_eq_true] at h
 refine ⟨h.1, fun r hr => ?_, fun r hr y hy => ?_⟩
 · have := h.2 r hr; rw [Bool.and_eq_true] at this; exact of_decide_eq_true this.1
 · have := h.2 r hr; rw [Bool.and_eq_true, List.all_eq_true] at this; exact (of_decide_eq_true (this.2 y hy) : 0 ≤ y ∧ y < 256)
theorem ex_given : Given [[7], []] [3, 1] exM exG 2 2 3 := by
 refine ⟨rfl, rfl, rfl, rfl, by decide, by decide, rfl, ?_, ?_, ?_, ?_, ?_⟩
 · decide +kernel
 · decide +kernel
 · decide +kernel
 · intro r hr y hy
   have : ∀ r ∈ ([[7], []] : List (List Int)), ∀ y ∈ r, 0 ≤ y ∧ y < 256 := by decide +kernel
   exact this r hr y hy
 · intro r hr y hy
   have : ∀ r ∈ exM, ∀ y ∈ r, 0 ≤ y ∧ y < 256 := by decide +kernel
   exact this r hr y hy
theorem ex_used : ∀ i, i ≤ 2 → (usedL exG 2 i).length = 2 → i = 2 := by decide +kernel
theorem ex_sh : allB exX 2 3 = true ∧ allB (partL exG 2 2) 2 2 = true ∧ allB (vL exG 2 [[0, 0, 0], [0]] exM 2) 2 3 = true := by decide +kernel
theorem ex_restore (A0 A1 A2 A3 : Option Addr) (c0 c1 c2 c3 : Nat) (w : World) (hr0 : Kd.C (Kd.slice 5 (Kd.int .u8)) w A0 2 [[7], []]) (hc0 : 2 ≤ c0) (hr1 : Kd.C (Kd.int .i64) w A1 2 (up [3, 1])) (hc1 : 2 ≤ c1) (hr2 : Kd.C (Kd.slice 5 (Kd.int .u8)) w A2 2 exM) (hc2 : 2 ≤ c2) (hr3 : Kd.C (Kd.int .i64) w A3 2 [0, 1]) (hc3 : 2 ≤ c3) :
    Calls Try.prog 16 #[.slice A0 2 c0, .slice A1 2 c1, .slice A2 2 c2, .slice A3 2 c3] w fun e w' => ∃ A c, e = .returned (.tuple #[.slice A 4 c, .int .i64 0]) ∧ 4 ≤ c ∧ Kd.C (Kd.slice 5 (Kd.int .u8)) w' A 4 (exR ++ exM) ∧ Below w.heap.size w w' := by
 have h := restore_ok A0 A1 A2 A3 c0 c1 c2 c3 [[7], []] [3, 1] exM [0, 1] exG 2 2 3 w hr0 hc0 hr1 hc1 hr2 hc2 hr3 hc3 (by decide) ex_fits ex_given 2 (by decide +kernel) (by decide +kernel) [[0, 0, 0], [0]] ex_out exX
  (fun _ => ⟨sh_of ex_sh.1, fun i hi hu => by
   obtain rfl := ex_used i hi hu
   exact ⟨ex_cols, sh_of ex_sh.2.1, sh_of ex_sh.2.2⟩⟩)
 refine h.mono ?_
 rintro e w' ⟨v, hs1, hs2, b1, b2, rfl, hres, hb⟩
 rw [ex_outB, ex_rest] at hres
 obtain ⟨A, c, rfl, hc, hC⟩ := hres.reads
 exact ⟨A, c, rfl, hc, hC, hb⟩
theorem lit_row {w : World} {k : Nat} {l : List Int} (hh : w.heap[k]? = some (.cells (q18 l) 5 (0, 0))) (hl : l.length ≤ 281474976710656) : Kd.C (Kd.int .u8) w (some ⟨k, 0, none⟩) l.length l := by
 refine ownC (k := 0) (o := 0) hl (fun _ => ⟨k, _, rfl, hh, ?_⟩)
 unfold q18
 rw [List.toList_toArray, ← List.map_take, List.take_length]
theorem lit_ints {w : World} {k : Nat} {l : List Int} (hh : w.heap[k]? = some (.cells (l.map (Value.int .i64)).toArray 3 (0, 0))) (hl : l.length ≤ 1000) : Kd.C (Kd.int .i64) w (some ⟨k, 0, none⟩) l.length l := by
 refine ⟨rfl, by omega, fun hp => ⟨_, rfl, fun j p hj => ⟨[.int .i64 p], rfl, rfl, fun t u hu => ?_⟩⟩⟩
 match t, hu with
 | 0, hu =>
  obtain rfl := Option.some.inj hu
  rw [show (⟨k, 0, none⟩ : Addr).add (j * (Kd.int .i64).sz + 0) = ⟨k, j, none⟩ from (q1r k 0 _).trans (by rw [Nat.zero_add]; exact congrArg (fun z => (⟨k, z, none⟩ : Addr)) (Nat.mul_one j))]
  rw [q0h hh]; simp [hj]
 | t + 1, hu => simp at hu
theorem lit_rows {w : World} {k : Nat} {hs : List Hdr} {m : List (List Int)} (hh : w.heap[k]? = some (.cells (encs hdV hs).toArray 41 (0, 0))) (hl : hs.length = m.length) (hm : m.length ≤ 1000) (hr : ∀ (j : Nat) p, m[j]? = some p → ∃ A c, hs[j]? = some (A, p.length, c) ∧ p.length ≤ c ∧ Kd.C (Kd.int .u8) w A p.length p) : Kd.C (Kd.slice 5 (Kd.int .u8)) w (some ⟨k, 0, none⟩) m.length m := by
 refine ⟨rfl, by omega, fun hp => ⟨_, rfl, fun j p hj => ?_⟩⟩
 obtain ⟨A, c, e1, e2, e3⟩ := hr j p hj
 refine ⟨[.slice A p.length c], rfl, ⟨A, c, rfl, e2, e3⟩, fun t u hu => ?_⟩
 match t, hu with
 | 0, hu =>
  obtain rfl := Option.some.inj hu
  rw [show (⟨k, 0, none⟩ : Addr).add (j * (Kd.slice 5 (Kd.int .u8)).sz + 0) = ⟨k, j, none⟩ from (q1r k 0 _).trans (by rw [Nat.zero_add]; exact congrArg (fun z => (⟨k, z, none⟩ : Addr)) (Nat.mul_one j))]
  rw [q0h hh]
  unfold encs
  rw [List.getElem?_toArray, List.getElem?_map, e1]; rfl
 | t + 1, hu => simp at hu
theorem ex_make (w : World) : Calls Try.prog 15 #[.slice (some ⟨w.heap.size + 1 + 1, 0, none⟩) 2 2, .int .i64 2] (((w.alloc (Obj.cells #[Value.int IntKind.u8 1, Value.int IntKind.u8 0, Value.int IntKind.u8 5] 5)).alloc (Obj.cells #[Value.int IntKind.u8 2] 5)).alloc (Obj.cells #[Value.slice (some ⟨w.heap.size, 0, none⟩) 3 3, Value.slice (some ⟨w.heap.size + 1, 0, none⟩) 1 1] 41))
    fun e w' => ∃ g b, e = .returned (.tuple #[.slice (some ⟨g, 0, none⟩) 2 2, .int .i64 0]) ∧ Cu w' w.heap.size g b exM ∧ Below w.heap.size w w' := by
 generalize hW : (((w.alloc (Obj.cells #[Value.int IntKind.u8 1, Value.int IntKind.u8 0, Value.int IntKind.u8 5] 5)).alloc (Obj.cells #[Value.int IntKind.u8 2] 5)).alloc (Obj.cells #[Value.slice (some ⟨w.heap.size, 0, none⟩) 3 3, Value.slice (some ⟨w.heap.size + 1, 0, none⟩) 1 1] 41)) = W
 have hb : Below w.heap.size w W := by rw [← hW]; exact q02 (q02 (q02 (Below.refl _ _) _) _) _
 have h1 : W.heap[w.heap.size]? = some (.cells (q18 [1, 0, 5]) 5 (0, 0)) := by rw [← hW]; exact q1v (q1v (q0z _ _) _) _
 have h2 : W.heap[w.heap.size + 1]? = some (.cells (q18 [2]) 5 (0, 0)) := by
  rw [← hW]; refine q1v ?_ _; have := q0z (w.alloc (Obj.cells #[Value.int IntKind.u8 1, Value.int IntKind.u8 0, Value.int IntKind.u8 5] 5)) (Obj.cells #[Value.int IntKind.u8 2] 5); rw [size_alloc'] at this; exact this
 have h3 : W.heap[w.heap.size + 1 + 1]? = some (.cells (encs hdV [(some ⟨w.heap.size, 0, none⟩, 3, 3), (some ⟨w.heap.size + 1, 0, none⟩, 1, 1)]).toArray 41 (0, 0)) := by
  rw [← hW]; have := q0z ((w.alloc (Obj.cells #[Value.int IntKind.u8 1, Value.int IntKind.u8 0, Value.int IntKind.u8 5] 5)).alloc (Obj.cells #[Value.int IntKind.u8 2] 5)) (Obj.cells #[Value.slice (some ⟨w.heap.size, 0, none⟩) 3 3, Value.slice (some ⟨w.heap.size + 1, 0, none⟩) 1 1] 41); rw [size_alloc', size_alloc'] at this; exact this
 have hC := lit_rows (m := exR) h3 rfl (by decide) (fun j p hj => by
  match j, hj with
  | 0, hj => obtain rfl := Option.some.inj hj; exact ⟨_, _, rfl, Nat.le_refl _, lit_row h1 (by decide)⟩
  | 1, hj => obtain rfl := Option.some.inj hj; exact ⟨_, _, rfl, Nat.le_refl _, lit_row h2 (by decide)⟩
  | j + 2, hj => simp [exR] at hj)
 have hm := make_ok (some ⟨w.heap.size + 1 + 1, 0, none⟩) 2 exR 2 W hC (by decide) (by decide) (by decide) (by
  intro r hr y hy
  have : ∀ r ∈ exR, ∀ y ∈ r, 0 ≤ y ∧ y < 256 := by decide +kernel
  exact this r hr y hy)
 refine Calls.mono hm ?_
 intro e w' hp
 unfold MakePost at hp
 rw [if_pos (by decide +kernel), ex_made] at hp
 obtain ⟨g, b, rfl, hcu, hbb⟩ := hp
 exact ⟨g, b, rfl, hcu.base_down hb.size, q04 hb hbb⟩
theorem ex_rest2 (w : World) (g : Nat) (hL : Kd.C (Kd.slice 5 (Kd.int .u8)) w (some ⟨g, 0, none⟩) 2 exM) : Calls Try.prog 16 #[.slice (some ⟨w.heap.size + 1, 0, none⟩) 2 2, .slice (some ⟨w.heap.size + 1 + 1, 0, none⟩) 2 2, .slice (some ⟨g, 0, none⟩) 2 2, .slice (some ⟨w.heap.size + 1 + 1 + 1, 0, none⟩) 2 2]
    ((((w.alloc (Obj.cells #[Value.int IntKind.u8 7] 5)).alloc (Obj.cells #[Value.slice (some ⟨w.heap.size, 0, none⟩) 1 1, Value.slice none 0 0] 41)).alloc (Obj.cells #[Value.int IntKind.i64 3, Value.int IntKind.i64 1] 3)).alloc (Obj.cells #[Value.int IntKind.i64 0, Value.int IntKind.i64 1] 3))
    fun e w' => ∃ A c, e = .returned (.tuple #[.slice A 4 c, .int .i64 0]) ∧ 4 ≤ c ∧ Kd.C (Kd.slice 5 (Kd.int .u8)) w' A 4 (exR ++ exM) ∧ Below w.heap.size w w' := by
 generalize hW : ((((w.alloc (Obj.cells #[Value.int IntKind.u8 7] 5)).alloc (Obj.cells #[Value.slice (some ⟨w.heap.size, 0, none⟩) 1 1, Value.slice none 0 0] 41)).alloc (Obj.cells #[Value.int IntKind.i64 3, Value.int IntKind.i64 1] 3)).alloc (Obj.cells #[Value.int IntKind.i64 0, Value.int IntKind.i64 1] 3)) = W
 have hb : Below w.heap.size w W := by rw [← hW]; exact q02 (q02 (q02 (q02 (Below.refl _ _) _) _) _) _
 have h1 : W.heap[w.heap.size]? = some (.cells (q18 [7]) 5 (0, 0)) := by rw [← hW]; exact q1v (q1v (q1v (q0z _ _) _) _) _
 have h2 : W.heap[w.heap.size + 1]? = some (.cells (encs hdV [(some ⟨w.heap.size, 0, none⟩, 1, 1), (none, 0, 0)]).toArray 41 (0, 0)) := by
  rw [← hW]; refine q1v (q1v ?_ _) _; have := q0z (w.alloc (Obj.cells #[Value.int IntKind.u8 7] 5)) (Obj.cells #[Value.slice (some ⟨w.heap.size, 0, none⟩) 1 1, Value.slice none 0 0] 41); rw [size_alloc'] at this; exact this
 have h3 : W.heap[w.heap.size + 1 + 1]? = some (.cells (([3, 1] : List Int).map (Value.int .i64)).toArray 3 (0, 0)) := by
  rw [← hW]; refine q1v ?_ _; have := q0z ((w.alloc (Obj.cells #[Value.int IntKind.u8 7] 5)).alloc (Obj.cells #[Value.slice (some ⟨w.heap.size, 0, none⟩) 1 1, Value.slice none 0 0] 41)) (Obj.cells #[Value.int IntKind.i64 3, Value.int IntKind.i64 1] 3); rw [size_alloc', size_alloc'] at this; exact this
 have h4 : W.heap[w.heap.size + 1 + 1 + 1]? = some (.cells (([0, 1] : List Int).map (Value.int .i64)).toArray 3 (0, 0)) := by
  rw [← hW]; have := q0z (((w.alloc (Obj.cells #[Value.int IntKind.u8 7] 5)).alloc (Obj.cells #[Value.slice (some ⟨w.heap.size, 0, none⟩) 1 1, Value.slice none 0 0] 41)).alloc (Obj.cells #[Value.int IntKind.i64 3, Value.int IntKind.i64 1] 3)) (Obj.cells #[Value.int IntKind.i64 0, Value.int IntKind.i64 1] 3); rw [size_alloc', size_alloc', size_alloc'] at this; exact this
 have hC := lit_rows (m := [[7], []]) h2 rfl (by decide) (fun j p hj => by
  match j, hj with
  | 0, hj => obtain rfl := Option.some.inj hj; exact ⟨_, _, rfl, Nat.le_refl _, lit_row h1 (by decide)⟩
  | 1, hj => obtain rfl := Option.some.inj hj; exact ⟨_, _, rfl, Nat.le_refl _, rfl, by decide, fun hp => absurd hp (by decide)⟩
  | j + 2, hj => simp at hj)
 have h := ex_restore (some ⟨w.heap.size + 1, 0, none⟩) (some ⟨w.heap.size + 1 + 1, 0, none⟩) (some ⟨g, 0, none⟩) (some ⟨w.heap.size + 1 + 1 + 1, 0, none⟩) 2 2 2 2 W hC (by decide) (lit_ints h3 (by decide)) (by decide) (Kd.C_below hL hb) (by decide) (lit_ints h4 (by decide)) (by decide)
 refine Calls.mono h ?_
 rintro e w' ⟨A, c, rfl, hc, hR, hbb⟩
 exact ⟨A, c, rfl, hc, hR, q04 hb hbb⟩
theorem cell_facts {w1 w2 : World} {base g b : Nat} {A : Option Addr} (hcu : Cu w1 base g b exM) (hC : Kd.C (Kd.slice 5 (Kd.int .u8)) w2 A 4 (exR ++ exM)) (hb : Below w1.heap.size w1 w2) :
    ∃ o0 o1 am, A = some am ∧ ∃ B0 d0 B1 d1, w2.cell? ⟨g, 0, none⟩ = some (.slice (some ⟨b, o0, none⟩) 3 3) ∧ w2.cell? ⟨g, 1, none⟩ = some (.slice (some ⟨b, o1, none⟩) 3 3) ∧ Kd.C (Kd.int .u8) w2 (some ⟨b, o0, none⟩) 3 [212, 0, 180] ∧ Kd.C (Kd.int .u8) w2 (some ⟨b, o1, none⟩) 3 [48, 0, 253] ∧
     w2.cell? (am.add 0) = some (.slice B0 3 d0) ∧ w2.cell? (am.add 1) = some (.slice B1 1 d1) ∧ Kd.C (Kd.int .u8) w2 B0 3 [1, 0, 5] ∧ Kd.C (Kd.int .u8) w2 B1 1 [2] := by
 have hcu2 := hcu.below hb
 obtain ⟨o0, a1, _, a2⟩ := hcu2.head (i := 0) (r := [212, 0, 180]) rfl
 obtain ⟨o1, a3, _, a4⟩ := hcu2.head (i := 1) (r := [48, 0, 253]) rfl
 obtain ⟨am, B0, d0, rfl, b1, _, b2⟩ := at_L2 hC 0 (by decide) (by decide)
 obtain ⟨am', B1, d1, e, b3, _, b4⟩ := at_L2 hC 1 (by decide) (by decide)
 cases e
 exact ⟨o0, o1, am, rfl, B0, d0, B1, d1, a1, a3, hcu2.rowC (i := 0) rfl a2, hcu2.rowC (i := 1) rfl a4, b1, b3, b2, b4⟩
set_option maxHeartbeats 800000 in
set_option maxRecDepth 100000 in
theorem awake_calls (w : World) : Calls Try.prog 9 #[] w fun e w' => e = .returned (.bool true) ∧ Below w.heap.size w w' := by
 go_enter Try.func9, Try.ntmps9
 go_wp2_with (first
  | (go_at_call 15; (with_reducible refine (ex_make w).mono ?_); rintro e w1 ⟨g, b, rfl, hcu, hb⟩; have HL2 := sqM (show Kd.C (Kd.slice 5 (Kd.int .u8)) w1 (some ⟨g, 0, none⟩) 2 exM from hcu.reads); have HCU := sqM hcu; have HB1 := sqM hb; clear hcu hb)
  | (go_at_call 16; (with_reducible refine (ex_rest2 w1 g HL2.out).mono ?_); rintro e w2 ⟨A, c, rfl, hc, hC, hb⟩; have HC2 := sqM hC; have HB2 := sqM hb; have hf := cell_facts HCU.out hC hb; obtain ⟨o0, o1, am, hA, B0, d0, B1, d1, f1, f2, f3, f4, f5, f6, f7, f8⟩ := hf; subst hA; have f50 : w2.cell? am = some (.slice B0 3 d0) := f5; have f60 : w2.cell? { block := am.block, off := am.off + 1 } = some (.slice B1 1 d1) := f6; have hcv1 := Kd.C_string (P := Try.prog) (A := some ⟨b, o0, none⟩) (c := 3) Try.underlying41 Try.underlying5 Try.underlying9 f3; rw [show strOfNums [212, 0, 180] = (⟨#[212, 0, 180]⟩ : ByteArray) from by decide +kernel] at hcv1; have hcv2 := Kd.C_string (P := Try.prog) (A := some ⟨b, o1, none⟩) (c := 3) Try.underlying41 Try.underlying5 Try.underlying9 f4; rw [show strOfNums [48, 0, 253] = (⟨#[48, 0, 253]⟩ : ByteArray) from by decide +kernel] at hcv2; have hcv3 := Kd.C_string (P := Try.prog) (A := B0) (c := d0) Try.underlying41 Try.underlying5 Try.underlying9 f7; rw [show strOfNums [1, 0, 5] = (⟨#[1, 0, 5]⟩ : ByteArray) from by decide +kernel] at hcv3; have hcv4 := Kd.C_string (P := Try.prog) (A := B1) (c := d1) Try.underlying41 Try.underlying5 Try.underlying9 f8; rw [show strOfNums [2] = (⟨#[2]⟩ : ByteArray) from by decide +kernel] at hcv4; clear hc hC hb f3 f4 f7 f8))
 have HB3 := sqM (q04 HB1.out HB2.out)
 go_ret
 exact ⟨rfl, HB3.out⟩
theorem addAt_getD (b : Int) : ∀ (l : List Int) (o : Nat) (D : List Int) (i : Nat), i < D.length → (addAt b l o D).getD i 0 = if o ≤ i ∧ i < o + l.length then xorZ (D.getD i 0) (mulZ b (l.getD (i - o) 0)) else D.getD i 0
 | [], o, D, i, h => by rw [addAt, if_neg (by simp)]
 | v :: l, o, D, i, h => by
  rw [addAt, addAt_getD b l (o + 1) _ i (by rw [List.length_set]; exact h), List.length_cons]
  by_cases e : i = o
  · subst e
    rw [if_neg (by omega), if_pos (by omega), Nat.sub_self]
    rw [List.getD_eq_getElem?_getD, List.getElem?_set_self h]; rfl
  ·
   have e2 : (D.set o (xorZ (D.getD o 0) (mulZ b v))).getD i 0 = D.getD i 0 := by
    rw [List.getD_eq_getElem?_getD, List.getElem?_set_ne (Ne.symm e), ← List.getD_eq_getElem?_getD]
   rw [e2]
   by_cases h2 : o + 1 ≤ i ∧ i < o + 1 + l.length
   · rw [if_pos h2, if_pos (by omega)]
     have : i - o = (i - (o + 1)) + 1 := by omega
     rw [this]; rfl
   · rw [if_neg h2, if_neg (by omega)]
structure Big (D : List Int) (k : Nat) : Prop where
 len : D.length = 16777217
 at_ : D.getD k 0 = 3
 off : ∀ i, i ≠ k → D.getD i 0 = 0
end Go.Proofs.Ytdhajlkiiphlfaa.Par
namespace Go.Proofs.Ytdhajlkiiphlfaa.Par
open Go.RowKit Go.Proofs.Ytdhajlkiiphlfaa.QB Go.Proofs.YtdhajlkiiphlfaaW.PrintWords Go.Proofs.YtdhajlkiiphlfaaW.PrintLast Go.Proofs.YtdhajlkiiphlfaaW.PrintMore Go.Proofs.Ytdhajlkiiphlfaa.Solve
end Go.Proofs.Ytdhajlkiiphlfaa.Par
namespace Go.Proofs.Ytdhajlkiiphlfaa.Par
open Go.RowKit Go.Proofs.Ytdhajlkiiphlfaa.QB Go.Proofs.YtdhajlkiiphlfaaW.PrintWords Go.Proofs.YtdhajlkiiphlfaaW.PrintLast Go.Proofs.YtdhajlkiiphlfaaW.PrintMore Go.Proofs.Ytdhajlkiiphlfaa.Solve Go.Proofs.Ytdhajlkiiphlfaa.Math
def at2 (m : List (List Int)) (i x : Nat) : El := elO ((m.getD i []).getD x 0)
theorem fn_at2 (m : List (List Int)) (i x : Nat) : fn m i x = at2 m i x := by
 unfold fn at2; rw [rdL_nat, rd_nat]
theorem getD_in {l : List Int} (h : ∀ y ∈ l, In8 y) (x : Nat) : In8 (l.getD x 0) := by
 rw [List.getD_eq_getElem?_getD]
 cases e : l[x]? with
 | none => exact ⟨by decide, by decide⟩
 | some y => exact h y (List.mem_of_getElem? e)
theorem getD_len {l : List Int} {x : Nat} (h : l.length ≤ x) : l.getD x 0 = 0 := by
 rw [List.getD_eq_getElem?_getD, List.getElem?_eq_none h]; rfl
theorem elO_add (b : Int) (hb : In8 b) (l D : List Int) (hl : ∀ y ∈ l, In8 y) (hD : ∀ y ∈ D, In8 y) {x : Nat} (hx : x < D.length) : elO ((addAt b l 0 D).getD x 0) = elO (D.getD x 0) + elO b * elO (l.getD x 0) := by
 rw [addAt_getD b l 0 D x hx]
 by_cases h : x < l.length
 · rw [if_pos ⟨Nat.zero_le _, by omega⟩, Nat.sub_zero, elO_xor (getD_in hD x) (mulZ_in hb), elO_mul hb (getD_in hl x)]
 · rw [if_neg (by omega), getD_len (l := l) (by omega), elO_zero, El.mul_zero, El.add_zero]
theorem part_el (c : Nat → Int) (rows : List (List Int)) (z : List Int) (hz : ∀ y ∈ z, In8 y) (hr : ∀ t, ∀ y ∈ rows.getD t [], In8 y) {x : Nat} (hx : x < z.length) : ∀ j, (∀ t, t < j → In8 (c t)) → elO ((part c rows z j).getD x 0) = elO (z.getD x 0) + El.sum j (fun t => elO (c t) * at2 rows t x)
 | 0, _ => (El.add_zero _).symm
 | j + 1, hc => by
  rw [part, elO_add (c j) (hc j (by omega)) _ _ (hr j) (part_in c rows z hz j (fun t ht => hc t (by omega))) (by rw [q0s]; exact hx), part_el c rows z hz hr hx j (fun t ht => hc t (by omega))]
  show _ = _ + (El.sum j _ + _)
  rw [El.add_assoc]; rfl
theorem left_el (g : List Bool) (out : List (List Int)) (i : Nat) (z : List Int) (hz : ∀ y ∈ z, In8 y) (hr : ∀ t, ∀ y ∈ out.getD t [], In8 y) {x : Nat} (hx : x < z.length) : ∀ j, j ≤ 256 → elO ((leftP g out i z j).getD x 0) = elO (z.getD x 0) + El.sum j (fun t => if g.getD t false = true then 0 else elO (cE i t) * at2 out t x)
 | 0, _ => (El.add_zero _).symm
 | j + 1, hj => by
  rw [leftP]
  show _ = _ + (El.sum j _ + (if g.getD j false = true then 0 else elO (cE i j) * at2 out j x))
  by_cases h : g.getD j false = true
  · rw [if_pos h, if_pos h, left_el g out i z hz hr hx j (by omega), El.add_zero]
  · rw [if_neg h, if_neg h, elO_add (cE i j) (cE_in (by omega)) _ _ (hr j) (leftP_in g out i z hz j (by omega)) (by rw [q1m]; exact hx), left_el g out i z hz hr hx j (by omega), El.add_assoc]; rfl
theorem woL_count (g : List Bool) : ∀ m, m ≤ g.length → (woL g m).length = (g.take m).count true
 | 0, _ => by simp [woL]
 | m + 1, hm => by
  rw [woL_succ, List.take_succ_eq_append_getElem (by omega), List.count_append]
  have e : g.getD m false = g[m] := by rw [List.getD_eq_getElem?_getD, List.getElem?_eq_getElem (by omega)]; rfl
  have ih := woL_count g m (by omega)
  rw [e]
  cases h : g[m]
  · rw [if_neg (by decide), ih]; simp
  · rw [if_pos rfl, List.length_append, ih]; simp
theorem usedL_count (g : List Bool) (n : Nat) : ∀ m, n + m ≤ g.length → (usedL g n m).length + ((g.drop n).take m).count true = m
 | 0, _ => by simp [usedL]
 | m + 1, hm => by
  rw [usedL_succ, List.take_succ_eq_append_getElem (by rw [List.length_drop]; omega), List.count_append]
  have e : g.getD (n + m) false = g[n + m] := by rw [List.getD_eq_getElem?_getD, List.getElem?_eq_getElem (by omega)]; rfl
  have e2 : (g.drop n)[m]'(by rw [List.length_drop]; omega) = g[n + m] := by rw [List.getElem_drop]
  have ih := usedL_count g n m (by omega)
  rw [e, e2]
  cases h : g[n + m]
  · rw [if_neg (by decide), List.length_append]; simp; omega
  · rw [if_pos rfl]; simp; omega
theorem count_ok {g : List Bool} {n p : Nat} (hg : g.length = n + p) (hc : cnt g ≤ p) : (woL g n).length ≤ (usedL g n p).length := by
 have h1 := woL_count g n (by omega)
 have h2 := usedL_count g n p (by omega)
 have h3 : (g.drop n).take p = g.drop n := List.take_of_length_le (by rw [List.length_drop]; omega)
 have h4 : cnt g = (g.take n).count true + (g.drop n).count true := by
  unfold cnt; rw [← List.count_append, List.take_append_drop]
 rw [h3] at h2
 omega
theorem woL_nodup (g : List Bool) (n : Nat) : (woL g n).Nodup := List.Pairwise.filter _ List.nodup_range
theorem usedL_nodup (g : List Bool) (n i : Nat) : (usedL g n i).Nodup := List.Pairwise.filter _ List.nodup_range
theorem nodup_ne {l : List Nat} (h : l.Nodup) {i j : Nat} (hi : i < l.length) (hj : j < l.length) (hij : i ≠ j) : l.getD i 0 ≠ l.getD j 0 := by
 rw [List.getD_eq_getElem?_getD, List.getD_eq_getElem?_getD, List.getElem?_eq_getElem hi, List.getElem?_eq_getElem hj]
 exact fun e => hij ((List.getElem_inj h).1 e)
theorem mem_usedL {g : List Bool} {n i t : Nat} : t ∈ usedL g n i ↔ t < i ∧ g.getD (n + t) false = false := by
 unfold usedL; rw [List.mem_filter, List.mem_range]; simp [-List.getD_eq_getElem?_getD]
theorem elO_ne {a b : Nat} (ha : a < 256) (hb : b < 256) (h : a ≠ b) : elO (a : Int) ≠ elO (b : Int) := fun e => h (by have := elO_inj (In8.of ha) (In8.of hb) e; omega)
theorem cE_el {i j : Nat} (hj : j < 256) : elO (cE i j) = (elO ((255 - i : Nat) : Int) + elO (j : Int)).inv := by
 unfold cE
 rw [elO_inv (xorZ_in (In8.of (by omega)) (In8.of hj)), elO_xor (In8.of (by omega)) (In8.of hj)]
structure Lost (rows rows' more' : List (List Int)) (g : List Bool) (n p : Nat) : Prop where
 rn : rows.length = n
 rn' : rows'.length = n
 pn : more'.length = p
 gn : g.length = n + p
 n200 : n ≤ 200
 p16 : p ≤ 16
 small : ∀ r ∈ rows, r.length ≤ 16777216
 rin : ∀ r ∈ rows, ∀ y ∈ r, In8 y
 rin' : ∀ r ∈ rows', ∀ y ∈ r, In8 y
 min' : ∀ r ∈ more', ∀ y ∈ r, In8 y
 same : ∀ t, t < n → g.getD t false = false → rows'.getD t [] = rows.getD t []
 sameM : ∀ t, t < p → g.getD (n + t) false = false → more'.getD t [] = q1s rows t
 few : cnt g ≤ p
theorem getD_rows {rows : List (List Int)} (h : ∀ r ∈ rows, ∀ y ∈ r, In8 y) (t : Nat) : ∀ y ∈ rows.getD t [], In8 y := by
 rw [List.getD_eq_getElem?_getD]
 cases e : rows[t]? with
 | none => intro y hy; cases hy
 | some r => exact h r (List.mem_of_getElem? e)
theorem map_getD (l : List Nat) (f : Nat → List Int) {k : Nat} (hk : k < l.length) : (l.map f).getD k [] = f (l.getD k 0) := by
 rw [List.getD_eq_getElem?_getD, List.getElem?_map, List.getElem?_eq_getElem hk, List.getD_eq_getElem?_getD, List.getElem?_eq_getElem hk]; rfl
theorem ext_getD {a b : List (List Int)} {n : Nat} (ha : a.length = n) (hb : b.length = n) (h : ∀ t, t < n → a.getD t [] = b.getD t []) : a = b := by
 apply List.ext_getElem?
 intro t
 by_cases ht : t < n
 · rw [getD_get (d := []) (by omega), getD_get (l := b) (d := []) (by omega), h t ht]
 · rw [List.getElem?_eq_none (by omega), List.getElem?_eq_none (by omega)]
end Go.Proofs.Ytdhajlkiiphlfaa.Par
namespace Go.Proofs.Ytdhajlkiiphlfaa.Par
open Go.RowKit Go.Proofs.Ytdhajlkiiphlfaa.QB Go.Proofs.YtdhajlkiiphlfaaW.PrintWords Go.Proofs.YtdhajlkiiphlfaaW.PrintLast Go.Proofs.YtdhajlkiiphlfaaW.PrintMore Go.Proofs.Ytdhajlkiiphlfaa.Solve
def Row5 (w : World) (h : Hdr) (r : List Int) : Prop := h.2.1 = r.length ∧ r.length ≤ h.2.2 ∧ r.length ≤ 281474976710656 ∧ (0 < r.length → ∃ k o cells fz, h.1 = some ⟨k, o, none⟩ ∧ w.heap[k]? = some (.cells cells 5 fz) ∧ ∀ (x : Nat) y, r[x]? = some y → cells[o + x]? = some (.int .u8 y))
def Same5 (w w' : World) : Prop := ∀ (k : Nat) cells fz, w.heap[k]? = some (.cells cells 5 fz) → w'.heap[k]? = some (.cells cells 5 fz)
theorem Same5.trans {a b c : World} (h : Same5 a b) (h' : Same5 b c) : Same5 a c := fun k cells fz hk => h' k cells fz (h k cells fz hk)
theorem Same5.of_below {w w' : World} (h : Below w.heap.size w w') : Same5 w w' := fun k cells fz hk => (h.block k (Array.getElem?_eq_some_iff.1 hk).1).trans hk
theorem Same5.of_grown {w w' : World} {row : Option Nat} (h : w.grownBy w' row) (hr : ∀ k cells fz, w.heap[k]? = some (.cells cells 5 fz) → some k ≠ row) : Same5 w w' := fun k cells fz hk => (h.block k (Array.getElem?_eq_some_iff.1 hk).1 (hr k cells fz hk)).trans hk
theorem Same5.set {w : World} {g t : Nat} {cells : Array Value} {fz : Nat × Nat} (hg : w.heap[g]? = some (.cells cells t fz)) (ht : t ≠ 5) (i : Nat) (v : Value) : Same5 w (w.setCell ⟨g, i, none⟩ v) := fun k c f hk => by
 rw [Below.heap_setCell w ⟨g, i, none⟩ v k (fun e => ht (by
  have e2 : k = g := e
  rw [e2, hg] at hk; injection hk with hk; injection hk))]
 exact hk
theorem Row5.move {w w' : World} {h : Hdr} {r : List Int} (hr : Row5 w h r) (hs : Same5 w w') : Row5 w' h r := by
 obtain ⟨a, b, c, d⟩ := hr
 refine ⟨a, b, c, fun hp => ?_⟩
 obtain ⟨k, o, cells, fz, e1, e2, e3⟩ := d hp
 exact ⟨k, o, cells, fz, e1, hs k cells fz e2, e3⟩
theorem Row5.toC {w : World} {A : Option Addr} {n c : Nat} {r : List Int} (hr : Row5 w (A, n, c) r) : Kd.C (Kd.int .u8) w A r.length r := by
 obtain ⟨a, b, c, d⟩ := hr
 refine ⟨rfl, by omega, fun hp => ?_⟩
 obtain ⟨k, o, cells, fz, e1, e2, e3⟩ := d hp
 refine ⟨_, e1, fun j p hj => ⟨[.int .u8 p], rfl, rfl, fun t u hu => ?_⟩⟩
 match t, hu with
 | 0, hu =>
  obtain rfl := Option.some.inj hu
  rw [show (⟨k, o, none⟩ : Addr).add (j * (Kd.int .u8).sz + 0) = ⟨k, o + (j * 1 + 0), none⟩ from q1r k o _, show o + (j * 1 + 0) = o + j by omega, cell_of_row w k (o + j) cells 5 fz e2]
  exact e3 j p hj
 | t + 1, hu => simp at hu
structure Rows5 (w : World) (hs : List Hdr) (m : List (List Int)) : Prop where
 len : hs.length = m.length
 row : ∀ (i : Nat) (h : Hdr) (r : List Int), hs[i]? = some h → m[i]? = some r → Row5 w h r
theorem Rows5.at_ {w : World} {hs : List Hdr} {m : List (List Int)} (h : Rows5 w hs m) {i : Nat} (hi : i < m.length) : ∃ A c, hs[i]? = some (A, (m.getD i []).length, c) ∧ (m.getD i []).length ≤ c ∧ Kd.C (Kd.int .u8) w A (m.getD i []).length (m.getD i []) := by
 have h1 := List.getElem?_eq_getElem (show i < hs.length by rw [h.len]; exact hi)
 obtain ⟨hd, hhd⟩ : ∃ hd, hs[i]? = some hd := ⟨_, h1⟩
 have h2 := h.row i hd _ hhd (getD_get (d := []) hi)
 clear h1
 obtain ⟨A, n, c⟩ := hd
 have h2c := h2
 obtain ⟨e1, e2, _⟩ := h2
 have e1' : n = (m.getD i []).length := e1
 subst e1'
 exact ⟨A, c, hhd, e2, h2c.toC⟩
theorem Rows5.toC {w : World} {base : Nat} {hs : List Hdr} {m : List (List Int)} {A : Option Addr} {n c : Nat} (h : Rows5 w hs m) (ho : w.ownsRow base 41 1 (.slice A n c) hs.length (encs hdV hs)) : Kd.C (Kd.slice 5 (Kd.int .u8)) w A n m := by
 have hl := h.len
 obtain ⟨hlen, hcase⟩ := ho
 rcases hcase with ⟨hv, hx0⟩ | ⟨g, cap, cur, hv, hg, hh, hnc, hcm, hcs, htake⟩
 · injection hv with _ hn _
   subst hn
   obtain rfl : m = [] := List.eq_nil_of_length_eq_zero (by omega)
   exact ⟨rfl, by decide, fun hp => absurd hp (by decide)⟩
 ·
  injection hv with hA hn hc
  subst hA; subst hn; subst hc
  refine ⟨by omega, by unfold maxLen at hcm; omega, fun hp => ⟨_, rfl, fun j p hj => ?_⟩⟩
  have hjl := (List.getElem?_eq_some_iff.1 hj).1
  obtain ⟨A, c2, e1, e2, e3⟩ := h.at_ hjl
  have ep : p = m.getD j [] := by rw [List.getD_eq_getElem?_getD, hj]; rfl
  refine ⟨[.slice A (m.getD j []).length c2], rfl, ⟨A, c2, by rw [ep], by rw [ep]; exact e2, by rw [ep]; exact e3⟩, fun t u hu => ?_⟩
  match t, hu with
  | 0, hu =>
   obtain rfl := Option.some.inj hu
   rw [show (⟨g, 0, none⟩ : Addr).add (j * (Kd.slice 5 (Kd.int .u8)).sz + 0) = ⟨g, j, none⟩ from (q1r g 0 _).trans (by rw [Nat.zero_add]; exact congrArg (fun z => (⟨g, z, none⟩ : Addr)) (Nat.mul_one j))]
   rw [q0h hh, ← Array.getElem?_toList]
   have : (cur.toList.take (hs.length * 1))[j]? = (encs hdV hs)[j]? := by rw [htake]
   rw [List.getElem?_take, if_pos (by omega)] at this
   rw [this]
   unfold encs
   rw [List.getElem?_map, e1]; rfl
  | t + 1, hu => simp at hu
structure RoA (w0 w : World) (v : Value) (hs : List Hdr) (m : List (List Int)) : Prop where
 below : Below w0.heap.size w0 w
 own : w.ownsRow w0.heap.size 41 1 v hs.length (encs hdV hs)
 rows : Rows5 w hs m
theorem ne5 {w : World} {base n k : Nat} {v : Value} {xs : List Value} {t : Nat} {cells : Array Value} {fz : Nat × Nat} (ht : t ≠ 5) (h : w.ownsRow base t 1 v n xs) (hc : w.heap[k]? = some (.cells cells 5 fz)) : some k ≠ v.ownBlock := by
 intro e
 obtain ⟨c2, h2⟩ := q0b h k e.symm
 rw [hc] at h2
 injection h2 with h2
 injection h2 with _ h2
 exact ht h2.symm
attribute [local go_sem] q1c q1d q1y q1z q0v q0w q1e q1f
theorem q07 {W W' : World} {B e size n : Nat} {v : Value} {xs : List Value} (h : W.ownsRow B e size v n xs) (hb : Below W.heap.size W W') : W'.ownsRow B e size v n xs :=
 h.kept (row := none) ⟨hb.os, hb.tape, hb.output, hb.size, fun k hk _ => hb.block k hk⟩ (Classical.em _)
theorem q0c {w w' : World} {a : Addr} {v : Value} (hb : Below w.heap.size w w') (hc : w.cell? a = some v) : w'.cell? a = some v :=
 (hb.cell (World.block_lt_of_cell? w _ hc)).trans hc
end Go.Proofs.Ytdhajlkiiphlfaa.Par
namespace Go.Proofs.Ytdhajlkiiphlfaa.Par
open Go.RowKit Go.Proofs.Ytdhajlkiiphlfaa.QB Go.Proofs.YtdhajlkiiphlfaaW.PrintWords Go.Proofs.YtdhajlkiiphlfaaW.PrintLast Go.Proofs.YtdhajlkiiphlfaaW.PrintMore Go.Proofs.Ytdhajlkiiphlfaa.Solve
theorem apart_symm {v1 v2 : Value} (h : v1.ownBlock = none ∨ v1.ownBlock ≠ v2.ownBlock) : v2.ownBlock = none ∨ v2.ownBlock ≠ v1.ownBlock := by
 rcases h with h | h
 · cases e : v2.ownBlock with
   | none => exact .inl rfl
   | some k => rw [h]; exact .inr (by simp)
 · exact .inr (Ne.symm h)
theorem apart_new {w : World} {b t n : Nat} {v v1 v' : Value} {x : List Value} (h : v.ownBlock = none ∨ v.ownBlock ≠ v1.ownBlock) (ho : w.ownsRow b t 1 v n x) (hat : v'.ownBlock = v1.ownBlock ∨ ∃ b, v'.ownBlock = some b ∧ w.heap.size ≤ b) : v.ownBlock = none ∨ v.ownBlock ≠ v'.ownBlock := by
 rcases hat with e | ⟨k, e, hk⟩
 · rw [e]; exact h
 · refine .inr fun e2 => ?_
   have := q0u ho k (by rw [e2, e])
   omega
structure Bk (w0 w : World) (v8 v9 v11 v13 v16 : Value) (h8 h9 : List Hdr) (m8 m9 : List (List Int)) (ls : List Int) (want : List ByteArray) (gone : List Int) : Prop where
 below : Below w0.heap.size w0 w
 o8 : w.ownsRow w0.heap.size 41 1 v8 h8.length (encs hdV h8)
 o9 : w.ownsRow w0.heap.size 41 1 v9 h9.length (encs hdV h9)
 r8 : Rows5 w h8 m8
 r9 : Rows5 w h9 m9
 o11 : w.ownsRow w0.heap.size 3 1 v11 ls.length (nums .i64 ls)
 o13 : w.ownsRow w0.heap.size 9 1 v13 want.length (encs Value.string want)
 o16 : w.ownsRow w0.heap.size 3 1 v16 gone.length (nums .i64 gone)
 n89 : v8.ownBlock = none ∨ v8.ownBlock ≠ v9.ownBlock
 n1116 : v11.ownBlock = none ∨ v11.ownBlock ≠ v16.ownBlock
section
variable {w0 w w' : World} {v8 v9 v11 v13 v16 v' : Value} {h8 h9 : List Hdr} {m8 m9 : List (List Int)} {ls : List Int} {want : List ByteArray} {gone : List Int}
end
section
variable {w0 w w' : World} {v8 v9 v11 v13 v16 v' : Value} {h8 h9 : List Hdr} {m8 m9 : List (List Int)} {ls : List Int} {want : List ByteArray} {gone : List Int} {g c n : Nat}
end
theorem row5_lit (w : World) (l : List Int) (fz : Nat × Nat) (hl : l.length ≤ 1000) : Row5 (w.alloc (.cells (nums .u8 l).toArray 5 fz)) (some ⟨w.heap.size, 0, none⟩, l.length, l.length) l := by
 refine ⟨rfl, Nat.le_refl _, by omega, fun _ => ⟨w.heap.size, 0, _, _, rfl, heap_alloc_new w _, fun x y hx => ?_⟩⟩
 rw [Nat.zero_add]
 unfold nums
 simp [hx]
def strs (m : List (List Int)) : List ByteArray := m.map strOfNums
theorem strs_length (m : List (List Int)) : (strs m).length = m.length := by unfold strs; rw [List.length_map]
theorem strs_snoc (m : List (List Int)) (r : List Int) : strs (m ++ [r]) = strs m ++ [strOfNums r] := by unfold strs; simp
structure Gst (rows m8 m9 : List (List Int)) (gone : List Int) (n p : Nat) : Prop where
 rn : m8.length = n
 pn : m9.length = p
 in8 : ∀ r ∈ m8, ∀ y ∈ r, In8 y
 in9 : ∀ r ∈ m9, ∀ y ∈ r, In8 y
 rng : ∀ s, s < gone.length → 0 ≤ gone.getD s 0 ∧ gone.getD s 0 < ((n + p : Nat) : Int)
 same : ∀ t, t < n → (∀ s, s < gone.length → (gone.getD s 0).toNat ≠ t) → m8.getD t [] = rows.getD t []
 sameM : ∀ t, t < p → (∀ s, s < gone.length → (gone.getD s 0).toNat ≠ n + t) → m9.getD t [] = q1s rows t
end Go.Proofs.Ytdhajlkiiphlfaa.Par
namespace Go.Proofs.Ytdhajlkiiphlfaa.Par
open Go.RowKit Go.Proofs.Ytdhajlkiiphlfaa.QB Go.Proofs.YtdhajlkiiphlfaaW.PrintWords Go.Proofs.YtdhajlkiiphlfaaW.PrintLast Go.Proofs.YtdhajlkiiphlfaaW.PrintMore Go.Proofs.Ytdhajlkiiphlfaa.Solve
theorem sc1 : (Value.string ⟨#[]⟩).cells.size = 1 := by kernel_rfl
theorem info9' : (Try.prog.info? 9).map (fun i => (i.zero, i.size, i.bytes)) = some (some (.string ⟨#[]⟩), 1, 16) := by kernel_rfl
theorem own_form {w : World} {base t n : Nat} {v : Value} {xs : List Value} (h : w.ownsRow base t 1 v n xs) : ∃ A c, v = .slice A n c := by
 rcases h.2 with ⟨e, hx⟩ | ⟨g, cap, cur, e, _, _, hn, _⟩
 · have hz : n = 0 := by have := h.1; rw [hx] at this; simp at this; omega
   rw [hz]; exact ⟨_, 0, e⟩
 · exact ⟨_, cap, e⟩
theorem own_some {w : World} {base t n m c : Nat} {A : Option Addr} {xs : List Value} (h : w.ownsRow base t 1 (.slice A n c) m xs) (hn : 0 < n) : ∃ g, A = some ⟨g, 0, none⟩ := by
 rcases h.2 with ⟨e, hx⟩ | ⟨g, cap, cur, e, _⟩
 · injection e with _ e _; omega
 · injection e with e _ _; exact ⟨g, e⟩
theorem head_cell {W : World} {base g n c : Nat} {hs : List Hdr} (h : W.ownsRow base 41 1 (.slice (some ⟨g, 0, none⟩) n c) hs.length (encs hdV hs)) (k : Nat) (hk : k < hs.length) : ∃ u, W.cell? ⟨g, k, none⟩ = some u ∧ W.frozen? ⟨g, k, none⟩ = false ∧ g < W.heap.size := by
 obtain ⟨cells, hh⟩ := q0b h g rfl
 have hn : n = hs.length := by
  rcases h.2 with ⟨e, _⟩ | ⟨g', cap, cur, e, r⟩
  · injection e with e; cases e
  · injection e with _ e _
 subst hn
 have := own_at_of (d := ((none, 0, 0) : Hdr)) h (k : Int) (by omega) (by omega)
 rw [Int.toNat_natCast] at this
 exact ⟨_, this.1, this.2, q0u h g rfl⟩
end Go.Proofs.Ytdhajlkiiphlfaa.Par
namespace Go.Proofs.Ytdhajlkiiphlfaa.Par
open Go.RowKit Go.Proofs.Ytdhajlkiiphlfaa.QB Go.Proofs.YtdhajlkiiphlfaaW.PrintWords Go.Proofs.YtdhajlkiiphlfaaW.PrintLast Go.Proofs.YtdhajlkiiphlfaaW.PrintMore Go.Proofs.Ytdhajlkiiphlfaa.Solve Math
end Go.Proofs.Ytdhajlkiiphlfaa.Par
namespace Go.Proofs.Ytdhajlkiiphlfaa.Par
open Go.RowKit Go.Proofs.Ytdhajlkiiphlfaa.QB Go.Proofs.YtdhajlkiiphlfaaW.PrintWords Go.Proofs.YtdhajlkiiphlfaaW.PrintLast Go.Proofs.YtdhajlkiiphlfaaW.PrintMore Go.Proofs.Ytdhajlkiiphlfaa.Solve
def four {α : Type} (a b c d : α) : Nat → α
 | 0 => a
 | 1 => b
 | 2 => c
 | _ => d
structure Sm (w0 w : World) (v10 v13 v14 v15 : Value) (h10 h13 h14 h15 : List Hdr) (a b s c : List (List Int)) : Prop where
 below : Below w0.heap.size w0 w
 o : ∀ i, i < 4 → w.ownsRow w0.heap.size 41 1 (four v10 v13 v14 v15 i) (four h10 h13 h14 h15 i).length (encs hdV (four h10 h13 h14 h15 i))
 r : ∀ i, i < 4 → Rows5 w (four h10 h13 h14 h15 i) (four a b s c i)
 ne : ∀ i j, i < 4 → j < 4 → i ≠ j → (four v10 v13 v14 v15 i).ownBlock = none ∨ (four v10 v13 v14 v15 i).ownBlock ≠ (four v10 v13 v14 v15 j).ownBlock
section
variable {w0 w w' : World} {v10 v13 v14 v15 v' : Value} {h10 h13 h14 h15 : List Hdr} {a b s c : List (List Int)}
end
end Go.Proofs.Ytdhajlkiiphlfaa.Par
namespace Go.Proofs.Ytdhajlkiiphlfaa.Par
open Go.RowKit Go.Lib Go.Proofs.Ytdhajlkiiphlfaa.QB Go.Proofs.YtdhajlkiiphlfaaW.PrintWords Go.Proofs.YtdhajlkiiphlfaaW.PrintLast Go.Proofs.YtdhajlkiiphlfaaW.PrintMore Go.Proofs.Ytdhajlkiiphlfaa.Solve
end Go.Proofs.Ytdhajlkiiphlfaa.Par
namespace Go.Proofs.Ytdhajlkiiphlfaa.Par
open Go.RowKit Go.Lib Go.Proofs.Ytdhajlkiiphlfaa.QB Go.Proofs.YtdhajlkiiphlfaaW.PrintWords Go.Proofs.YtdhajlkiiphlfaaW.PrintLast Go.Proofs.YtdhajlkiiphlfaaW.PrintMore Go.Proofs.Ytdhajlkiiphlfaa.Solve
end Go.Proofs.Ytdhajlkiiphlfaa.Par
namespace Go.Proofs.Ytdhajlkiiphlfaa.Par
open Go.RowKit Go.Proofs.Ytdhajlkiiphlfaa.QB Go.Proofs.YtdhajlkiiphlfaaW.PrintWords Go.Proofs.YtdhajlkiiphlfaaW.PrintLast Go.Proofs.YtdhajlkiiphlfaaW.PrintMore Go.Proofs.Ytdhajlkiiphlfaa.Solve
structure Fine (rows B Z C : List (List Int)) (k : Nat) : Prop where
 lb : B.length = rows.length
 lz : Z.length = rows.length
 lc : C.length = rows.length
 ib : ∀ r ∈ B, ∀ y ∈ r, In8 y
 iz : ∀ r ∈ Z, ∀ y ∈ r, In8 y
 ic : ∀ r ∈ C, ∀ y ∈ r, In8 y
 wb : q0f B = q0f rows
 wz : q0f Z = q0f rows
 wc : q0f C = if k < q0f rows then 1 else 0
 fb : ∀ r ∈ B, r.length ≤ 16777216
 fz : ∀ r ∈ Z, r.length ≤ 16777216
 fc : ∀ r ∈ C, r.length ≤ 16777216
 sum : ∀ i q, q < q0f rows → (q1s Z i).getD q 0 = xorZ ((q1s rows i).getD q 0) ((q1s B i).getD q 0)
 col : k < q0f rows → ∀ i, (q1s C i).getD 0 0 = (q1s rows i).getD k 0
end Go.Proofs.Ytdhajlkiiphlfaa.Par
namespace Go.Proofs.Ytdhajlkiiphlfaa.Par
open Go.RowKit Go.Proofs.Ytdhajlkiiphlfaa.QB Go.Proofs.YtdhajlkiiphlfaaW.PrintWords Go.Proofs.YtdhajlkiiphlfaaW.PrintLast Go.Proofs.YtdhajlkiiphlfaaW.PrintMore Go.Proofs.Ytdhajlkiiphlfaa.Solve
def NB (w : World) (base g c : Nat) (xs : List Int) : Prop := w.ownsRow base 3 1 (.slice (some ⟨g, 0, none⟩) xs.length c) xs.length (nums .i64 xs)
def q20 : List Int := [-71, -72, -73]
theorem make_cap3 (q : Nat) (hq : q ≤ 1000000000000) (W : World) : (Instr.makeSlice 30 (.int .i64 0) (.int .i64 (q : Int))).run Try.prog W = .ok (.slice (some ⟨W.heap.size, 0, none⟩) 0 q) (W.alloc (.cells (madeCells #[.int .i64 0] q) 3)) := by
 obtain ⟨i0, hi, hzz⟩ := Option.map_eq_some_iff.1 info3
 simp only [Prod.mk.injEq] at hzz
 obtain ⟨hz0, hz1, hz2⟩ := hzz
 have h := run_make (P := Try.prog) W 30 3 i0 (.int .i64 0) Try.underlying30 hi hz0 .i64 .i64 0 (q : Int) (by omega) (by omega) (by rw [hz2]; omega) (by omega)
 rw [h, hz1, Int.toNat_natCast, Nat.mul_one]
 rfl
theorem own_cap (W : World) (base : Nat) (q : Nat) (hb : base ≤ W.heap.size) (hq : q ≤ 1000000000000) :
    (W.alloc (.cells (madeCells #[.int .i64 0] q) 3)).ownsRow base 3 1 (.slice (some ⟨W.heap.size, 0, none⟩) 0 q) 0 (nums .i64 []) :=
 ⟨rfl, .inr ⟨W.heap.size, q, _, rfl, hb, heap_alloc_new W _, Nat.zero_le _, by unfold maxLen; omega, by rw [size_madeCells]; simp, by simp [nums]⟩⟩
theorem reads_lit (W : World) (xs : List Int) (hm : xs.length ≤ 1000000000000) : ReadsInt (W.alloc (.cells (nums .i64 xs).toArray 3)) .i64 (some ⟨W.heap.size, 0, none⟩) xs.length xs :=
 readsInt_of.2 (Kd.reads_of_C (Kd.R_reads' (R_of_own (own_lit W 0 3 .i64 xs (Nat.zero_le _) (by omega)))).2.2)
theorem numbers_form {w : World} {base : Nat} {v : Value} {l : List Int} (h : w.ownsRow base 3 1 v (l ++ q20).length (nums .i64 (l ++ q20))) : ∃ c g, v = .slice (some ⟨g, 0, none⟩) (l ++ q20).length c ∧ l.length + 3 ≤ c := by
 rcases h.2 with ⟨e, hx⟩ | ⟨g, cap, cur, e, _, _, hn, _⟩
 · simp [nums, q20] at hx
 · exact ⟨cap, g, e, by simpa [q20] using hn⟩
set_option maxHeartbeats 800000 in
set_option maxRecDepth 100000 in
theorem numbers_calls (A0 : Option Addr) (c0 : Nat) (l : List Int) (w : World) (hr0 : Kd.C (Kd.int .i64) w A0 l.length l) (hc0 : l.length ≤ c0) (hl : l.length ≤ 100000000000) :
    Calls Try.prog 42 #[.slice A0 l.length c0] w fun e w' => ∃ g c, e = .returned (.slice (some ⟨g, 0, none⟩) l.length c) ∧ NB w' w.heap.size g c (l ++ q20) ∧ Below w.heap.size w w' := by
 have HR0 := sqM hr0
 have HC0 := sqM hc0
 have HL := sqM hl
 have hw : wrap64 ((l.length : Int) + 3) = (l.length : Int) + 3 := by unfold wrap64; omega
 have hmk := make_cap3 (l.length + 3) (by omega)
 rw [show ((l.length + 3 : Nat) : Int) = (l.length : Int) + 3 by omega] at hmk
 have HBB := sqM (Below.refl w.heap.size w)
 clear hr0 hc0 hl
 go_enter Try.func42, Try.ntmps42
 go_wp2_with (first
  | ((with_reducible refine q05 (b := .append) (xs := #[.tmp 8, .tmp 9]) rfl ?_); at_builtin; refine print_append_row (w0 := w) w.heap.size rfl (.tmp 8) (.tmp 9) 30 3 .i64 8 rfl Try.underlying30 info3 (by decide) (.slice (some ⟨w.heap.size, 0, none⟩) 0 (l.length + 3)) [] l A0 l.length c0 rfl rfl ?q1 ?q2 ?q3 ?q4 ?q5 ?_; (case q1 => exact own_cap _ _ _ (Nat.le_refl _) (by have := HL.out; omega)); (case q2 => exact readsInt_of.2 (Kd.reads_of_C (Kd.C_alloc HR0.out _))); (case q3 => exact q02 HBB.out _); (case q4 => rw [size_alloc']; omega); (case q5 => have := HL.out; simp only [List.length_nil]; omega); rw [List.nil_append]; intro v1 w1 ho1 hb1 hg1 hat1; have HO1 := sqM ho1; have HB1 := sqM hb1; clear ho1 hb1 hg1 hat1)
  | ((with_reducible refine q05 (b := .append) (xs := #[.tmp 11, .tmp 12]) rfl ?_); at_builtin; refine print_append_row (w0 := w) w.heap.size rfl (.tmp 11) (.tmp 12) 30 3 .i64 8 rfl Try.underlying30 info3 (by decide) v1 l q20 (some ⟨w1.heap.size, 0, none⟩) 3 3 rfl rfl ?q1 ?q2 ?q3 ?q4 ?q5 ?_; (case q1 => exact HO1.out.alloc _); (case q2 => exact reads_lit w1 q20 (by decide)); (case q3 => exact q02 HB1.out _); (case q4 => rw [size_alloc']; have := HB1.out.size; omega); (case q5 => have := HL.out; omega); intro v2 w2 ho2 hb2 hg2 hat2; obtain ⟨c2, g2, rfl, hn2⟩ := numbers_form ho2; have HO2 := sqM ho2; have HB2 := sqM hb2; clear ho2 hb2 hg2 hat2; have hn3 : (l.length ≤ c2) = True := eq_true (by omega); have HN2 := sqM hn2; clear hn2))
 go_ret
 exact ⟨g2, c2, rfl, HO2.out, HB2.out⟩
structure StB (w0 w wr : World) (g c : Nat) (xs : List Int) : Prop where
 below : Below w0.heap.size w0 wr
 kept : Kept w wr (fun k => k = g)
 row : NB wr w0.heap.size g c xs
section
variable {w0 w wr : World} {g c : Nat} {xs : List Int}
theorem StB.base (h : StB w0 w wr g c xs) : w0.heap.size ≤ g := q0k h.row g rfl
theorem StB.put (h : StB w0 w wr g c xs) (i : Nat) (x : Int) : StB w0 w (wr.setCell ⟨g, i, none⟩ (.int .i64 x)) g c (xs.set i x) :=
 ⟨h.below.setCell h.base _, Kept.setCell (S := fun k => k = g) (p := ⟨g, i, none⟩) h.kept (.inl rfl) _, by
  have := (own_store (k := .i64) h.row (i : Int) x).1
  rw [Int.toNat_natCast] at this
  unfold NB
  rw [List.length_set]
  exact this⟩
theorem StB.drew (h : StB w0 w wr g c xs) (k : Nat) : StB w0 w (wr.drewN k) g c xs := ⟨q00 h.below _, h.kept.drewN _, q07 h.row (q00 (Below.refl _ _) _)⟩
theorem StB.cell (h : StB w0 w wr g c xs) {i : Nat} (hi : i < xs.length) : wr.cell? ⟨g, i, none⟩ = some (.int .i64 (xs.getD i 0)) ∧ wr.frozen? ⟨g, i, none⟩ = false := by
 have := own_at (k := .i64) h.row (i : Int) (by omega) (by omega)
 rw [Int.toNat_natCast, rd_nat] at this
 exact this
end
def stL (l : List Int) (i : Nat) : List Int := List.replicate i (-9) ++ (l.drop i ++ q20)
theorem stL_zero (l : List Int) : stL l 0 = l ++ q20 := rfl
theorem stL_length (l : List Int) (i : Nat) (hi : i ≤ l.length) : (stL l i).length = l.length + 3 := by unfold stL q20; simp; omega
theorem stL_get (l : List Int) {i : Nat} (hi : i < l.length) : (stL l i).getD i 0 = l.getD i 0 := by
 unfold stL
 rw [List.getD_eq_getElem?_getD, List.getElem?_append_right (by rw [List.length_replicate]; omega), List.length_replicate, Nat.sub_self, List.getElem?_append_left (by rw [List.length_drop]; omega), List.getElem?_drop, Nat.add_zero]
 rfl
theorem stL_set (l : List Int) {i : Nat} (hi : i < l.length) : (stL l i).set i (-9) = stL l (i + 1) := by
 unfold stL
 rw [List.set_append_right _ _ (by rw [List.length_replicate]; omega), List.length_replicate, Nat.sub_self, List.drop_eq_getElem_cons hi, List.cons_append, List.set_cons_zero, List.replicate_succ', List.append_assoc]; rfl
theorem stL_end (l : List Int) : stL l l.length = List.replicate l.length (-9) ++ q20 := by unfold stL; rw [List.drop_length]; rfl
theorem stL_mark (l : List Int) (k : Nat) : (l ++ q20).getD (l.length + k) 0 = q20.getD k 0 := by
 rw [List.getD_eq_getElem?_getD, List.getElem?_append_right (by omega), Nat.add_sub_cancel_left]; rfl
set_option maxHeartbeats 800000 in
set_option maxRecDepth 100000 in
theorem still_calls (g c : Nat) (A1 : Option Addr) (c1 : Nat) (l : List Int) (w0 w : World) (hB : Below w0.heap.size w0 w) (hn : NB w w0.heap.size g c (l ++ q20)) (hr1 : ∀ W, Kept w W (fun k => k = g) → Kd.C (Kd.int .i64) W A1 l.length l) (hc1 : l.length ≤ c1) (hl : l.length ≤ 100000000000) :
    Calls Try.prog 43 #[.slice (some ⟨g, 0, none⟩) l.length c, .slice A1 l.length c1] w fun e w' => e = .returned (.bool true) ∧ StB w0 w w' g c (List.replicate l.length (-9) ++ q20) := by
 have HR1 := sqM hr1
 have HC1 := sqM hc1
 have HL := sqM hl
 have h0 : StB w0 w w g c (stL l 0) := ⟨hB, Kept.refl _ _, hn⟩
 have hcc : l.length + 3 ≤ c := by
  have := own_le hn
  simpa [q20] using this
 have hx0 := (h0.cell (i := l.length) (by rw [stL_length l 0 (by omega)]; omega)).1
 have hx1 := (h0.cell (i := l.length + 1) (by rw [stL_length l 0 (by omega)]; omega)).1
 have hx2 := (h0.cell (i := l.length + 2) (by rw [stL_length l 0 (by omega)]; omega)).1
 rw [stL_zero] at hx0 hx1 hx2
 rw [show l.length = l.length + 0 from rfl, stL_mark l 0] at hx0
 rw [stL_mark l 1] at hx1
 rw [stL_mark l 2] at hx2
 rw [Nat.add_zero] at hx0
 simp only [q20, List.getD_cons_zero, List.getD_cons_succ] at hx0 hx1 hx2
 have hw3 : wrap64 ((l.length : Int) + 3) = (l.length : Int) + 3 := by unfold wrap64; omega
 have hw1 : wrap64 ((l.length : Int) + 1) = (l.length : Int) + 1 := by unfold wrap64; omega
 have hw2 : wrap64 ((l.length : Int) + 2) = (l.length : Int) + 2 := by unfold wrap64; omega
 have H0 := sqM h0
 clear hr1 hc1 hl h0 hB hn
 go_enter Try.func43, Try.ntmps43
 go_wp2
 clear hx0 hx1 hx2 hw1 hw2 hw3
 go_loopw [6, 7] (fun v6 v7 wr => ∃ i : Nat, i ≤ l.length ∧ v6 = .bool true ∧ v7 = .int .i64 (i : Int) ∧ Aside0 (StB w0 w wr g c (stL l i))) (fun _ v7 _ => l.length - (intOf v7).toNat)
 case atStart => exact ⟨0, Nat.zero_le _, rfl, rfl, H0⟩
 case round =>
  obtain ⟨i, hi, rfl, rfl, HS⟩ := hrel
  by_cases hlt : i < l.length
  ·
   have HLT := sqM hlt
   have hd : decide ((i : Int) < (l.length : Int)) = true := decide_eq_true (by omega)
   have hd' : decide (i < l.length) = true := decide_eq_true hlt
   have hd2 : (i < l.length) = True := eq_true hlt
   have HW1 := sqM (wr1 (i := i) hlt (by have := HL.out; omega))
   obtain ⟨hx, hf⟩ := HS.out.cell (i := i) (by rw [stL_length l i hi]; omega)
   rw [stL_get l hlt] at hx
   obtain ⟨ad, e, hy⟩ := Kd.at_int (HR1.out _ HS.out.kept) (i : Int) (by omega) (by omega)
   cases e
   rw [Int.toNat_natCast, rd_nat] at hy
   have HQ : Aside0 (∀ nq, StB w0 w ((wr.drewN nq).setCell ⟨g, i, none⟩ (.int .i64 (-9))) g c (stL l (i + 1))) := ⟨fun nq => by
    have := (HS.out.drew nq).put i (-9)
    rw [stL_set l hlt] at this
    exact this⟩
   generalize l.getD i 0 = z at hx hy
   clear hlt hi
   go_wp2
   go_quiet (fail)
   go_wp2
   go_roundw
   case rel => exact ⟨i + 1, HLT.out, rfl, by rw [HW1.out], ⟨HQ.out _⟩⟩
   case measure => exact meas HW1.out HLT.out
  · obtain rfl : i = l.length := by omega
    have HE : Aside0 (StB w0 w wr g c (List.replicate l.length (-9) ++ q20)) := ⟨by rw [← stL_end]; exact HS.out⟩
    go_wp2
    go_ret
    exact ⟨rfl, HE.out⟩
def marks9 : List Int := [57, 56, 55, 54, 53, 52, 51, 50, 49]
def nine : ByteArray := ⟨#[57, 56, 55, 54, 53, 52, 51, 50, 49]⟩
def LR (w : World) (g c : Nat) (xs : List Int) : Prop := ∃ cells : Array Value, w.heap[g]? = some (.cells cells 5 (cells.size, cells.size + 1)) ∧ cells.size = c ∧ xs.length ≤ c ∧ ∀ (x : Nat) y, xs[x]? = some y → cells[x]? = some (.int .u8 y)
theorem LR.same {w w' : World} {g c : Nat} {xs : List Int} (h : LR w g c xs) (hs : Same5 w w') : LR w' g c xs := by
 obtain ⟨cells, h1, h2⟩ := h
 exact ⟨cells, hs _ _ _ h1, h2⟩
theorem LR.blk {w w' : World} {g c : Nat} {xs : List Int} (h : LR w g c xs) (hs : w'.heap[g]? = w.heap[g]?) : LR w' g c xs := by
 obtain ⟨cells, h1, h2⟩ := h
 exact ⟨cells, hs.trans h1, h2⟩
theorem LR.cap {w : World} {g c : Nat} {xs : List Int} (h : LR w g c xs) : xs.length ≤ c := by
 obtain ⟨cells, h1, h2, h3, _⟩ := h
 exact h3
theorem LR.lt {w : World} {g c : Nat} {xs : List Int} (h : LR w g c xs) : g < w.heap.size := by
 obtain ⟨cells, h1, _⟩ := h
 exact q0l h1
theorem blk_set_fz {w : World} {g : Nat} {t : TypeId} {cs : Array Value} {fz : Nat × Nat} (h : w.heap[g]? = some (.cells cs t fz)) (i : Nat) (u : Value) : (w.setCell ⟨g, i, none⟩ u).heap[g]? = some (.cells (cs.setIfInBounds i u) t fz) := by
 simp [World.setCell, Array.getElem?_modify, h]
theorem LR.put {w : World} {g c : Nat} {xs : List Int} (h : LR w g c xs) {k : Nat} (hk : k < xs.length) (v : Int) : LR (w.setCell ⟨g, k, none⟩ (.int .u8 v)) g c (xs.set k v) := by
 obtain ⟨cells, h1, h2, h3, h4⟩ := h
 refine ⟨cells.setIfInBounds k (.int .u8 v), ?_, by rw [Array.size_setIfInBounds]; exact h2, by rw [List.length_set]; exact h3, fun x y hx => ?_⟩
 · rw [blk_set_fz h1, Array.size_setIfInBounds]
 ·
  rw [Array.getElem?_setIfInBounds]
  by_cases e : k = x
  · subst e
    rw [List.getElem?_set_self hk] at hx
    obtain rfl := Option.some.inj hx
    rw [if_pos rfl, if_pos (by omega)]
  · rw [List.getElem?_set_ne e] at hx
    rw [if_neg e]
    exact h4 x y hx
theorem LR.cell {w : World} {g c : Nat} {xs : List Int} (h : LR w g c xs) {k : Nat} (hk : k < xs.length) : w.cell? ⟨g, k, none⟩ = some (.int .u8 (xs.getD k 0)) ∧ w.frozen? ⟨g, k, none⟩ = false := by
 obtain ⟨cells, h1, h2, h3, h4⟩ := h
 refine ⟨by rw [cell_of_row w g k cells 5 _ h1]; exact h4 k _ (getD_get hk), ?_⟩
 simp [World.frozen?, h1]
 omega
theorem LR.row5 {w : World} {g c : Nat} {xs : List Int} (h : LR w g c xs) (hl : xs.length ≤ 281474976710656) : Row5 w (some ⟨g, 0, none⟩, xs.length, c) xs := by
 obtain ⟨cells, h1, h2, h3, h4⟩ := h
 exact ⟨rfl, h3, hl, fun _ => ⟨g, 0, cells, _, rfl, h1, fun x y hx => by rw [Nat.zero_add]; exact h4 x y hx⟩⟩
theorem LR.front {w : World} {g c : Nat} {xs ys : List Int} (h : LR w g c (xs ++ ys)) : LR w g c xs := by
 obtain ⟨cells, h1, h2, h3, h4⟩ := h
 rw [List.length_append] at h3
 exact ⟨cells, h1, h2, by omega, fun x y hx => h4 x y (by rw [List.getElem?_append_left (List.getElem?_eq_some_iff.1 hx).1]; exact hx)⟩
theorem LR.conv (w : World) (s : ByteArray) (hs : s.size ≤ 1000000000000) : LR (Lib.bytesWorld w 5 s) w.heap.size (grownCap w s.size 0 5) (q0e s) := by
 have hg := grownCap_ge w s.size 0 5
 refine ⟨_, Lib.bytesWorld_at_new w 5 s, ?_, by rw [q25]; exact hg, fun x y hx => ?_⟩
 · unfold Lib.bytesCells
   rw [Array.size_append, Array.size_map, Array.size_replicate]
   have : s.data.size = s.size := rfl
   omega
 ·
  have hxl := (List.getElem?_eq_some_iff.1 hx).1
  rw [q25] at hxl
  have h := Lib.bytesWorld_cell w 5 s x hxl
  rw [cell_of_row _ _ _ _ _ _ (Lib.bytesWorld_at_new w 5 s)] at h
  rw [h]
  have h2 : (q0e s)[x]? = some ((s.data.toList.getD x 0).toNat : Int) := by
   unfold q0e
   rw [List.getElem?_map, List.getElem?_eq_getElem (by rw [data_length]; exact hxl), List.getD_eq_getElem?_getD, List.getElem?_eq_getElem (by rw [data_length]; exact hxl)]; rfl
  rw [h2] at hx
  rw [Option.some.inj hx]
abbrev Gd := Nat × Nat × Nat
def hO (x : Gd) : Hdr := (some ⟨x.1, 0, none⟩, x.2.1 + 9, x.2.2)
def hR (x : Gd) : Hdr := (some ⟨x.1, 0, none⟩, x.2.1, x.2.2)
def fullB (s : ByteArray) : List Int := q0e s ++ marks9
theorem bytesOf_nine (s : ByteArray) : q0e (s ++ nine) = fullB s := by
 unfold fullB q0e nine marks9
 rw [ByteArray.data_append, Array.toList_append, List.map_append]
 rfl
structure Gs (w : World) (base : Nat) (gs : List Gd) (cs : List (List Int)) : Prop where
 len : gs.length = cs.length
 low : ∀ x ∈ gs, base ≤ x.1
 row : ∀ (i : Nat) x r, gs[i]? = some x → cs[i]? = some r → LR w x.1 x.2.2 r
 ap : ∀ (i j : Nat) x y, gs[i]? = some x → gs[j]? = some y → i ≠ j → x.1 ≠ y.1
section
variable {w0 w w' : World} {base : Nat} {gs : List Gd} {cs : List (List Int)}
theorem Gs.nil (w : World) (base : Nat) : Gs w base [] [] := ⟨rfl, fun _ h => (nomatch h), fun i x r h => by simp at h, fun i j x y h => by simp at h⟩
theorem Gs.same (h : Gs w base gs cs) (hs : Same5 w w') : Gs w' base gs cs := ⟨h.len, h.low, fun i x r a b => (h.row i x r a b).same hs, h.ap⟩
theorem Gs.snoc (h : Gs w base gs cs) {x : Gd} {r : List Int} (hx : base ≤ x.1) (hr : LR w x.1 x.2.2 r) (hne : ∀ y ∈ gs, y.1 ≠ x.1) : Gs w base (gs ++ [x]) (cs ++ [r]) := by
 refine ⟨by rw [List.length_append, List.length_append, h.len]; rfl, fun y hy => ?_, fun i y s a b => ?_, fun i j y z a b hij => ?_⟩
 · rcases List.mem_append.1 hy with hy | hy
   · exact h.low y hy
   · rw [List.mem_singleton.1 hy]; exact hx
 ·
  by_cases hi : i < gs.length
  · rw [List.getElem?_append_left hi] at a
    rw [List.getElem?_append_left (by rw [← h.len]; exact hi)] at b
    exact h.row i y s a b
  ·
   rw [List.getElem?_append_right (by omega)] at a
   rw [List.getElem?_append_right (by rw [← h.len]; omega), ← h.len] at b
   have : i - gs.length = 0 := by
    have := (List.getElem?_eq_some_iff.1 a).1
    simp at this; omega
   rw [this] at a b
   simp only [List.getElem?_cons_zero, Option.some.injEq] at a b
   subst a; subst b
   exact hr
 ·
  have hi := (List.getElem?_eq_some_iff.1 a).1
  have hj := (List.getElem?_eq_some_iff.1 b).1
  rw [List.length_append, List.length_singleton] at hi hj
  by_cases h1 : i < gs.length
  ·
   rw [List.getElem?_append_left h1] at a
   by_cases h2 : j < gs.length
   · rw [List.getElem?_append_left h2] at b
     exact h.ap i j y z a b hij
   · rw [List.getElem?_append_right (by omega), show j - gs.length = 0 by omega] at b
     obtain rfl := Option.some.inj b
     exact hne y (List.mem_of_getElem? a)
  · rw [List.getElem?_append_right (by omega), show i - gs.length = 0 by omega] at a
    obtain rfl := Option.some.inj a
    rw [List.getElem?_append_left (by omega)] at b
    exact Ne.symm (hne z (List.mem_of_getElem? b))
theorem Gs.put (h : Gs w base gs cs) {i k : Nat} {x : Gd} {r : List Int} (hx : gs[i]? = some x) (hr : cs[i]? = some r) (hk : k < r.length) (v : Int) : Gs (w.setCell ⟨x.1, k, none⟩ (.int .u8 v)) base gs (cs.set i (r.set k v)) := by
 refine ⟨by rw [List.length_set]; exact h.len, h.low, fun j y s a b => ?_, h.ap⟩
 by_cases e : i = j
 ·
  subst e
  rw [List.getElem?_set_self (List.getElem?_eq_some_iff.1 hr).1] at b
  obtain rfl := Option.some.inj b
  rw [hx] at a
  obtain rfl := Option.some.inj a
  exact (h.row i x r hx hr).put hk v
 · rw [List.getElem?_set_ne e] at b
   exact (h.row j y s a b).blk (Below.heap_setCell w ⟨x.1, k, none⟩ _ _ (h.ap j i y x a hx (Ne.symm e)))
end
structure Ln (w0 w : World) (vr vo : Value) (gs : List Gd) (ls : List ByteArray) : Prop where
 below : Below w0.heap.size w0 w
 rows : Gs w w0.heap.size gs (ls.map fullB)
 sz : ∀ (i : Nat) x s, gs[i]? = some x → ls[i]? = some s → x.2.1 = s.size
 hr : w.ownsRow w0.heap.size 41 1 vr (gs.map hR).length (encs hdV (gs.map hR))
 ho : w.ownsRow w0.heap.size 41 1 vo (gs.map hO).length (encs hdV (gs.map hO))
 ne : vr.ownBlock = none ∨ vr.ownBlock ≠ vo.ownBlock
theorem make_cap35 (q : Nat) (hq : q ≤ 1000000000000) (W : World) : (Instr.makeSlice 35 (.int .i64 0) (.int .i64 (q : Int))).run Try.prog W = .ok (.slice (some ⟨W.heap.size, 0, none⟩) 0 q) (W.alloc (.cells (madeCells #[.slice none 0 0] q) 41)) := by
 obtain ⟨i0, hi, hzz⟩ := Option.map_eq_some_iff.1 info41'
 simp only [Prod.mk.injEq] at hzz
 obtain ⟨hz0, hz1, hz2⟩ := hzz
 have h := run_make (P := Try.prog) W 35 41 i0 (.slice none 0 0) Try.underlying35 hi hz0 .i64 .i64 0 (q : Int) (by omega) (by omega) (by rw [hz2]; omega) (by omega)
 rw [h, hz1, Int.toNat_natCast, Nat.mul_one]
 rfl
def Box (w : World) (g : Nat) (a b : Value) : Prop := w.heap[g]? = some (.cells #[a, b] 79 (0, 0))
theorem Box.below {w w' : World} {g : Nat} {a b : Value} (h : Box w g a b) (hb : Below w.heap.size w w') : Box w' g a b := (hb.block g (q0l h)).trans h
theorem Box.grown {w w' : World} {g base n : Nat} {a b v : Value} {xs : List Value} (h : Box w g a b) (ho : w.ownsRow base 41 1 v n xs) (hg : w.grownBy w' v.ownBlock) : Box w' g a b :=
 (hg.block g (q0l h) fun e => by
  obtain ⟨c, hc⟩ := q0b ho g e.symm
  have h' : w.heap[g]? = some (.cells #[a, b] 79 (0, 0)) := h
  rw [h'] at hc
  injection hc with hc
  injection hc with _ hc
  exact absurd hc (by decide)).trans h
theorem Box.cell0 {w : World} {g : Nat} {a b : Value} (h : Box w g a b) : w.cell? ⟨g, 0, none⟩ = some a := q0h h 0
theorem Box.cell1 {w : World} {g : Nat} {a b : Value} (h : Box w g a b) : w.cell? ⟨g, 1, none⟩ = some b := q0h h 1
theorem Box.fz {w : World} {g : Nat} {a b : Value} (h : Box w g a b) (i : Nat) : w.frozen? ⟨g, i, none⟩ = false := q1q h i
theorem lent_form {w : World} {base n : Nat} {v : Value} {hs : List Hdr} {hb : Hdr} (hn : hs.length = n) (h : w.ownsRow base 41 1 v (hs ++ [hb]).length (encs hdV (hs ++ [hb]))) : ∃ c g, v = .slice (some ⟨g, 0, none⟩) (n + 1) c ∧ n + 1 ≤ c := by
 subst hn
 rcases h.2 with ⟨e, hx⟩ | ⟨g, cap, cur, e, _, _, hn, _⟩
 · simp [encs] at hx
 · rw [List.length_append, List.length_singleton] at e hn
   exact ⟨cap, g, e, hn⟩
section
variable {w0 wr w1 w2 : World} {vr vo vr1 vo1 : Value} {gs : List Gd} {ls : List ByteArray} {s : ByteArray}
theorem Ln.base (h : Ln w0 wr vr vo gs ls) : w0.heap.size ≤ wr.heap.size := h.below.size
theorem Ln.len (h : Ln w0 wr vr vo gs ls) : gs.length = ls.length := by rw [h.rows.len, List.length_map]
theorem Ln.moved (h : Ln w0 wr vr vo gs ls) (hb : Below wr.heap.size wr w1) : Ln w0 w1 vr vo gs ls :=
 ⟨q03 h.below h.base hb, h.rows.same (Same5.of_below hb), h.sz, q07 h.hr hb, q07 h.ho hb, h.ne⟩
theorem q2a (W : World) (s : ByteArray) : Below W.heap.size W (Lib.bytesWorld W 5 s) := bytes_below (Below.refl _ _) (Nat.le_refl _) 5 s
def gOf (W : World) (s : ByteArray) : Gd := (W.heap.size, s.size, grownCap W (s.size + 9) 0 5)
theorem nine_size (s : ByteArray) : (s ++ nine).size = s.size + 9 := by rw [ByteArray.size_append]; rfl
theorem Ln.first (h : Ln w0 wr vr vo gs ls) (g1 : (Lib.bytesWorld wr 5 (s ++ nine)).grownBy w1 vr.ownBlock) : w1.ownsRow w0.heap.size 41 1 vo (gs.map hO).length (encs hdV (gs.map hO)) :=
 (q07 h.ho (q2a wr _)).kept g1 (apart_symm h.ne)
theorem Ln.step (h : Ln w0 wr vr vo gs ls) (hs : s.size ≤ 100000000000)
    (o1 : w1.ownsRow w0.heap.size 41 1 vr1 (gs.map hR ++ [hR (gOf wr s)]).length (encs hdV (gs.map hR ++ [hR (gOf wr s)]))) (b1 : Below w0.heap.size w0 w1) (g1 : (Lib.bytesWorld wr 5 (s ++ nine)).grownBy w1 vr.ownBlock) (a1 : vr1.ownBlock = vr.ownBlock ∨ ∃ b, vr1.ownBlock = some b ∧ (Lib.bytesWorld wr 5 (s ++ nine)).heap.size ≤ b)
    (o2 : w2.ownsRow w0.heap.size 41 1 vo1 (gs.map hO ++ [hO (gOf wr s)]).length (encs hdV (gs.map hO ++ [hO (gOf wr s)]))) (b2 : Below w0.heap.size w0 w2) (g2 : w1.grownBy w2 vo.ownBlock) (a2 : vo1.ownBlock = vo.ownBlock ∨ ∃ b, vo1.ownBlock = some b ∧ w1.heap.size ≤ b) :
    Ln w0 w2 vr1 vo1 (gs ++ [gOf wr s]) (ls ++ [s]) := by
 have hb := q2a wr (s ++ nine)
 have hmid := h.moved hb
 have ho1 := h.first g1
 have s1 : Same5 (Lib.bytesWorld wr 5 (s ++ nine)) w1 := Same5.of_grown g1 (fun k c f hk => ne5 (by decide) hmid.hr hk)
 have s2 : Same5 w1 w2 := Same5.of_grown g2 (fun k c f hk => ne5 (by decide) ho1 hk)
 have hne1 : vo.ownBlock = none ∨ vo.ownBlock ≠ vr1.ownBlock := apart_new (apart_symm h.ne) hmid.ho a1
 have hne2 : vr1.ownBlock = none ∨ vr1.ownBlock ≠ vo1.ownBlock := apart_new (apart_symm hne1) o1 a2
 refine ⟨b2, ?_, fun i x t hx ht => ?_, ?_, ?_, hne2⟩
 ·
  rw [List.map_append]
  refine (hmid.rows.same (s1.trans s2)).snoc h.base ?_ (fun y hy => ?_)
  · have := (LR.conv wr (s ++ nine) (by rw [nine_size]; omega)).same (s1.trans s2)
    rw [bytesOf_nine, nine_size] at this
    exact this
  · obtain ⟨i, hi, rfl⟩ := List.getElem_of_mem hy
    have := (h.rows.row i _ _ (List.getElem?_eq_getElem hi) (List.getElem?_eq_getElem (by rw [← h.rows.len]; exact hi))).lt
    exact Nat.ne_of_lt this
 ·
  have hl := h.len
  by_cases hi : i < gs.length
  · rw [List.getElem?_append_left hi] at hx
    rw [List.getElem?_append_left (by omega)] at ht
    exact h.sz i x t hx ht
  ·
   have h1 := (List.getElem?_eq_some_iff.1 hx).1
   rw [List.length_append, List.length_singleton] at h1
   rw [List.getElem?_append_right (by omega), show i - gs.length = 0 by omega] at hx
   rw [List.getElem?_append_right (by omega), show i - ls.length = 0 by omega] at ht
   obtain rfl := Option.some.inj hx
   obtain rfl := Option.some.inj ht
   rfl
 · have := o1.kept g2 (apart_symm hne1)
   rw [List.map_append]; exact this
 · rw [List.map_append]; exact o2
end
def behindL : List Int := [98, 101, 104, 105, 110, 100]
structure Lt (w0 w : World) (g c : Nat) (Ao : Option Addr) (co : Nat) (gs : List Gd) (hb : Hdr) (ls : List ByteArray) (cs : List (List Int)) : Prop where
 below : Below w0.heap.size w0 w
 rows : Gs w w0.heap.size gs cs
 len : gs.length = ls.length
 sz : ∀ (i : Nat) x s, gs[i]? = some x → ls[i]? = some s → x.2.1 = s.size
 cap : ls.length + 1 ≤ c
 hr : w.ownsRow w0.heap.size 41 1 (.slice (some ⟨g, 0, none⟩) (ls.length + 1) c) (gs.map hR ++ [hb]).length (encs hdV (gs.map hR ++ [hb]))
 ho : w.ownsRow w0.heap.size 41 1 (.slice Ao ls.length co) (gs.map hO).length (encs hdV (gs.map hO))
theorem Lt.base {w0 w : World} {g c : Nat} {Ao : Option Addr} {co : Nat} {gs : List Gd} {hb : Hdr} {ls : List ByteArray} {cs : List (List Int)} (h : Lt w0 w g c Ao co gs hb ls cs) : w0.heap.size ≤ w.heap.size := h.below.size
theorem Lt.other {w0 w : World} {g c : Nat} {Ao : Option Addr} {co : Nat} {gs : List Gd} {hb : Hdr} {ls : List ByteArray} {cs : List (List Int)} (h : Lt w0 w g c Ao co gs hb ls cs) {k t : Nat} {cells : Array Value} (hk : w.heap[k]? = some (.cells cells t (0, 0))) (h5 : t ≠ 5) (h41 : t ≠ 41) (hkb : w0.heap.size ≤ k) (i : Nat) (u : Value) : Lt w0 (w.setCell ⟨k, i, none⟩ u) g c Ao co gs hb ls cs := by
 have hs : Same5 w (w.setCell ⟨k, i, none⟩ u) := Same5.set hk h5 i u
 have hm : ∀ {v : Value} {n : Nat} {xs : List Value}, w.ownsRow w0.heap.size 41 1 v n xs → (w.setCell ⟨k, i, none⟩ u).ownsRow w0.heap.size 41 1 v n xs := fun ho => q0t ho fun j hj => Below.heap_setCell w ⟨k, i, none⟩ u j fun e => by
  have e2 : j = k := e
  obtain ⟨c2, hc2⟩ := q0b ho j hj
  rw [e2, hk] at hc2
  injection hc2 with hc2
  injection hc2 with _ hc2
  exact h41 hc2
 exact ⟨h.below.setCell hkb _, h.rows.same hs, h.len, h.sz, h.cap, hm h.hr, hm h.ho⟩
theorem Lt.put0 {w0 w : World} {g c : Nat} {Ao : Option Addr} {co : Nat} {gs : List Gd} {hb : Hdr} {ls : List ByteArray} {cs : List (List Int)} {k : Nat} {a b : Value} (h : Lt w0 w g c Ao co gs hb ls cs) (hx : w.heap[k]? = some (.cells #[a, b] 79 (0, 0))) (u : Value) (hk : w0.heap.size ≤ k := by exact Nat.le_refl _) : Lt w0 (w.setCell ⟨k, 0, none⟩ u) g c Ao co gs hb ls cs := h.other hx (by decide) (by decide) hk 0 u
theorem Lt.put1 {w0 w : World} {g c : Nat} {Ao : Option Addr} {co : Nat} {gs : List Gd} {hb : Hdr} {ls : List ByteArray} {cs : List (List Int)} {k : Nat} {cells : Array Value} (h : Lt w0 w g c Ao co gs hb ls cs) (hx : w.heap[k]? = some (.cells cells 79 (0, 0))) (u : Value) (hk : w0.heap.size ≤ k := by exact Nat.le_refl _) : Lt w0 (w.setCell ⟨k, 1, none⟩ u) g c Ao co gs hb ls cs := h.other hx (by decide) (by decide) hk 1 u
theorem Ln.last {w0 wr w1 : World} {vr : Value} {Ao : Option Addr} {co g1 c1 : Nat} {gs : List Gd} {l : List ByteArray} {o : Obj} (h : Ln w0 wr vr (.slice Ao l.length co) gs l) (hl : gs.length = l.length) (hb : Below wr.heap.size wr (wr.alloc o))
    (hk : (wr.alloc o).heap[wr.heap.size]? = some (.cells #[.int .u8 98, .int .u8 101, .int .u8 104, .int .u8 105, .int .u8 110, .int .u8 100] 5 (6, 7))) (hn1 : l.length + 1 ≤ c1)
    (o1 : w1.ownsRow w0.heap.size 41 1 (.slice (some ⟨g1, 0, none⟩) (l.length + 1) c1) (gs.map hR ++ [((some (⟨wr.heap.size, 0, none⟩ : Addr), 6, 6) : Hdr)]).length (encs hdV (gs.map hR ++ [((some (⟨wr.heap.size, 0, none⟩ : Addr), 6, 6) : Hdr)]))) (b1 : Below w0.heap.size w0 w1) (g : (wr.alloc o).grownBy w1 vr.ownBlock) :
    Lt w0 w1 g1 c1 Ao co gs (some ⟨wr.heap.size, 0, none⟩, 6, 6) l (l.map fullB) ∧ Row5 w1 (some ⟨wr.heap.size, 0, none⟩, 6, 6) behindL := by
 have hm := h.moved hb
 have hs : Same5 (wr.alloc o) w1 := Same5.of_grown g (fun k c f hk => ne5 (by decide) hm.hr hk)
 refine ⟨⟨b1, hm.rows.same hs, hl, h.sz, hn1, o1, hm.ho.kept g (apart_symm h.ne)⟩, ?_⟩
 ·
  have hr : Row5 (wr.alloc o) (some ⟨wr.heap.size, 0, none⟩, 6, 6) behindL := ⟨rfl, Nat.le_refl 6, (by decide : 6 ≤ 281474976710656), fun _ => ⟨wr.heap.size, 0, _, _, rfl, hk, fun x y hx => by
   rw [Nat.zero_add]
   match x, hx with
   | 0, hx => obtain rfl := Option.some.inj hx; rfl
   | 1, hx => obtain rfl := Option.some.inj hx; rfl
   | 2, hx => obtain rfl := Option.some.inj hx; rfl
   | 3, hx => obtain rfl := Option.some.inj hx; rfl
   | 4, hx => obtain rfl := Option.some.inj hx; rfl
   | 5, hx => obtain rfl := Option.some.inj hx; rfl
   | x + 6, hx => simp [behindL] at hx⟩⟩
  exact hr.move hs
set_option maxHeartbeats 800000 in
set_option maxRecDepth 100000 in
theorem lent_calls (A0 : Option Addr) (c0 : Nat) (l : List ByteArray) (w : World) (hr0 : Kd.C Kd.string w A0 l.length l) (hl : l.length ≤ 100000000000) (hs : ∀ s ∈ l, s.size ≤ 100000000000) :
    Calls Try.prog 37 #[.slice A0 l.length c0] w fun e w' => ∃ g c Ao co gs hb, e = .returned (.agg #[.slice (some ⟨g, 0, none⟩) l.length c, .slice Ao l.length co]) ∧ Lt w w' g c Ao co gs hb l (l.map fullB) ∧ Row5 w' hb behindL ∧ ∃ k, hb.1 = some ⟨k, 0, none⟩ ∧ w.heap.size ≤ k := by
 have HR0 := sqM hr0
 have HL := sqM hl
 have HS := sqM hs
 have hw : wrap64 ((l.length : Int) + 1) = (l.length : Int) + 1 := by unfold wrap64; omega
 have hmk := make_cap35 (l.length + 1) (by omega)
 rw [show ((l.length + 1 : Nat) : Int) = (l.length : Int) + 1 by omega] at hmk
 clear hr0 hl hs
 go_enter Try.func37, Try.ntmps37
 go_wp2
 clear hw hmk
 go_loopw [3, 4, 5] (fun v3 v4 v5 wr => ∃ (i : Nat) (gs : List Gd) (vr vo : Value), i ≤ l.length ∧ vr = v3 ∧ vo = v4 ∧ v5 = .int .i64 (i : Int) ∧ Aside0 (Ln w wr vr vo gs (l.take i)) ∧ Aside0 (Box wr w.heap.size (.slice none 0 0) (.slice none 0 0))) (fun _ _ v5 _ => l.length - (intOf v5).toNat)
 case atStart => exact ⟨0, [], _, _, Nat.zero_le _, rfl, rfl, rfl, ⟨⟨q02 (q02 (Below.refl _ _) _) _, Gs.nil _ _, fun i x s h => by simp at h, ⟨rfl, .inr ⟨w.heap.size + 1, l.length + 1, _, rfl, Nat.le_succ _, by rw [← size_alloc']; exact heap_alloc_new _ _, Nat.zero_le _, by have := HL.out; unfold maxLen; omega, by rw [size_madeCells]; simp, by simp [encs]⟩⟩, ⟨rfl, .inl ⟨rfl, rfl⟩⟩, .inr (by simp [Value.ownBlock])⟩⟩, ⟨Box.below (q0z w _) (q02 (Below.refl _ _) _)⟩⟩
 case round =>
  obtain ⟨i, gs, vr, vo, hi, rfl, rfl, rfl, HN, HX⟩ := hrel
  by_cases hlt : i < l.length
  ·
   have HLT := sqM hlt
   have hd : decide ((i : Int) < (l.length : Int)) = true := decide_eq_true (by omega)
   have hd' : decide (i < l.length) = true := decide_eq_true hlt
   have hd2 : (i < l.length) = True := eq_true hlt
   have HW1 := sqM (wr1 (i := i) hlt (by have := HL.out; omega))
   obtain ⟨ad, rfl, hc⟩ := Kd.at_string HR0.out (i : Int) (by omega) (by omega)
   rw [Int.toNat_natCast] at hc
   replace hc := (HN.out.below.cell (World.block_lt_of_cell? w _ hc)).trans hc
   have hrd : rdOf ByteArray.empty l (i : Int) = l[i] := by unfold rdOf; rw [Int.toNat_natCast, List.getD_eq_getElem?_getD, List.getElem?_eq_getElem hlt]; rfl
   rw [hrd] at hc
   have HTK := sqM (take_one l hlt)
   have HSI := sqM (HS.out _ (List.getElem_mem hlt))
   generalize l[i] = s at hc HTK HSI
   have hc1 : (Lib.bytesWorld wr 5 (s ++ ⟨#[57, 56, 55, 54, 53, 52, 51, 50, 49]⟩)).cell? (ad.add i) = some (.string s) := q0c (q2a wr (s ++ nine)) hc
   have hbig : (9223372036854775807 < s.size + 9) = False := eq_false (by have := HSI.out; omega)
   have hcap : (s.size ≤ grownCap wr (s.size + 9) 0 5) = True := eq_true (Nat.le_trans (by omega) (grownCap_ge wr (s.size + 9) 0 5))
   have HLE : Aside0 (gs.length ≤ 100000000000) := ⟨by rw [HN.out.len, List.length_take]; have := HL.out; omega⟩
   have kb := fun (x : ByteArray) (W : World) => print_bytes (P := Try.prog) 9 41 5 Try.underlying9 Try.underlying41 Try.underlying5 x W
   clear hlt hi hrd
   go_wp2_with (first
    | ((with_reducible refine q05 (b := .append) (xs := #[.tmp 23, .tmp 31]) rfl ?_); at_builtin; refine q12 (w0 := w) hdV w.heap.size rfl (.tmp 23) (.tmp 31) 35 41 (.slice none 0 0) 24 rfl Try.underlying35 info41' rfl (by decide) vr (gs.map hR) (hR (gOf wr s)) rfl rfl rfl ?q1 ?q2 ?q3 ?q4 ?_; (case q1 => exact q07 HN.out.hr (q2a wr (s ++ nine))); (case q2 => exact q03 HN.out.below HN.out.base (q2a wr (s ++ nine))); (case q3 => exact Nat.le_trans HN.out.base (q2a wr (s ++ nine)).size); (case q4 => have := HLE.out; rw [List.length_map]; omega); intro v1 w1 ho1 hb1 hg1 hat1; have HO1 := sqM ho1; have HB1 := sqM hb1; have HG1 := sqM hg1; have HA1 := sqM hat1; clear ho1 hb1 hg1 hat1)
    | ((with_reducible refine q05 (b := .append) (xs := #[.tmp 33, .tmp 35]) rfl ?_); at_builtin; refine q12 (w0 := w) hdV w.heap.size rfl (.tmp 33) (.tmp 35) 35 41 (.slice none 0 0) 24 rfl Try.underlying35 info41' rfl (by decide) vo (gs.map hO) (hO (gOf wr s)) rfl rfl rfl ?q1 ?q2 ?q3 ?q4 ?_; (case q1 => exact HN.out.first HG1.out); (case q2 => exact HB1.out); (case q3 => exact HB1.out.size); (case q4 => have := HLE.out; rw [List.length_map]; omega); intro v2 w2 ho2 hb2 hg2 hat2; have HO2 := sqM ho2; have HB2 := sqM hb2; have HG2 := sqM hg2; have HA2 := sqM hat2; clear ho2 hb2 hg2 hat2))
   have HX2 : Aside0 (Box w2 w.heap.size (.slice none 0 0) (.slice none 0 0)) := ⟨((HX.out.below (q2a wr (s ++ nine))).grown (q07 HN.out.hr (q2a wr (s ++ nine))) HG1.out).grown (HN.out.first HG1.out) HG2.out⟩
   go_roundw
   case rel => exact ⟨i + 1, gs ++ [gOf wr s], v1, v2, HLT.out, rfl, rfl, by rw [HW1.out], ⟨by rw [HTK.out]; exact HN.out.step HSI.out HO1.out HB1.out HG1.out HA1.out HO2.out HB2.out HG2.out HA2.out⟩, HX2⟩
   case measure => exact meas HW1.out HLT.out
  ·
   obtain rfl : i = l.length := by omega
   rw [List.take_length] at HN
   have kc := fun (W : World) => Lib.run_convert_bytes_const (P := Try.prog) W 41 5 #[.int .u8 98, .int .u8 101, .int .u8 104, .int .u8 105, .int .u8 110, .int .u8 100] 6 6 Try.underlying41 Try.underlying5
   have HB0 : Aside0 (Below wr.heap.size wr (wr.alloc (.cells #[.int .u8 98, .int .u8 101, .int .u8 104, .int .u8 105, .int .u8 110, .int .u8 100] 5 (6, 7)))) := ⟨q02 (Below.refl _ _) _⟩
   have HLE : Aside0 (gs.length ≤ 100000000000) := ⟨by rw [HN.out.len]; exact HL.out⟩
   have HLN : Aside0 (gs.length = l.length) := ⟨HN.out.len⟩
   obtain ⟨Ao, co, hvo⟩ := own_form HN.out.ho
   rw [List.length_map, HLN.out] at hvo
   subst hvo
   go_wp2_with (first
    | ((with_reducible refine q05 (b := .append) (xs := #[.tmp 37, .tmp 40]) rfl ?_); at_builtin; refine q12 (w0 := w) hdV w.heap.size rfl (.tmp 37) (.tmp 40) 35 41 (.slice none 0 0) 24 rfl Try.underlying35 info41' rfl (by decide) vr (gs.map hR) (some ⟨wr.heap.size, 0, none⟩, 6, 6) rfl ?q0 rfl ?q1 ?q2 ?q3 ?q4 ?_; (case q0 => rw [World.size_alloc]; rfl); (case q1 => exact q07 HN.out.hr HB0.out); (case q2 => exact q03 HN.out.below HN.out.base HB0.out); (case q3 => exact Nat.le_trans HN.out.base HB0.out.size); (case q4 => have := HLE.out; rw [List.length_map]; omega); intro v1 w1 ho1 hb1 hg1 hat1; obtain ⟨c1, g1, rfl, hn1⟩ := lent_form (n := l.length) (by rw [List.length_map]; exact HLN.out) ho1; have hcap : (l.length ≤ c1) = True := eq_true (by omega); have HO1 := sqM ho1; have HB1 := sqM hb1; have HG1 := sqM hg1; have HN1 := sqM hn1; have HA1 := sqM hat1; have HXX : Aside0 (Box w1 w.heap.size (.slice none 0 0) (.slice none 0 0)) := ⟨(HX.out.below HB0.out).grown (q07 HN.out.hr HB0.out) HG1.out⟩; have hx0 := HXX.out.cell0; have hx1 := HXX.out.cell1; have hf0 := HXX.out.fz 0; have hf1 := HXX.out.fz 1; clear ho1 hb1 hg1 hn1 hat1))
   have HLT : Aside0 (Lt w w1 g1 c1 Ao co gs (some ⟨wr.heap.size, 0, none⟩, 6, 6) l (l.map fullB) ∧ Row5 w1 (some ⟨wr.heap.size, 0, none⟩, 6, 6) behindL) := ⟨HN.out.last HLN.out HB0.out (q0z wr _) HN1.out HO1.out HB1.out HG1.out⟩
   exact bodyPost_ret (v := .agg #[.slice (some ⟨g1, 0, none⟩) l.length c1, .slice Ao l.length co]) (results_cell_row Try.results37 _ _ w.heap.size 79 #[.slice (some ⟨g1, 0, none⟩) l.length c1, .slice Ao l.length co] (0, 0) _ rfl (by rw [q23 (q23 HXX.out 0 _) 1 _]; rfl) Try.underlying79 rfl (by kernel_rfl)) rfl ⟨g1, c1, Ao, co, gs, _, rfl, (HLT.out.1.put0 HXX.out _).put1 (q23 HXX.out 0 _) _, HLT.out.2.move ((Same5.set HXX.out (by decide) 0 _).trans (Same5.set (q23 HXX.out 0 _) (by decide) 1 _)), _, rfl, HN.out.base⟩
end Go.Proofs.Ytdhajlkiiphlfaa.Par
namespace Go.Proofs.Ytdhajlkiiphlfaa.QR
open Go.RowKit Go.Proofs.YtdhajlkiiphlfaaW.PrintWords Go.Proofs.YtdhajlkiiphlfaaW.PrintLast Go.Proofs.YtdhajlkiiphlfaaW.PrintMore
attribute [local go_sem] q1c q1d q1y q1z q0v q0w q1e q1f
theorem info4 : (Try.prog.info? 4).map (fun i => (i.zero, i.size, i.bytes)) = some (some (.bool false), 1, 1) := by kernel_rfl
theorem info5 : (Try.prog.info? 5).map (fun i => (i.zero, i.size, i.bytes)) = some (some (.int .u8 0), 1, 1) := by kernel_rfl
theorem info9 : (Try.prog.info? 9).map (fun i => (i.zero, i.size, i.bytes)) = some (some (.string ⟨#[]⟩), 1, 16) := by kernel_rfl
theorem info41 : (Try.prog.info? 41).map (fun i => (i.zero, i.size, i.bytes)) = some (some (.slice none 0 0), 1, 24) := by kernel_rfl
def rd_L2 (xs : List (List Int)) (i : Int) : (List Int) := xs.getD i.toNat ([] : List Int)
theorem at_L2 {w : World} {A : Option Addr} {n : Nat} {xs : List (List Int)} (h : Kd.C (Kd.slice 5 (Kd.int .u8)) w A n xs) (i : Int) (h0 : 0 ≤ i) (h1 : i < n) : ∃ ad A0 c0, A = some ad ∧ w.cell? (ad.add i.toNat) = some (.slice A0 (rd_L2 xs i).length c0) ∧ (rd_L2 xs i).length ≤ c0 ∧ (Kd.int .u8).C w A0 (rd_L2 xs i).length (rd_L2 xs i) := by
 obtain ⟨ad, c, e, _, hK, hc0⟩ := Kd.C_get h ([] : List Int) i h0 h1
 have hc : ∀ j u, c[j]? = some u → w.cell? (ad.add (i.toNat * 1 + j)) = some u := hc0
 obtain ⟨A0, c0, rfl, l0, g0⟩ := hK
 exact ⟨ad, A0, c0, e, by have hq := hc 0 _ rfl; rwa [Nat.mul_one, Nat.add_zero] at hq, l0, g0⟩
structure S60 where
 f0 : (List (List Int))
 f1 : (List (List Int))
def l5_weight.l0 : Nat → List ByteArray → Int → Int → Option (Int)
 | 0, _, _, _ => none
 | k + 1, x0, x3, x4 => if x4 < (x0.length : Int) then (if x3 ≤ 2147483647 then (if 0 ≤ x4 then (l5_weight.l0 k x0 (wrap64 ((wrap64 (x3 + 1)) + ((rdOf ByteArray.empty x0 x4).size : Int))) (wrap64 (x4 + 1))) else (none)) else (some x3)) else (some x3)
def l5_weight.f (k : Nat) (l0 : List ByteArray) : Option (Int) := l5_weight.l0 k l0 0 0
set_option maxHeartbeats 8000000 in
set_option maxRecDepth 100000 in
theorem l5_weight.calls (k : Nat) (A0 : Option Addr) (c0 : Nat) (l0 : List ByteArray) (r : Int) (w : World) (hr0 : Kd.C Kd.string w A0 l0.length l0) (hc0 : l0.length ≤ c0) (h : l5_weight.f k l0 = some r) :
    Calls Try.prog 10 #[.slice A0 l0.length c0] w fun e w' => e = .returned (.int .i64 r) ∧ Drawn0 w w' := by
 have HR0 := sqM hr0
 have HC0 := sqM hc0
 clear hr0 hc0
 have H : (l5_weight.l0 k l0 0 0) = some r := h
 clear h
 have H' := sqM H
 clear H
 go_enter Try.func10, Try.ntmps10
 go_wp2
 go_loopg [3, 4] k (fun kq v3 v4 w' => ∃ (x3_1 : Int) (x4_1 : Int), v3 = .int .i64 x3_1 ∧ v4 = .int .i64 x4_1 ∧ Aside0 (l5_weight.l0 kq l0 x3_1 x4_1 = some r) ∧ Aside0 (kq ≤ k) ∧ Drawn0 w w')
 case atStart => exact ⟨(0), (0), (by rfl), (by rfl), H', ⟨Nat.le_refl _⟩, by repeat (exact Drawn0.refl _)⟩
 case round =>
  clear H'
  obtain ⟨x3_1, x4_1, rfl, rfl, HA, HK1, ⟨m1, rfl⟩⟩ := hrel
  cases gk with
  | zero => exact absurd HA.out (by simp [l5_weight.l0])
  | succ k1 =>
   have H := HA.out
   clear HA
   simp only [l5_weight.l0] at H
   by_cases c2 : x4_1 < (l0.length : Int)
   ·
    rw [if_pos c2] at H
    have c2b0 : decide (x4_1 < (l0.length : Int)) = true := decide_eq_true c2
    clear c2
    by_cases c3 : x3_1 ≤ 2147483647
    ·
     rw [if_pos c3] at H
     have c3b0 : decide (x3_1 ≤ 2147483647) = true := decide_eq_true c3
     clear c3
     by_cases c4 : 0 ≤ x4_1
     ·
      rw [if_pos c4] at H
      have c4b0 : decide (0 ≤ x4_1) = true := decide_eq_true c4
      clear c4
      have H' := sqM H
      clear H
      have p198 : 0 ≤ (x4_1 : Int) := of_decide_eq_true (by (with_reducible assumption))
      have q198 : x4_1 < (l0.length : Int) := of_decide_eq_true (by (with_reducible assumption))
      obtain ⟨ad198, e198, hx198_0⟩ := Kd.at_string HR0.out x4_1 p198 q198
      cases e198
      replace p198 := eq_true p198
      replace q198 := eq_true q198
      go_wp2
      go_roundg k1
      case measure => have := HK1.out; omega
      case rel => exact ⟨(wrap64 ((wrap64 (x3_1 + 1)) + ((rdOf ByteArray.empty l0 x4_1).size : Int))), (wrap64 (x4_1 + 1)), (by rfl), (by rfl), H', ⟨by have := HK1.out; omega⟩, by repeat (first | exact Drawn0.refl _ | apply Drawn0.step)⟩
     · rw [if_neg c4] at H
       exact absurd H (by simp)
    · rw [if_neg c3] at H
      have c3b0 : decide (x3_1 ≤ 2147483647) = false := decide_eq_false c3
      clear c3
      obtain rfl := Option.some.inj H
      go_wp2
      go_ret
      exact ⟨by rfl, by repeat (first | exact Drawn0.refl _ | apply Drawn0.step)⟩
   · rw [if_neg c2] at H
     have c2b0 : decide (x4_1 < (l0.length : Int)) = false := decide_eq_false c2
     clear c2
     obtain rfl := Option.some.inj H
     go_wp2
     go_ret
     exact ⟨by rfl, by repeat (first | exact Drawn0.refl _ | apply Drawn0.step)⟩
def l5_pick.f (a0 : Int) (a1 : Int) : Option (Int) := if a0 < 0 then (if a1 = 0 then (none) else (some (Int.tmod (wrap64 (-(wrap64 (a0 + 1)))) a1))) else (if a1 = 0 then (none) else (some (Int.tmod a0 a1)))
set_option maxHeartbeats 8000000 in
set_option maxRecDepth 100000 in
theorem l5_pick.calls (a0 : Int) (a1 : Int) (r : Int) (w : World) (h : l5_pick.f a0 a1 = some r) :
    Calls Try.prog 14 #[.int .i64 a0, .int .i64 a1] w fun e w' => e = .returned (.int .i64 r) ∧ Drawn0 w w' := by
 have H : (if a0 < 0 then (if a1 = 0 then (none) else (some (Int.tmod (wrap64 (-(wrap64 (a0 + 1)))) a1))) else (if a1 = 0 then (none) else (some (Int.tmod a0 a1)))) = some r := h
 clear h
 by_cases c3 : a0 < 0
 ·
  rw [if_pos c3] at H
  have c3b0 : decide (a0 < 0) = true := decide_eq_true c3
  clear c3
  by_cases c4 : a1 = 0
  · rw [if_pos c4] at H
    exact absurd H (by simp)
  ·
   rw [if_neg c4] at H
   have c4b0 : (a1 == 0) = false := beq_eq_false_iff_ne.mpr c4
   have c4b1 : (a1 != 0) = true := bne_iff_ne.mpr c4
   obtain rfl := Option.some.inj H
   go_enter Try.func14, Try.ntmps14
   go_wp2
   go_ret
   exact ⟨by rfl, by repeat (exact Drawn0.refl _)⟩
 ·
  rw [if_neg c3] at H
  have c3b0 : decide (a0 < 0) = false := decide_eq_false c3
  clear c3
  by_cases c5 : a1 = 0
  · rw [if_pos c5] at H
    exact absurd H (by simp)
  ·
   rw [if_neg c5] at H
   have c5b0 : (a1 == 0) = false := beq_eq_false_iff_ne.mpr c5
   have c5b1 : (a1 != 0) = true := bne_iff_ne.mpr c5
   obtain rfl := Option.some.inj H
   go_enter Try.func14, Try.ntmps14
   go_wp2
   go_ret
   exact ⟨by rfl, by repeat (exact Drawn0.refl _)⟩
def l5_full.l0 : Nat → List Int → Int → Int → Option (Bool)
 | 0, _, _, _ => none
 | k + 1, x0, x1, x5 => if x5 < (x0.length : Int) then (if 0 ≤ x5 then (if (rd x0 x5) = x1 then (l5_full.l0 k x0 x1 (wrap64 (x5 + 1))) else (some false)) else (none)) else (some true)
def l5_full.f (k : Nat) (l0 : List Int) (a1 : Int) : Option (Bool) := l5_full.l0 k l0 a1 0
set_option maxHeartbeats 8000000 in
set_option maxRecDepth 100000 in
theorem l5_full.calls (k : Nat) (A0 : Option Addr) (c0 : Nat) (l0 : List Int) (a1 : Int) (r : Bool) (w : World) (hr0 : Kd.C (Kd.int .u8) w A0 l0.length l0) (hc0 : l0.length ≤ c0) (h : l5_full.f k l0 a1 = some r) :
    Calls Try.prog 27 #[.slice A0 l0.length c0, .int .u8 a1] w fun e w' => e = .returned (.bool r) ∧ Drawn0 w w' := by
 have HR0 := sqM hr0
 have HC0 := sqM hc0
 clear hr0 hc0
 have H : (l5_full.l0 k l0 a1 0) = some r := h
 clear h
 have H' := sqM H
 clear H
 go_enter Try.func27, Try.ntmps27
 go_wp2
 go_loopg [5] k (fun kq v5 w' => ∃ (x5_1 : Int), v5 = .int .i64 x5_1 ∧ Aside0 (l5_full.l0 kq l0 a1 x5_1 = some r) ∧ Aside0 (kq ≤ k) ∧ Drawn0 w w')
 case atStart => exact ⟨(0), (by rfl), H', ⟨Nat.le_refl _⟩, by repeat (exact Drawn0.refl _)⟩
 case round =>
  clear H'
  obtain ⟨x5_1, rfl, HA, HK1, ⟨m1, rfl⟩⟩ := hrel
  cases gk with
  | zero => exact absurd HA.out (by simp [l5_full.l0])
  | succ k1 =>
   have H := HA.out
   clear HA
   simp only [l5_full.l0] at H
   by_cases c3 : x5_1 < (l0.length : Int)
   ·
    rw [if_pos c3] at H
    have c3b0 : decide (x5_1 < (l0.length : Int)) = true := decide_eq_true c3
    clear c3
    by_cases c4 : 0 ≤ x5_1
    ·
     rw [if_pos c4] at H
     have c4b0 : decide (0 ≤ x5_1) = true := decide_eq_true c4
     clear c4
     by_cases c5 : (rd l0 x5_1) = a1
     ·
      rw [if_pos c5] at H
      have c5b0 : ((rd l0 x5_1) == a1) = true := beq_iff_eq.mpr c5
      have c5b1 : ((rd l0 x5_1) != a1) = false := bne_eq_false_iff_eq.mpr c5
      clear c5
      have H' := sqM H
      clear H
      have p200 : 0 ≤ (x5_1 : Int) := of_decide_eq_true (by (with_reducible assumption))
      have q200 : x5_1 < (l0.length : Int) := of_decide_eq_true (by (with_reducible assumption))
      obtain ⟨ad200, e200, hx200_0⟩ := Kd.at_int HR0.out x5_1 p200 q200
      cases e200
      replace p200 := eq_true p200
      replace q200 := eq_true q200
      go_wp2
      go_roundg k1
      case measure => have := HK1.out; omega
      case rel => exact ⟨(wrap64 (x5_1 + 1)), (by rfl), H', ⟨by have := HK1.out; omega⟩, by repeat (first | exact Drawn0.refl _ | apply Drawn0.step)⟩
     ·
      rw [if_neg c5] at H
      have c5b0 : ((rd l0 x5_1) == a1) = false := beq_eq_false_iff_ne.mpr c5
      have c5b1 : ((rd l0 x5_1) != a1) = true := bne_iff_ne.mpr c5
      obtain rfl := Option.some.inj H
      have p200 : 0 ≤ (x5_1 : Int) := of_decide_eq_true (by (with_reducible assumption))
      have q200 : x5_1 < (l0.length : Int) := of_decide_eq_true (by (with_reducible assumption))
      obtain ⟨ad200, e200, hx200_0⟩ := Kd.at_int HR0.out x5_1 p200 q200
      cases e200
      replace p200 := eq_true p200
      replace q200 := eq_true q200
      go_wp2
      go_ret
      exact ⟨by rfl, by repeat (first | exact Drawn0.refl _ | apply Drawn0.step)⟩
    · rw [if_neg c4] at H
      exact absurd H (by simp)
   · rw [if_neg c3] at H
     have c3b0 : decide (x5_1 < (l0.length : Int)) = false := decide_eq_false c3
     clear c3
     obtain rfl := Option.some.inj H
     go_wp2
     go_ret
     exact ⟨by rfl, by repeat (first | exact Drawn0.refl _ | apply Drawn0.step)⟩
end Go.Proofs.Ytdhajlkiiphlfaa.QR
namespace Go.Proofs.Ytdhajlkiiphlfaa.Par
open Go.RowKit Go.Proofs.Ytdhajlkiiphlfaa.QB Go.Proofs.YtdhajlkiiphlfaaW.PrintWords Go.Proofs.YtdhajlkiiphlfaaW.PrintLast Go.Proofs.YtdhajlkiiphlfaaW.PrintMore Go.Proofs.Ytdhajlkiiphlfaa.Solve
theorem str_bytes (s : ByteArray) : strOfNums (q0e s) = s := by
 cases s with
 | mk d =>
  unfold strOfNums q0e
  congr 1
  apply Array.ext'
  rw [List.toList_toArray, List.map_map]
  conv => rhs; rw [← List.map_id d.toList]
  apply List.map_congr_left
  intro b _
  simp
theorem str_full (s : ByteArray) : strOfNums (fullB s) = s ++ nine := by rw [← bytesOf_nine, str_bytes]
section
variable {w0 w wa wr : World} {g c co bx : Nat} {Ao : Option Addr} {gs : List Gd} {hb : Hdr} {ls : List ByteArray} {cs : List (List Int)}
theorem Lt.headR (h : Lt w0 w g c Ao co gs hb ls cs) {i : Nat} {x : Gd} (hx : gs[i]? = some x) : w.cell? ⟨g, i, none⟩ = some (.slice (some ⟨x.1, 0, none⟩) x.2.1 x.2.2) := by
 have hr := h.hr
 have e : (gs.map hR ++ [hb]).length = ls.length + 1 := by rw [List.length_append, List.length_map, h.len]; rfl
 have hi := (List.getElem?_eq_some_iff.1 hx).1
 rw [e] at hr
 have := (own_at_of (d := ((none, 0, 0) : Hdr)) hr (i : Int) (by omega) (by have := h.len; omega)).1
 rw [Int.toNat_natCast] at this
 rw [this]
 unfold rdOf
 rw [Int.toNat_natCast, List.getD_eq_getElem?_getD, List.getElem?_append_left (by rw [List.length_map]; exact hi), List.getElem?_map, hx]
 rfl
theorem Lt.headB (h : Lt w0 w g c Ao co gs hb ls cs) : w.cell? ⟨g, ls.length, none⟩ = some (hdV hb) := by
 have hr := h.hr
 have e : (gs.map hR ++ [hb]).length = ls.length + 1 := by rw [List.length_append, List.length_map, h.len]; rfl
 rw [e] at hr
 have := (own_at_of (d := ((none, 0, 0) : Hdr)) hr (ls.length : Int) (by omega) (by omega)).1
 rw [Int.toNat_natCast] at this
 rw [this]
 unfold rdOf
 rw [Int.toNat_natCast, List.getD_eq_getElem?_getD, List.getElem?_append_right (by rw [List.length_map, h.len]; exact Nat.le_refl _), List.length_map, h.len, Nat.sub_self]
 rfl
theorem Lt.headO (h : Lt w0 w g c Ao co gs hb ls cs) {i : Nat} {x : Gd} (hx : gs[i]? = some x) : ∃ ao, Ao = some ao ∧ w.cell? (ao.add i) = some (.slice (some ⟨x.1, 0, none⟩) (x.2.1 + 9) x.2.2) := by
 have ho := h.ho
 have hi := (List.getElem?_eq_some_iff.1 hx).1
 have hl := h.len
 obtain ⟨go, rfl⟩ := own_some ho (by omega)
 refine ⟨_, rfl, ?_⟩
 rw [List.length_map, hl] at ho
 have := (own_at_of (d := ((none, 0, 0) : Hdr)) ho (i : Int) (by omega) (by omega)).1
 rw [Int.toNat_natCast] at this
 rw [q1r, Nat.zero_add, this]
 unfold rdOf
 rw [Int.toNat_natCast, List.getD_eq_getElem?_getD, List.getElem?_map, hx]
 rfl
structure Wh (w0 wa w : World) (bx g c : Nat) (Ao : Option Addr) (co : Nat) (gs : List Gd) (hb : Hdr) (ls : List ByteArray) (cs : List (List Int)) : Prop where
 lt : Lt w0 w g c Ao co gs hb ls cs
 kept : Kept wa w (fun k => ∃ x ∈ gs, k = x.1)
 box : Box w bx (.slice (some ⟨g, 0, none⟩) ls.length c) (.slice Ao ls.length co)
theorem lt_moved {w' : World} (h : Lt w0 w g c Ao co gs hb ls cs) (hb' : Below w.heap.size w w') : Lt w0 w' g c Ao co gs hb ls cs :=
 ⟨q03 h.below h.base hb', h.rows.same (Same5.of_below hb'), h.len, h.sz, h.cap, q07 h.hr hb', q07 h.ho hb'⟩
theorem Wh.start (h : Lt w0 w g c Ao co gs hb ls cs) : Wh w0 w (w.alloc (.cells #[.slice (some ⟨g, 0, none⟩) ls.length c, .slice Ao ls.length co] 79)) w.heap.size g c Ao co gs hb ls cs :=
 ⟨lt_moved h (q02 (Below.refl _ _) _), Kept.of_below (q02 (Below.refl _ _) _) _, q0z w _⟩
theorem Wh.moved {w' : World} (h : Wh w0 wa w bx g c Ao co gs hb ls cs) (hb' : Below w.heap.size w w') : Wh w0 wa w' bx g c Ao co gs hb ls cs :=
 ⟨lt_moved h.lt hb', h.kept.then_ (Kept.of_below hb' (fun k => ∃ x ∈ gs, k = x.1)) (fun k hk => .inl hk), h.box.below hb'⟩
theorem Wh.put (h : Wh w0 wa w bx g c Ao co gs hb ls cs) {i k : Nat} {x : Gd} {r : List Int} (hx : gs[i]? = some x) (hr : cs[i]? = some r) (hk : k < r.length) (v : Int) : Wh w0 wa (w.setCell ⟨x.1, k, none⟩ (.int .u8 v)) bx g c Ao co gs hb ls (cs.set i (r.set k v)) := by
 obtain ⟨cells, hc, _⟩ := h.lt.rows.row i x r hx hr
 have hmem := List.mem_of_getElem? hx
 have hm : ∀ {v' : Value} {n : Nat} {xs : List Value}, w.ownsRow w0.heap.size 41 1 v' n xs → (w.setCell ⟨x.1, k, none⟩ (.int .u8 v)).ownsRow w0.heap.size 41 1 v' n xs := fun ho => q0t ho fun j hj => Below.heap_setCell w ⟨x.1, k, none⟩ _ j fun e => by
  have e2 : j = x.1 := e
  obtain ⟨c2, hc2⟩ := q0b ho j hj
  rw [e2, hc] at hc2
  injection hc2 with hc2
  injection hc2 with _ hc2
  exact absurd hc2 (by decide)
 refine ⟨⟨h.lt.below.setCell (h.lt.rows.low x hmem) _, h.lt.rows.put hx hr hk v, h.lt.len, h.lt.sz, h.lt.cap, hm h.lt.hr, hm h.lt.ho⟩, Kept.setCell (S := fun k => ∃ x ∈ gs, k = x.1) (p := ⟨x.1, k, none⟩) h.kept (.inl ⟨x, hmem, rfl⟩) _, ?_⟩
 have hbx : w.heap[bx]? = _ := h.box
 exact (Below.heap_setCell w ⟨x.1, k, none⟩ _ bx fun e => by
  have e2 : bx = x.1 := e
  rw [e2, hc] at hbx
  injection hbx with hbx
  injection hbx with _ hbx
  exact absurd hbx (by decide)).trans hbx
end
def ovB (s : ByteArray) : List Int := List.replicate (s.size + 9) 170
def csL (l : List ByteArray) (i : Nat) : List (List Int) := (l.take i).map ovB ++ (l.drop i).map fullB
def rowK (s : ByteArray) (k : Nat) : List Int := List.replicate k 170 ++ (fullB s).drop k
theorem fullB_length (s : ByteArray) : (fullB s).length = s.size + 9 := by unfold fullB marks9; rw [List.length_append, q25]; rfl
theorem csL_end (l : List ByteArray) : csL l l.length = l.map ovB := by unfold csL; rw [List.take_length, List.drop_length, List.map_nil, List.append_nil]
theorem csL_at (l : List ByteArray) {i : Nat} (hi : i < l.length) : (csL l i)[i]? = some (fullB l[i]) := by
 unfold csL
 rw [List.getElem?_append_right (by rw [List.length_map, List.length_take]; omega), List.length_map, List.length_take, Nat.min_eq_left (by omega), Nat.sub_self, List.getElem?_map, List.getElem?_drop, Nat.add_zero, List.getElem?_eq_getElem hi]
 rfl
theorem csL_length (l : List ByteArray) {i : Nat} (hi : i ≤ l.length) : (csL l i).length = l.length := by
 unfold csL; rw [List.length_append, List.length_map, List.length_map, List.length_take, List.length_drop]; omega
theorem csL_succ (l : List ByteArray) {i : Nat} (hi : i < l.length) : (csL l i).set i (ovB l[i]) = csL l (i + 1) := by
 unfold csL
 rw [List.set_append_right _ _ (by rw [List.length_map, List.length_take]; omega), List.length_map, List.length_take, Nat.min_eq_left (by omega), Nat.sub_self, List.drop_eq_getElem_cons hi, List.map_cons, List.set_cons_zero, List.take_succ_eq_append_getElem hi, List.map_append, List.append_assoc]
 rfl
theorem rowK_zero (s : ByteArray) : rowK s 0 = fullB s := rfl
theorem rowK_end (s : ByteArray) : rowK s (s.size + 9) = ovB s := by unfold rowK ovB; rw [← fullB_length, List.drop_length, List.append_nil]
theorem rowK_length (s : ByteArray) {k : Nat} (hk : k ≤ s.size + 9) : (rowK s k).length = s.size + 9 := by
 unfold rowK; rw [List.length_append, List.length_replicate, List.length_drop, fullB_length]; omega
theorem rowK_set (s : ByteArray) {k : Nat} (hk : k < s.size + 9) : (rowK s k).set k 170 = rowK s (k + 1) := by
 unfold rowK
 rw [List.set_append_right _ _ (by rw [List.length_replicate]; omega), List.length_replicate, Nat.sub_self, List.drop_eq_getElem_cons (by rw [fullB_length]; exact hk), List.set_cons_zero, List.replicate_succ', List.append_assoc]
 rfl
theorem full_l0 (m : Int) (xs : List Int) (hx : ∀ y ∈ xs, y = m) (hn : xs.length ≤ 140737488355328) : ∀ (d i k : Nat), i + d = xs.length → d < k → QR.l5_full.l0 k xs m (i : Int) = some true := by
 intro d
 induction d with
 | zero =>
  intro i k h hk
  obtain ⟨k, rfl⟩ : ∃ q, k = q + 1 := ⟨k - 1, by omega⟩
  rw [QR.l5_full.l0, if_neg (by omega)]
 | succ d ih =>
  intro i k h hk
  obtain ⟨k, rfl⟩ : ∃ q, k = q + 1 := ⟨k - 1, by omega⟩
  have hr : rd xs (i : Int) = m := by
   rw [rd_nat]
   exact hx _ (getD_mem (by omega))
  rw [QR.l5_full.l0, if_pos (by omega), if_pos (by omega), if_pos hr, wr1 (n := xs.length) (by omega) hn]
  exact ih (i + 1) k (by omega) (by omega)
theorem full_calls (w : World) (A : Option Addr) (n c : Nat) (m : Int) (hC : Kd.C (Kd.int .u8) w A n (List.replicate n m)) (hn : n ≤ c) (hl : n ≤ 140737488355328) :
    Calls Try.prog 27 #[.slice A n c, .int .u8 m] w fun e w' => e = .returned (.bool true) ∧ Drawn0 w w' := by
 have := QR.l5_full.calls (n + 1) A c (List.replicate n m) m true w (by rw [List.length_replicate]; exact hC) (by rw [List.length_replicate]; exact hn) (full_l0 m _ (fun y hy => List.eq_of_mem_replicate hy) (by rw [List.length_replicate]; exact hl) n 0 (n + 1) (by rw [List.length_replicate]; omega) (by omega))
 rw [List.length_replicate] at this
 exact this
theorem ovB_split (s : ByteArray) : ovB s = List.replicate s.size 170 ++ List.replicate 9 170 := by unfold ovB; rw [List.replicate_append_replicate]
set_option maxHeartbeats 800000 in
set_option maxRecDepth 100000 in
theorem whole_calls (g c : Nat) (Ao : Option Addr) (co : Nat) (gs : List Gd) (hb : Hdr) (A1 : Option Addr) (c1 : Nat) (l : List ByteArray) (w0 w : World) (hlt : Lt w0 w g c Ao co gs hb l (l.map fullB)) (hbe : Row5 w hb behindL) (hr1 : ∀ W, Kept w W (fun k => ∃ x ∈ gs, k = x.1) → Kd.C Kd.string W A1 l.length l) (hl : l.length ≤ 100000000000) (hs : ∀ s ∈ l, s.size ≤ 100000000000) :
    Calls Try.prog 38 #[.agg #[.slice (some ⟨g, 0, none⟩) l.length c, .slice Ao l.length co], .slice A1 l.length c1] w fun e w' => e = .returned (.bool true) ∧ Wh w0 w w' w.heap.size g c Ao co gs hb l (l.map ovB) := by
 have HR1 := sqM hr1
 have HL := sqM hl
 have HS := sqM hs
 have H0 : Aside0 (Wh w0 w (w.alloc (.cells #[.slice (some ⟨g, 0, none⟩) l.length c, .slice Ao l.length co] 79)) w.heap.size g c Ao co gs hb l (csL l 0)) := ⟨Wh.start hlt⟩
 have hcap := hlt.cap
 have hw1 : wrap64 ((l.length : Int) + 1) = (l.length : Int) + 1 := by unfold wrap64; omega
 have hca1 : ((0 : Int) ≤ (l.length : Int) + 1) = True := eq_true (by omega)
 have hca2 : ((l.length : Int) + 1 ≤ (c : Int)) = True := eq_true (by omega)
 have hbr := (hbe.move (Same5.of_below (q02 (Below.refl w.heap.size w) (.cells #[.slice (some ⟨g, 0, none⟩) l.length c, .slice Ao l.length co] 79))))
 obtain ⟨Ab, nb, cb⟩ := hb
 have hnb : nb = 6 := hbr.1
 subst hnb
 have hx : (w.alloc (.cells #[.slice (some ⟨g, 0, none⟩) l.length c, .slice Ao l.length co] 79)).cell? ⟨g, l.length, none⟩ = some (.slice Ab 6 cb) := H0.out.lt.headB
 have kst := Kd.C_string (P := Try.prog) (c := cb) Try.underlying41 Try.underlying5 Try.underlying9 hbr.toC
 have hbs : strOfNums behindL = ⟨#[98, 101, 104, 105, 110, 100]⟩ := by decide
 rw [hbs, show behindL.length = 6 from rfl] at kst
 clear hr1 hl hs hlt hbe hcap hbr hbs
 go_enter Try.func38, Try.ntmps38
 go_wp2
 clear hw1 hca1 hca2 hx kst
 go_loopw [6, 7] (fun v6 v7 wr => ∃ i : Nat, i ≤ l.length ∧ v6 = .bool true ∧ v7 = .int .i64 (i : Int) ∧ Aside0 (Wh w0 w wr w.heap.size g c Ao co gs (Ab, 6, cb) l (csL l i))) (fun _ v7 _ => l.length - (intOf v7).toNat)
 case atStart => exact ⟨0, Nat.zero_le _, rfl, rfl, H0⟩
 case round =>
  clear H0
  obtain ⟨i, hi, rfl, rfl, HW⟩ := hrel
  by_cases hlt : i < l.length
  ·
   have HLT := sqM hlt
   have hd : decide ((i : Int) < (l.length : Int)) = true := decide_eq_true (by omega)
   have hd' : decide (i < l.length) = true := decide_eq_true hlt
   have hd2 : (i < l.length) = True := eq_true hlt
   have HW1 := sqM (wr1 (i := i) hlt (by have := HL.out; omega))
   obtain ⟨⟨gx, nx, cx⟩, hgx⟩ : ∃ x, gs[i]? = some x := ⟨_, List.getElem?_eq_getElem (by rw [HW.out.lt.len]; exact hlt)⟩
   have hnx : nx = l[i].size := HW.out.lt.sz i _ _ hgx (List.getElem?_eq_getElem hlt)
   have hb0 : wr.cell? ⟨w.heap.size, 0, none⟩ = _ := HW.out.box.cell0
   have hb1 : wr.cell? ⟨w.heap.size, 1, none⟩ = _ := HW.out.box.cell1
   have hhr := HW.out.lt.headR hgx
   obtain ⟨ao, eao, hho⟩ := HW.out.lt.headO hgx
   obtain ⟨ad, ead, hc⟩ := Kd.at_string (HR1.out _ HW.out.kept) (i : Int) (by omega) (by omega)
   subst eao ead
   rw [Int.toNat_natCast] at hc
   have hrd : rdOf ByteArray.empty l (i : Int) = l[i] := by unfold rdOf; rw [Int.toNat_natCast, List.getD_eq_getElem?_getD, List.getElem?_eq_getElem hlt]; rfl
   rw [hrd] at hc
   have hrow := HW.out.lt.rows.row i _ _ hgx (csL_at l hlt)
   have HAT := sqM (csL_at l hlt)
   have HSU := sqM (csL_succ l hlt)
   have HSI := sqM (HS.out _ (List.getElem_mem hlt))
   generalize l[i] = s at hc hnx hrow HAT HSU HSI
   subst hnx
   simp only at hhr hho hrow
   have hbig : (9223372036854775807 < s.size + 9) = False := eq_false (by have := HSI.out; omega)
   have hcf := (hrow.row5 (by rw [fullB_length]; have := HSI.out; omega)).toC
   have hcr := (hrow.front.row5 (by rw [q25]; have := HSI.out; omega)).toC
   have kso := fun n => Kd.C_string (P := Try.prog) (c := cx) Try.underlying41 Try.underlying5 Try.underlying9 (Kd.C_drewN hcf n)
   have ksr := fun n => Kd.C_string (P := Try.prog) (c := cx) Try.underlying41 Try.underlying5 Try.underlying9 (Kd.C_drewN hcr n)
   rw [fullB_length, str_full] at kso
   rw [q25, str_bytes] at ksr
   unfold nine at kso
   have HGX := sqM hgx
   clear hlt hi hrd hrow hcf hcr hgx
   go_wp2
   go_quiet (fail)
   have HI : Aside0 (Wh w0 w (wr.drewN nq) w.heap.size g c (some ao) co gs (Ab, 6, cb) l ((csL l i).set i (rowK s 0))) := ⟨by
    rw [rowK_zero, set_same HAT.out]
    exact HW.out.moved (q00 (Below.refl _ _) _)⟩
   clear HW hb0 hb1 hhr hho hc kso ksr hbig hd2
   go_wp2
   go_loopw [8] (fun v8 wq => ∃ k : Nat, k ≤ s.size + 9 ∧ v8 = .int .i64 (k : Int) ∧ Aside0 (Wh w0 w wq w.heap.size g c (some ao) co gs (Ab, 6, cb) l ((csL l i).set i (rowK s k)))) (fun v8 _ => s.size + 9 - (intOf v8).toNat)
   case atStart => exact ⟨0, Nat.zero_le _, rfl, HI⟩
   case round =>
    clear HI
    obtain ⟨k, hk, rfl, HK⟩ := hrel
    have hb0 : wr.cell? ⟨w.heap.size, 0, none⟩ = _ := HK.out.box.cell0
    have hb1 : wr.cell? ⟨w.heap.size, 1, none⟩ = _ := HK.out.box.cell1
    have hhr := HK.out.lt.headR HGX.out
    obtain ⟨ao', eao, hho⟩ := HK.out.lt.headO HGX.out
    injection eao with eao
    subst eao
    simp only at hhr hho
    have hd2 : (i < l.length) = True := eq_true HLT.out
    have hro := HK.out.lt.rows.row i _ _ HGX.out (List.getElem?_set_self (by rw [csL_length l (Nat.le_of_lt HLT.out)]; exact HLT.out))
    by_cases hkl : k < s.size + 9
    ·
     have hd3 : decide ((k : Int) < (s.size : Int) + 9) = true := decide_eq_true (by omega)
     have hd3' : decide (k < s.size + 9) = true := decide_eq_true hkl
     have hd3n : (k < s.size + 9) = True := eq_true hkl
     have hd3m : ((k : Int) < (s.size : Int) + 9) = True := eq_true (by omega)
     obtain ⟨hcx, hcf⟩ := hro.cell (k := k) (by rw [rowK_length s hk]; exact hkl)
     have HKL := sqM hkl
     have HW2 := sqM (wr1 (i := k) hkl (by have := HSI.out; omega))
     have HQ : Aside0 (Wh w0 w (wr.setCell ⟨gx, k, none⟩ (.int .u8 170)) w.heap.size g c (some ao) co gs (Ab, 6, cb) l ((csL l i).set i (rowK s (k + 1)))) := ⟨by
      have := HK.out.put HGX.out (List.getElem?_set_self (by rw [csL_length l (Nat.le_of_lt HLT.out)]; exact HLT.out)) (k := k) (by rw [rowK_length s hk]; exact hkl) 170
      rw [rowK_set s hkl, List.set_set] at this
      exact this⟩
     simp only at hcx hcf
     clear hk hkl hro
     go_wp2
     go_roundw
     case rel => exact ⟨k + 1, HKL.out, by rw [HW2.out], HQ⟩
     case measure => exact meas HW2.out HKL.out
    ·
     obtain rfl : k = s.size + 9 := by omega
     have hd3 : decide (((s.size + 9 : Nat) : Int) < (s.size : Int) + 9) = false := decide_eq_false (by omega)
     rw [rowK_end] at HK hro
     rw [HSU.out] at HK
     have hcc : s.size ≤ cx := by have := (show LR wr gx cx (ovB s) from hro).cap; unfold ovB at this; rw [List.length_replicate] at this; omega
     have hC := sqM (((show LR wr gx cx (List.replicate s.size 170 ++ List.replicate 9 170) from by rw [← ovB_split]; exact hro).front.row5 (by rw [List.length_replicate]; have := HSI.out; omega)).toC)
     rw [List.length_replicate] at hC
     have HCC := sqM hcc
     clear hro hcc hk hkl
     go_wp2_with (first | (go_at_call 27; (with_reducible refine (full_calls _ _ _ _ _ hC.out HCC.out ?a0).mono ?_); (case a0 => have := HSI.out; omega); rintro e w2 ⟨rfl, ⟨nd, rfl⟩⟩))
     go_roundw
     case rel => exact ⟨i + 1, HLT.out, rfl, by rw [HW1.out], ⟨HK.out.moved (q00 (Below.refl _ _) _)⟩⟩
     case measure => exact meas HW1.out HLT.out
  · obtain rfl : i = l.length := by omega
    rw [csL_end] at HW
    go_wp2
    go_ret
    exact ⟨rfl, HW.out⟩
theorem info60' : (Try.prog.info? 60).map (fun i => (i.zero, i.size, i.bytes)) = some (some (.agg #[.slice none 0 0, .slice none 0 0]), 2, 48) := by kernel_rfl
abbrev He := Hdr × Hdr
def cells2 (es : List He) : List Value := es.flatMap fun e => [hdV e.1, hdV e.2]
theorem cells2_snoc (es : List He) (a b : Hdr) : cells2 es ++ [hdV a, hdV b] = cells2 (es ++ [(a, b)]) := by unfold cells2; rw [List.flatMap_append]; rfl
structure Bh (w0 w : World) (gb : Nat) (vh : Value) (es : List He) : Prop where
 below : Below w0.heap.size w0 w
 gbl : w0.heap.size ≤ gb
 box : w.heap[gb]? = some (.cells #[vh] 27 (0, 0))
 oh : w.ownsRow w0.heap.size 60 2 vh es.length (cells2 es)
structure Hm (w w' : World) (gb : Nat) : Prop where
 size : w.heap.size ≤ w'.heap.size
 same : ∀ (k : Nat) cells t fz, w.heap[k]? = some (.cells cells t fz) → k ≠ gb → t ≠ 60 → w'.heap[k]? = some (.cells cells t fz)
structure Hx (w w' : World) (gb : Nat) (vh vh' : Value) : Prop where
 size : w.heap.size ≤ w'.heap.size
 same : ∀ k, k < w.heap.size → k ≠ gb → some k ≠ vh.ownBlock → w'.heap[k]? = w.heap[k]?
 at_ : vh'.ownBlock = vh.ownBlock ∨ ∃ b, vh'.ownBlock = some b ∧ w.heap.size ≤ b
theorem Hx.of_below {w w' : World} (hb : Below w.heap.size w w') (gb : Nat) (vh : Value) : Hx w w' gb vh vh := ⟨hb.size, fun k hk _ _ => hb.block k hk, .inl rfl⟩
theorem Hx.trans {w w1 w2 : World} {gb : Nat} {vh vh1 vh2 : Value} (h : Hx w w1 gb vh vh1) (h' : Hx w1 w2 gb vh1 vh2) : Hx w w2 gb vh vh2 := by
 refine ⟨Nat.le_trans h.size h'.size, fun k hk h1 h2 => (h'.same k (Nat.lt_of_lt_of_le hk h.size) h1 ?_).trans (h.same k hk h1 h2), ?_⟩
 · rcases h.at_ with e | ⟨b, e, hb⟩
   · rw [e]; exact h2
   · rw [e]; intro e2; injection e2 with e2; omega
 · rcases h'.at_ with e | ⟨b, e, hb⟩
   · rw [e]; exact h.at_
   · exact .inr ⟨b, e, Nat.le_trans h.size hb⟩
section
variable {w0 w w' : World} {gb : Nat} {vh vh' : Value} {es : List He}
theorem Bh.base (h : Bh w0 w gb vh es) : w0.heap.size ≤ w.heap.size := h.below.size
theorem Bh.moved (h : Bh w0 w gb vh es) (hb : Below w.heap.size w w') : Bh w0 w' gb vh es :=
 ⟨q03 h.below h.base hb, h.gbl, (hb.block gb (q0l h.box)).trans h.box, q07 h.oh hb⟩
theorem Bh.snoc (h : Bh w0 w gb vh es) {a b : Hdr} (ho : w'.ownsRow w0.heap.size 60 2 vh' (es.length + 1) (cells2 es ++ [hdV a, hdV b])) (hb : Below w0.heap.size w0 w') (hg : w.grownBy w' vh.ownBlock) (hat : vh'.ownBlock = vh.ownBlock ∨ ∃ b, vh'.ownBlock = some b ∧ w.heap.size ≤ b) :
    Bh w0 (w'.setCell ⟨gb, 0, none⟩ vh') gb vh' (es ++ [(a, b)]) ∧ Hm w (w'.setCell ⟨gb, 0, none⟩ vh') gb ∧ Hx w (w'.setCell ⟨gb, 0, none⟩ vh') gb vh vh' := by
 have hbox : w'.heap[gb]? = some (.cells #[vh] 27 (0, 0)) := (hg.block gb (q0l h.box) (own_ne h.oh h.box (by decide))).trans h.box
 refine ⟨⟨hb.setCell h.gbl _, h.gbl, by rw [q23 hbox]; rfl, ?_⟩, ⟨by rw [World.size_setCell]; exact hg.size, fun k cells t fz hk h1 h2 => ?_⟩, ⟨by rw [World.size_setCell]; exact hg.size, fun k hk h1 h2 => (Below.heap_setCell w' ⟨gb, 0, none⟩ vh' k h1).trans (hg.block k hk h2), hat⟩⟩
 · rw [List.length_append, List.length_singleton, ← cells2_snoc]
   exact q1h ho (p := ⟨gb, 0, none⟩) (own_ne ho hbox (by decide)) _
 ·
  rw [Below.heap_setCell w' ⟨gb, 0, none⟩ vh' k h1]
  refine (hg.block k (q0l hk) fun e => ?_).trans hk
  rcases h.oh.2 with ⟨e2, _⟩ | ⟨g', cap, cur, e2, _, hh, _⟩
  · rw [e2] at e; cases e
  ·
   rw [e2] at e
   have e3 : k = g' := Option.some.inj e
   subst e3
   rw [hk] at hh
   injection hh with hh
   injection hh with _ hh
   exact h2 hh
end
theorem q0q {w : World} {base t sz n : Nat} {v : Value} {xs : List Value} (h : w.ownsRow base t sz v n xs) : ∃ A c, v = .slice A n c := by
 rcases h.2 with ⟨e, hz⟩ | ⟨g, cap, cur, e, _⟩
 · rw [hz]; exact ⟨_, 0, e⟩
 · exact ⟨_, cap, e⟩
set_option maxHeartbeats 800000 in
set_option maxRecDepth 100000 in
theorem hold_calls (w0 w : World) (gb : Nat) (vh : Value) (es : List He) (a b : Hdr) (h : Bh w0 w gb vh es) (hl : es.length ≤ 1000000000) :
    Calls Try.prog 40 #[.pointer (some ⟨gb, 0, none⟩), hdV a, hdV b] w fun e w' => e = .returned (.tuple #[]) ∧ ∃ vh', Bh w0 w' gb vh' (es ++ [(a, b)]) ∧ Hm w w' gb ∧ Hx w w' gb vh vh' := by
 have HB := sqM h
 have HL := sqM hl
 have hc : w.cell? ⟨gb, 0, none⟩ = some vh := by rw [q0h h.box]; rfl
 obtain ⟨A1, n1, c1⟩ := a
 obtain ⟨A2, n2, c2⟩ := b
 show Calls Try.prog 40 #[.pointer (some ⟨gb, 0, none⟩), .slice A1 n1 c1, .slice A2 n2 c2] w _
 clear h hl
 go_enter Try.func40, Try.ntmps40
 go_wp2_with (first
  | ((with_reducible refine q05 (b := .append) (xs := #[.tmp 10, .tmp 14]) rfl ?_); at_builtin; refine print_append_cells (w0 := w0) w0.heap.size rfl (.tmp 10) (.tmp 14) 25 60 (.agg #[.slice none 0 0, .slice none 0 0]) 2 48 rfl Try.underlying25 info60' rfl (by decide) (by decide) vh es.length (cells2 es) [.slice A1 n1 c1, .slice A2 n2 c2] rfl rfl rfl ?q0 ?q1 ?q2 ?q3 ?q4 ?_; (case q0 => intro u hu; rcases List.mem_cons.1 hu with rfl | hu; rfl; rw [List.mem_singleton.1 hu]; rfl); (case q1 => exact HB.out.oh); (case q2 => exact HB.out.below); (case q3 => exact HB.out.base); (case q4 => have := HL.out; omega); intro v1 w1 ho1 hb1 hg1 hat1; obtain ⟨Av, cv, rfl⟩ := q0q ho1; have HS := sqM (HB.out.snoc (a := (A1, n1, c1)) (b := (A2, n2, c2)) ho1 hb1 hg1 hat1); have hbx : w1.heap[gb]? = some (.cells #[vh] 27 (0, 0)) := (hg1.block gb (q0l HB.out.box) (own_ne HB.out.oh HB.out.box (by decide))).trans HB.out.box; have hc1 : w1.cell? ⟨gb, 0, none⟩ = some vh := (by rw [q0h hbx]; rfl); have hf1 : w1.frozen? ⟨gb, 0, none⟩ = false := q1q hbx 0; clear ho1 hb1 hg1 hat1 hbx))
 exact Go.Great.bodyPost_end0 rfl rfl ⟨rfl, _, HS.out⟩
structure Sg (w : World) (lo hi : Nat) (hs : List Hdr) (cs : List (List Int)) : Prop where
 len : hs.length = cs.length
 row : ∀ (i : Nat) h r, hs[i]? = some h → cs[i]? = some r → h.2.1 = r.length ∧ h.2.2 = r.length ∧ r.length ≤ 281474976710656 ∧ (0 < r.length → ∃ b o cells, h.1 = some ⟨b, o, none⟩ ∧ lo ≤ b ∧ b < hi ∧ w.heap[b]? = some (.cells cells 5 (0, 0)) ∧ ∀ (x : Nat) y, r[x]? = some y → cells[o + x]? = some (.int .u8 y))
 ap : ∀ (i j : Nat) h1 h2 (b o1 o2 : Nat), hs[i]? = some h1 → hs[j]? = some h2 → i ≠ j → h1.1 = some ⟨b, o1, none⟩ → h2.1 = some ⟨b, o2, none⟩ → 0 < h1.2.1 → 0 < h2.2.1 → o1 + h1.2.1 ≤ o2 ∨ o2 + h2.2.1 ≤ o1
def q0d (w w' : World) (lo hi : Nat) : Prop := ∀ k, lo ≤ k → k < hi → w'.heap[k]? = w.heap[k]?
theorem q0d.trans {w w1 w2 : World} {lo hi : Nat} (h : q0d w w1 lo hi) (h' : q0d w1 w2 lo hi) : q0d w w2 lo hi := fun k a b => (h' k a b).trans (h k a b)
theorem q0d.of_below {w w' : World} (hb : Below w.heap.size w w') {lo hi : Nat} (hh : hi ≤ w.heap.size) : q0d w w' lo hi := fun k _ b => hb.block k (by omega)
theorem Sg.move {w w' : World} {lo hi : Nat} {hs : List Hdr} {cs : List (List Int)} (h : Sg w lo hi hs cs) (hm : q0d w w' lo hi) : Sg w' lo hi hs cs :=
 ⟨h.len, fun i hd r h1 h2 => by
  obtain ⟨a, b, c, d⟩ := h.row i hd r h1 h2
  exact ⟨a, b, c, fun hp => by
   obtain ⟨k, o, cells, e1, e2, e3, e4, e5⟩ := d hp
   exact ⟨k, o, cells, e1, e2, e3, (hm k e2 e3).trans e4, e5⟩⟩, h.ap⟩
theorem Sg.nil (w : World) (lo hi : Nat) : Sg w lo hi [] [] := ⟨rfl, fun i h r hi => by simp at hi, fun i j h1 h2 b o1 o2 hi => by simp at hi⟩
theorem Sg.widen {w : World} {lo hi lo' hi' : Nat} {hs : List Hdr} {cs : List (List Int)} (h : Sg w lo hi hs cs) (h1 : lo' ≤ lo) (h2 : hi ≤ hi') : Sg w lo' hi' hs cs :=
 ⟨h.len, fun i hd r a b => by
  obtain ⟨a, b, c, d⟩ := h.row i hd r a b
  exact ⟨a, b, c, fun hp => by
   obtain ⟨k, o, cells, e1, e2, e3, e4, e5⟩ := d hp
   exact ⟨k, o, cells, e1, by omega, by omega, e4, e5⟩⟩, h.ap⟩
theorem pre_le {m : List (List Int)} {i j : Nat} (hij : i < j) (hj : j ≤ m.length) {r : List Int} (hr : m[i]? = some r) : ((m.take i).flatten).length + r.length ≤ ((m.take j).flatten).length := by
 obtain ⟨hi, rfl⟩ := List.getElem?_eq_some_iff.1 hr
 have e : m.take j = m.take i ++ ([m[i]] ++ (m.drop (i + 1)).take (j - (i + 1))) := by
  have h1 : m.take j = (m.take (i + 1)) ++ (m.drop (i + 1)).take (j - (i + 1)) := by
   rw [← List.take_append_drop (i + 1) (m.take j), List.take_take, Nat.min_eq_left (by omega), List.drop_take]
  rw [h1, List.take_succ_eq_append_getElem hi, List.append_assoc]
 rw [e, List.flatten_append, List.flatten_append, List.length_append, List.length_append]
 simp
theorem Sg.of_Dt {w : World} {base b hi : Nat} {hs : List Hdr} {m : List (List Int)} (h : Dt w base b hs m) (hb : b < hi) : Sg w base hi hs m := by
 refine ⟨h.len, fun i hd r h1 h2 => ?_, fun i j h1 h2 b' o1 o2 a1 a2 hij e1 e2 p1 p2 => ?_⟩
 ·
  obtain ⟨o, e1, e2, e3⟩ := h.row i r h2
  rw [h1] at e1
  obtain rfl := Option.some.inj e1
  have hfl : ((m.take i).flatten).length + r.length ≤ m.flatten.length := by
   have := pre_le (m := m) (i := i) (j := m.length) (List.getElem?_eq_some_iff.1 h2).1 (Nat.le_refl _) h2
   rw [List.take_length] at this
   exact this
  refine ⟨rfl, rfl, by have := h.many; omega, fun hp => ⟨b, o, _, rfl, h.hb, hb, h.data, fun x y hx => ?_⟩⟩
  have ho := e3 hp
  have hxl := (List.getElem?_eq_some_iff.1 hx).1
  have key : m.flatten[o + x]? = some y := by
   have hd : m.flatten = (m.take i).flatten ++ (r ++ (m.drop (i + 1)).flatten) := by
    obtain ⟨hi', rfl⟩ := List.getElem?_eq_some_iff.1 h2
    have : m = m.take i ++ ([m[i]] ++ m.drop (i + 1)) := by rw [← List.append_assoc, ← List.take_succ_eq_append_getElem hi', List.take_append_drop]
    conv => lhs; rw [this]
    rw [List.flatten_append, List.flatten_append]; simp
   rw [hd]
   generalize (m.take i).flatten = P at ho ⊢
   rw [List.getElem?_append_right (by omega), show o + x - P.length = x by omega, List.getElem?_append_left hxl]
   exact hx
  rw [List.getElem?_toArray, List.getElem?_map, key]; rfl
 ·
  have l1 : i < m.length := by rw [← h.len]; exact (List.getElem?_eq_some_iff.1 a1).1
  have l2 : j < m.length := by rw [← h.len]; exact (List.getElem?_eq_some_iff.1 a2).1
  obtain ⟨x1, f1, _, f3⟩ := h.row i _ (List.getElem?_eq_getElem l1)
  obtain ⟨x2, g1, _, g3⟩ := h.row j _ (List.getElem?_eq_getElem l2)
  rw [a1] at f1; rw [a2] at g1
  obtain rfl := Option.some.inj f1
  obtain rfl := Option.some.inj g1
  injection e1 with e1; injection e1 with _ e1
  injection e2 with e2; injection e2 with _ e2
  subst e1; subst e2
  have q1 := f3 p1
  have q2 := g3 p2
  rcases Nat.lt_or_gt_of_ne hij with hlt | hlt
  · left
    rw [q1, q2]
    exact pre_le hlt (Nat.le_of_lt l2) (List.getElem?_eq_getElem l1)
  · right
    rw [q1, q2]
    exact pre_le hlt (Nat.le_of_lt l1) (List.getElem?_eq_getElem l2)
theorem Sg.app {w : World} {lo mi mj hi : Nat} {h1 h2 : List Hdr} {c1 c2 : List (List Int)} (a : Sg w lo mi h1 c1) (b : Sg w mj hi h2 c2) (hm : mi ≤ mj) (hl : lo ≤ mj) (hh : mi ≤ hi) : Sg w lo hi (h1 ++ h2) (c1 ++ c2) := by
 have la := a.len
 have lb := b.len
 have at1 : ∀ (i : Nat) hd, (h1 ++ h2)[i]? = some hd → (i < h1.length ∧ h1[i]? = some hd) ∨ (h1.length ≤ i ∧ h2[i - h1.length]? = some hd) := fun i hd e => by
  by_cases hlt : i < h1.length
  · rw [List.getElem?_append_left hlt] at e; exact .inl ⟨hlt, e⟩
  · rw [List.getElem?_append_right (by omega)] at e; exact .inr ⟨by omega, e⟩
 have blk1 : ∀ (i : Nat) hd (k o : Nat), h1[i]? = some hd → hd.1 = some ⟨k, o, none⟩ → 0 < hd.2.1 → k < mi := fun i hd k o e e1 hp => by
  have hlt := (List.getElem?_eq_some_iff.1 e).1
  obtain ⟨x1, _, _, x4⟩ := a.row i hd _ e (List.getElem?_eq_getElem (by omega))
  obtain ⟨k', o', _, y1, _, y3, _⟩ := x4 (by omega)
  rw [e1] at y1; injection y1 with y1; injection y1 with y1; omega
 have blk2 : ∀ (i : Nat) hd (k o : Nat), h2[i]? = some hd → hd.1 = some ⟨k, o, none⟩ → 0 < hd.2.1 → mj ≤ k := fun i hd k o e e1 hp => by
  have hlt := (List.getElem?_eq_some_iff.1 e).1
  obtain ⟨x1, _, _, x4⟩ := b.row i hd _ e (List.getElem?_eq_getElem (by omega))
  obtain ⟨k', o', _, y1, y2, _⟩ := x4 (by omega)
  rw [e1] at y1; injection y1 with y1; injection y1 with y1; omega
 refine ⟨by rw [List.length_append, List.length_append, la, lb], fun i hd r e1 e2 => ?_, fun i j d1 d2 k o1 o2 e1 e2 hij f1 f2 p1 p2 => ?_⟩
 ·
  rcases at1 i hd e1 with ⟨hlt, e⟩ | ⟨hge, e⟩
  · rw [List.getElem?_append_left (by omega)] at e2
    obtain ⟨x1, x2, x3, x4⟩ := a.row i hd r e e2
    exact ⟨x1, x2, x3, fun hp => by obtain ⟨k, o, cells, y1, y2, y3, y4⟩ := x4 hp; exact ⟨k, o, cells, y1, y2, by omega, y4⟩⟩
  · rw [List.getElem?_append_right (by omega), ← la] at e2
    obtain ⟨x1, x2, x3, x4⟩ := b.row _ hd r e e2
    exact ⟨x1, x2, x3, fun hp => by obtain ⟨k, o, cells, y1, y2, y3, y4⟩ := x4 hp; exact ⟨k, o, cells, y1, by omega, y3, y4⟩⟩
 · rcases at1 i d1 e1 with ⟨_, g1⟩ | ⟨ge1, g1⟩ <;> rcases at1 j d2 e2 with ⟨_, g2⟩ | ⟨ge2, g2⟩
   · exact a.ap i j d1 d2 k o1 o2 g1 g2 hij f1 f2 p1 p2
   · have := blk1 _ _ _ _ g1 f1 p1; have := blk2 _ _ _ _ g2 f2 p2; omega
   · have := blk2 _ _ _ _ g1 f1 p1; have := blk1 _ _ _ _ g2 f2 p2; omega
   · exact b.ap _ _ d1 d2 k o1 o2 g1 g2 (by omega) f1 f2 p1 p2
theorem Sg.rows {w : World} {lo hi : Nat} {hs : List Hdr} {cs : List (List Int)} (h : Sg w lo hi hs cs) : Rows5 w hs cs := ⟨h.len, fun i hd r h1 h2 => by
 obtain ⟨a, b, c, d⟩ := h.row i hd r h1 h2
 refine ⟨a, by omega, c, fun hp => ?_⟩
 obtain ⟨k, o, cells, e1, _, _, e4, e5⟩ := d hp
 exact ⟨k, o, cells, _, e1, e4, e5⟩⟩
structure Hk (w : World) (lo hi : Nat) (a b : Hdr) (m : List (List Int)) : Prop where
 rows : ∃ hs, w.ownsRow lo 41 1 (hdV a) hs.length (encs hdV hs) ∧ (∀ k, (hdV a).ownBlock = some k → k < hi) ∧ Sg w lo hi hs m
 want : b.2.1 = m.length ∧ m.length ≤ b.2.2 ∧ ∀ W, q0d w W lo hi → Kd.C (Kd.slice 5 (Kd.int .u8)) W b.1 m.length m
theorem own_in {w w' : World} {lo hi t sz n : Nat} {v : Value} {xs : List Value} (h : w.ownsRow lo t sz v n xs) (hh : ∀ k, v.ownBlock = some k → k < hi) (hm : q0d w w' lo hi) : w'.ownsRow lo t sz v n xs :=
 q0t h fun k e => hm k (q0k h k e) (hh k e)
theorem Hk.move {w w' : World} {lo hi : Nat} {a b : Hdr} {m : List (List Int)} (h : Hk w lo hi a b m) (hm : q0d w w' lo hi) : Hk w' lo hi a b m := by
 obtain ⟨hs, h1, h2, h3⟩ := h.rows
 exact ⟨⟨hs, own_in h1 h2 hm, h2, h3.move hm⟩, h.want.1, h.want.2.1, fun W hW => h.want.2.2 W (hm.trans hW)⟩
structure Bq (w0 w : World) (gb : Nat) (vh : Value) (es : List He) (ms : List (List (List Int))) (bd : List (Nat × Nat)) : Prop where
 bh : Bh w0 w gb vh es
 l1 : es.length = ms.length
 l2 : es.length = bd.length
 held : ∀ (i : Nat) e m x, es[i]? = some e → ms[i]? = some m → bd[i]? = some x → Hk w x.1 x.2 e.1 e.2 m
 bnd : ∀ (i : Nat) x, bd[i]? = some x → gb < x.1 ∧ x.1 ≤ x.2 ∧ x.2 ≤ w.heap.size ∧ ∀ k, vh.ownBlock = some k → k < x.1 ∨ x.2 ≤ k
 ord : ∀ (i j : Nat) x y, i < j → bd[i]? = some x → bd[j]? = some y → x.2 ≤ y.1
variable {w0 w w1 w' : World} {gb : Nat} {vh vh' : Value} {es : List He} {ms : List (List (List Int))} {bd : List (Nat × Nat)}
theorem Bq.moved (h : Bq w0 w gb vh es ms bd) (hb : Below w.heap.size w w') : Bq w0 w' gb vh es ms bd :=
 ⟨h.bh.moved hb, h.l1, h.l2, fun i e m x e1 e2 e3 => (h.held i e m x e1 e2 e3).move (q0d.of_below hb (h.bnd i x e3).2.2.1), fun i x e => by obtain ⟨a, b, c, d⟩ := h.bnd i x e; exact ⟨a, b, Nat.le_trans c hb.size, d⟩, h.ord⟩
theorem Bq.snoc (h : Bq w0 w gb vh es ms bd) {a b : Hdr} {m : List (List Int)} {lo hi : Nat} (hk : Hk w lo hi a b m) (hlo : ∀ (i : Nat) x, bd[i]? = some x → x.2 ≤ lo) (hlh : lo ≤ hi) (hhi : hi ≤ w.heap.size) (hg : gb < lo) (hv : ∀ k, vh.ownBlock = some k → k < lo)
    (hbh : Bh w0 w' gb vh' (es ++ [(a, b)])) (hx : Hx w w' gb vh vh') : Bq w0 w' gb vh' (es ++ [(a, b)]) (ms ++ [m]) (bd ++ [(lo, hi)]) := by
 have l1 := h.l1
 have l2 := h.l2
 have sm : ∀ lo hi, gb < lo → hi ≤ w.heap.size → (∀ k, vh.ownBlock = some k → k < lo ∨ hi ≤ k) → q0d w w' lo hi := fun lo hi a b c k e1 e2 => hx.same k (by omega) (by omega) (fun e => by rcases c k e.symm with f | f <;> omega)
 have cases_ : ∀ (i : Nat) x, (bd ++ [(lo, hi)])[i]? = some x → (i < es.length ∧ bd[i]? = some x) ∨ (i = es.length ∧ x = (lo, hi)) := fun i x e => by
  by_cases hlt : i < bd.length
  · rw [List.getElem?_append_left hlt] at e; exact .inl ⟨by omega, e⟩
  ·
   rw [List.getElem?_append_right (by omega)] at e
   have : i - bd.length = 0 := by
    have := (List.getElem?_eq_some_iff.1 e).1
    simpa using this
   rw [this] at e
   simp at e
   exact .inr ⟨by omega, e.symm⟩
 refine ⟨hbh, by simp [l1], by simp [l2], fun i e m' x e1 e2 e3 => ?_, fun i x e => ?_, fun i j x y hij e1 e2 => ?_⟩
 ·
  rcases cases_ i x e3 with ⟨hlt, e3'⟩ | ⟨rfl, rfl⟩
  · rw [List.getElem?_append_left hlt] at e1
    rw [List.getElem?_append_left (by omega)] at e2
    obtain ⟨b1, b2, b3, b4⟩ := h.bnd i x e3'
    exact (h.held i e m' x e1 e2 e3').move (sm _ _ b1 b3 b4)
  · rw [List.getElem?_append_right (Nat.le_refl _), Nat.sub_self] at e1
    rw [List.getElem?_append_right (by omega), l1, Nat.sub_self] at e2
    simp at e1 e2
    subst e1; subst e2
    exact hk.move (sm _ _ hg hhi (fun k e => .inl (hv k e)))
 ·
  have hat : ∀ k, vh'.ownBlock = some k → vh.ownBlock = some k ∨ w.heap.size ≤ k := fun k e => by
   rcases hx.at_ with f | ⟨b', f, hb'⟩
   · exact .inl (f ▸ e)
   · rw [f] at e; injection e with e; right; omega
  rcases cases_ i x e with ⟨hlt, e'⟩ | ⟨rfl, rfl⟩
  · obtain ⟨b1, b2, b3, b4⟩ := h.bnd i x e'
    refine ⟨b1, b2, Nat.le_trans b3 hx.size, fun k ek => ?_⟩
    rcases hat k ek with f | f
    · exact b4 k f
    · right; omega
  · refine ⟨hg, hlh, Nat.le_trans hhi hx.size, fun k ek => ?_⟩
    rcases hat k ek with f | f
    · exact .inl (hv k f)
    · right; show hi ≤ k; omega
 · rcases cases_ i x e1 with ⟨h1, f1⟩ | ⟨h1, rfl⟩ <;> rcases cases_ j y e2 with ⟨h2, f2⟩ | ⟨h2, rfl⟩
   · exact h.ord i j x y hij f1 f2
   · exact hlo i x f1
   · omega
   · omega
end Go.Proofs.Ytdhajlkiiphlfaa.Par
namespace Go.Proofs.Ytdhajlkiiphlfaa.QR
open Go.RowKit Go.Proofs.YtdhajlkiiphlfaaW.PrintWords Go.Proofs.YtdhajlkiiphlfaaW.PrintLast Go.Proofs.YtdhajlkiiphlfaaW.PrintMore
attribute [local go_sem] q1c q1d q1y q1z q0v q0w q1e q1f
mutual
def r4_Mul.l0 : Nat → Int → Int → Int → Int → Option (Int)
 | 0, _, _, _, _ => none
 | k + 1, x0, x1, x5, x6 => if x6 < 8 then (if 0 ≤ x6 then (if (Int.tmod (shr .i64 (wrap64 (x1)) x6) 2) = 1 then (r4_Mul.l0 k x0 x1 (Go.bits .xor .i64 x5 (shl .i64 (wrap64 (x0)) x6)) (wrap64 (x6 + 1))) else (r4_Mul.l0 k x0 x1 x5 (wrap64 (x6 + 1)))) else (none)) else (r4_Mul.l1 k x5 14)
def r4_Mul.l1 : Nat → Int → Int → Option (Int)
 | 0, _, _ => none
 | k + 1, x5, x7 => if x7 ≥ 8 then (if 0 ≤ x7 then (if (Int.tmod (shr .i64 x5 x7) 2) = 1 then (if 0 ≤ (wrap64 (x7 - 8)) then (r4_Mul.l1 k (Go.bits .xor .i64 x5 (shl .i64 357 (wrap64 (x7 - 8)))) (wrap64 (x7 - 1))) else (none)) else (r4_Mul.l1 k x5 (wrap64 (x7 - 1)))) else (none)) else (some ((x5) % 256))
end
def r4_Mul.f (k : Nat) (a0 : Int) (a1 : Int) : Option (Int) := r4_Mul.l0 k a0 a1 0 0
set_option maxHeartbeats 8000000 in
set_option maxRecDepth 100000 in
theorem r4_Mul.calls (k : Nat) (a0 : Int) (a1 : Int) (r : Int) (w : World) (h : r4_Mul.f k a0 a1 = some r) :
    Calls Try.prog 58 #[.int .u8 a0, .int .u8 a1] w fun e w' => e = .returned (.int .u8 r) ∧ Drawn0 w w' := by
 have H : (r4_Mul.l0 k a0 a1 0 0) = some r := h
 clear h
 have H' := sqM H
 clear H
 go_enter Try.func58, Try.ntmps58
 go_wp2
 go_loopg [5, 6] k (fun kq v5 v6 w' => ∃ (x5_1 : Int) (x6_1 : Int), v5 = .int .i64 x5_1 ∧ v6 = .int .i64 x6_1 ∧ Aside0 (r4_Mul.l0 kq a0 a1 x5_1 x6_1 = some r) ∧ Aside0 (kq ≤ k) ∧ Drawn0 w w')
 case atStart => exact ⟨(0), (0), (by rfl), (by rfl), H', ⟨Nat.le_refl _⟩, by repeat (exact Drawn0.refl _)⟩
 case round =>
  clear H'
  obtain ⟨x5_1, x6_1, rfl, rfl, HA, HK1, ⟨m1, rfl⟩⟩ := hrel
  cases gk with
  | zero => exact absurd HA.out (by simp [r4_Mul.l0])
  | succ k1 =>
   have H := HA.out
   clear HA
   simp only [r4_Mul.l0] at H
   by_cases c3 : x6_1 < 8
   ·
    rw [if_pos c3] at H
    have c3b0 : decide (x6_1 < 8) = true := decide_eq_true c3
    clear c3
    by_cases c4 : 0 ≤ x6_1
    ·
     rw [if_pos c4] at H
     have c4b0 := eq_true c4
     have c4b1 : decide (0 ≤ x6_1) = true := decide_eq_true c4
     clear c4
     obtain ⟨ji5, hji5⟩ : ∃ j_ : Int, (shr .i64 (wrap64 (a1)) x6_1) = j_ := ⟨_, rfl⟩
     replace H : (if (Int.tmod (ji5) 2) = 1 then (r4_Mul.l0 k1 a0 a1 (Go.bits .xor .i64 x5_1 (shl .i64 (wrap64 (a0)) x6_1)) (wrap64 (x6_1 + 1))) else (r4_Mul.l0 k1 a0 a1 x5_1 (wrap64 (x6_1 + 1)))) = some r := by (rw [hji5] at H; exact H)
     have hji5_ : ((wrap64 (a1)) / 2 ^ min x6_1.toNat 64) = ji5 := hji5
     have hji5z : x6_1 ≤ 64 → ((wrap64 (a1)) / 2 ^ x6_1.toNat) = ji5 := shr_small hji5
     by_cases c6 : (Int.tmod (ji5) 2) = 1
     ·
      rw [if_pos c6] at H
      have c6b0 : ((Int.tmod (ji5) 2) == 1) = true := beq_iff_eq.mpr c6
      have c6b1 : ((Int.tmod (ji5) 2) != 1) = false := bne_eq_false_iff_eq.mpr c6
      clear c6
      have c7b0 := eq_true (of_decide_eq_true (by (with_reducible assumption)) : 0 ≤ x6_1)
      obtain ⟨ji8, hji8⟩ : ∃ j_ : Int, (shl .i64 (wrap64 (a0)) x6_1) = j_ := ⟨_, rfl⟩
      replace H : (r4_Mul.l0 k1 a0 a1 (Go.bits .xor .i64 x5_1 (ji8)) (wrap64 (x6_1 + 1))) = some r := by (rw [hji8] at H; exact H)
      have hji8_ : (IntKind.i64.wrap ((wrap64 (a0)) * 2 ^ min x6_1.toNat 64)) = ji8 := hji8
      have hji8z : x6_1 ≤ 64 → (IntKind.i64.wrap ((wrap64 (a0)) * 2 ^ x6_1.toNat)) = ji8 := shl_small hji8
      have hji8y : (wrap64 ((wrap64 (a0)) * 2 ^ min x6_1.toNat 64)) = ji8 := (i64_w _).symm.trans hji8_
      have hji8x : x6_1 ≤ 64 → (wrap64 ((wrap64 (a0)) * 2 ^ x6_1.toNat)) = ji8 := fun h_ => (i64_w _).symm.trans (hji8z h_)
      have H' := sqM H
      clear H
      go_wp2
      go_roundg k1
      case measure => have := HK1.out; omega
      case rel => exact ⟨(Go.bits .xor .i64 x5_1 (ji8)), (wrap64 (x6_1 + 1)), (by rfl), (by rfl), H', ⟨by have := HK1.out; omega⟩, by repeat (first | exact Drawn0.refl _ | apply Drawn0.step)⟩
     · rw [if_neg c6] at H
       have c6b0 : ((Int.tmod (ji5) 2) == 1) = false := beq_eq_false_iff_ne.mpr c6
       have c6b1 : ((Int.tmod (ji5) 2) != 1) = true := bne_iff_ne.mpr c6
       have H' := sqM H
       clear H
       go_wp2
       go_roundg k1
       case measure => have := HK1.out; omega
       case rel => exact ⟨(x5_1), (wrap64 (x6_1 + 1)), (by rfl), (by rfl), H', ⟨by have := HK1.out; omega⟩, by repeat (first | exact Drawn0.refl _ | apply Drawn0.step)⟩
    · rw [if_neg c4] at H
      exact absurd H (by simp)
   ·
    rw [if_neg c3] at H
    have c3b0 : decide (x6_1 < 8) = false := decide_eq_false c3
    clear c3
    have H' := sqM H
    clear H
    go_wp2
    go_loopg [5, 7] k1 (fun kq v5 v7 w' => ∃ (x5_2 : Int) (x7_2 : Int), v5 = .int .i64 x5_2 ∧ v7 = .int .i64 x7_2 ∧ Aside0 (r4_Mul.l1 kq x5_2 x7_2 = some r) ∧ Aside0 (kq ≤ k1) ∧ Drawn0 w w')
    case atStart => exact ⟨(x5_1), (14), (by rfl), (by rfl), H', ⟨Nat.le_refl _⟩, by repeat (first | exact Drawn0.refl _ | apply Drawn0.step)⟩
    case round =>
     clear H'
     try clear c3b0
     obtain ⟨x5_2, x7_2, rfl, rfl, HA, HK2, ⟨m2, rfl⟩⟩ := hrel
     cases gk with
     | zero => exact absurd HA.out (by simp [r4_Mul.l1])
     | succ k2 =>
      have H := HA.out
      clear HA
      simp only [r4_Mul.l1] at H
      by_cases c9 : x7_2 ≥ 8
      ·
       rw [if_pos c9] at H
       have c9b0 : decide (8 ≤ x7_2) = true := decide_eq_true c9
       clear c9
       by_cases c10 : 0 ≤ x7_2
       ·
        rw [if_pos c10] at H
        have c10b0 := eq_true c10
        have c10b1 : decide (0 ≤ x7_2) = true := decide_eq_true c10
        clear c10
        obtain ⟨ji11, hji11⟩ : ∃ j_ : Int, (shr .i64 x5_2 x7_2) = j_ := ⟨_, rfl⟩
        replace H : (if (Int.tmod (ji11) 2) = 1 then (if 0 ≤ (wrap64 (x7_2 - 8)) then (r4_Mul.l1 k2 (Go.bits .xor .i64 x5_2 (shl .i64 357 (wrap64 (x7_2 - 8)))) (wrap64 (x7_2 - 1))) else (none)) else (r4_Mul.l1 k2 x5_2 (wrap64 (x7_2 - 1)))) = some r := by (rw [hji11] at H; exact H)
        have hji11_ : (x5_2 / 2 ^ min x7_2.toNat 64) = ji11 := hji11
        have hji11z : x7_2 ≤ 64 → (x5_2 / 2 ^ x7_2.toNat) = ji11 := shr_small hji11
        by_cases c12 : (Int.tmod (ji11) 2) = 1
        ·
         rw [if_pos c12] at H
         have c12b0 : ((Int.tmod (ji11) 2) == 1) = true := beq_iff_eq.mpr c12
         have c12b1 : ((Int.tmod (ji11) 2) != 1) = false := bne_eq_false_iff_eq.mpr c12
         clear c12
         obtain ⟨ji13, hji13⟩ : ∃ j_ : Int, (wrap64 (x7_2 - 8)) = j_ := ⟨_, rfl⟩
         replace H : (if 0 ≤ (ji13) then (r4_Mul.l1 k2 (Go.bits .xor .i64 x5_2 (shl .i64 357 (ji13))) (wrap64 (x7_2 - 1))) else (none)) = some r := by (rw [hji13] at H; exact H)
         have hji13w : (IntKind.i64.wrap (x7_2 - 8)) = ji13 := (i64_w _).trans hji13
         by_cases c14 : 0 ≤ (ji13)
         ·
          rw [if_pos c14] at H
          have c14b0 := eq_true c14
          have c14b1 : decide (0 ≤ (ji13)) = true := decide_eq_true c14
          clear c14
          obtain ⟨ji15, hji15⟩ : ∃ j_ : Int, (shl .i64 357 (ji13)) = j_ := ⟨_, rfl⟩
          replace H : (r4_Mul.l1 k2 (Go.bits .xor .i64 x5_2 (ji15)) (wrap64 (x7_2 - 1))) = some r := by (rw [hji15] at H; exact H)
          have hji15_ : (IntKind.i64.wrap (357 * 2 ^ min (ji13).toNat 64)) = ji15 := hji15
          have hji15z : (ji13) ≤ 64 → (IntKind.i64.wrap (357 * 2 ^ (ji13).toNat)) = ji15 := shl_small hji15
          have hji15y : (wrap64 (357 * 2 ^ min (ji13).toNat 64)) = ji15 := (i64_w _).symm.trans hji15_
          have hji15x : (ji13) ≤ 64 → (wrap64 (357 * 2 ^ (ji13).toNat)) = ji15 := fun h_ => (i64_w _).symm.trans (hji15z h_)
          have H' := sqM H
          clear H
          go_wp2
          go_roundg k2
          case measure => have := HK1.out; have := HK2.out; omega
          case rel => exact ⟨(Go.bits .xor .i64 x5_2 (ji15)), (wrap64 (x7_2 - 1)), (by rfl), (by rfl), H', ⟨by have := HK1.out; have := HK2.out; omega⟩, by repeat (first | exact Drawn0.refl _ | apply Drawn0.step)⟩
         · rw [if_neg c14] at H
           exact absurd H (by simp)
        · rw [if_neg c12] at H
          have c12b0 : ((Int.tmod (ji11) 2) == 1) = false := beq_eq_false_iff_ne.mpr c12
          have c12b1 : ((Int.tmod (ji11) 2) != 1) = true := bne_iff_ne.mpr c12
          have H' := sqM H
          clear H
          go_wp2
          go_roundg k2
          case measure => have := HK1.out; have := HK2.out; omega
          case rel => exact ⟨(x5_2), (wrap64 (x7_2 - 1)), (by rfl), (by rfl), H', ⟨by have := HK1.out; have := HK2.out; omega⟩, by repeat (first | exact Drawn0.refl _ | apply Drawn0.step)⟩
       · rw [if_neg c10] at H
         exact absurd H (by simp)
      · rw [if_neg c9] at H
        have c9b0 : decide (8 ≤ x7_2) = false := decide_eq_false c9
        clear c9
        obtain rfl := Option.some.inj H
        go_wp2
        go_ret
        exact ⟨by rfl, by repeat (first | exact Drawn0.refl _ | apply Drawn0.step)⟩
def r4_Inv.l0 : Nat → Int → Int → Option (Int × Int)
 | 0, _, _ => none
 | k + 1, x0, x4 => if x4 < 256 then ((r4_Mul.f k x0 ((x4) % 256)).bind fun t213 => (if t213 = 1 then (some ((x4) % 256, 0)) else (r4_Inv.l0 k x0 (wrap64 (x4 + 1))))) else (some (0, 41))
def r4_Inv.f (k : Nat) (a0 : Int) : Option (Int × Int) := r4_Inv.l0 k a0 1
set_option maxHeartbeats 8000000 in
set_option maxRecDepth 100000 in
theorem r4_Inv.calls (k : Nat) (a0 : Int) (r1 : Int) (r2 : Int) (w : World) (h : r4_Inv.f k a0 = some (r1, r2)) :
    Calls Try.prog 60 #[.int .u8 a0] w fun e w' => e = .returned (.tuple #[.int .u8 r1, .int .i64 r2]) ∧ Drawn0 w w' := by
 have H : (r4_Inv.l0 k a0 1) = some (r1, r2) := h
 clear h
 have H' := sqM H
 clear H
 go_enter Try.func60, Try.ntmps60
 go_wp2
 go_loopg [4] k (fun kq v4 w' => ∃ (x4_1 : Int), v4 = .int .i64 x4_1 ∧ Aside0 (r4_Inv.l0 kq a0 x4_1 = some (r1, r2)) ∧ Aside0 (kq ≤ k) ∧ Drawn0 w w')
 case atStart => exact ⟨(1), (by rfl), H', ⟨Nat.le_refl _⟩, by repeat (exact Drawn0.refl _)⟩
 case round =>
  clear H'
  obtain ⟨x4_1, rfl, HA, HK1, ⟨m1, rfl⟩⟩ := hrel
  cases gk with
  | zero => exact absurd HA.out (by simp [r4_Inv.l0])
  | succ k1 =>
   have H := HA.out
   clear HA
   simp only [r4_Inv.l0] at H
   by_cases c2 : x4_1 < 256
   ·
    rw [if_pos c2] at H
    have c2b0 : decide (x4_1 < 256) = true := decide_eq_true c2
    clear c2
    replace H := Option.bind_eq_some_iff.mp H
    obtain ⟨t213, A30, H⟩ := H
    replace H : (if t213 = 1 then (some ((x4_1) % 256, 0)) else (r4_Inv.l0 k1 a0 (wrap64 (x4_1 + 1)))) = some (r1, r2) := H
    have A3 := sqM A30
    clear A30
    by_cases c4 : t213 = 1
    ·
     rw [if_pos c4] at H
     have c4b0 : (t213 == 1) = true := beq_iff_eq.mpr c4
     have c4b1 : (t213 != 1) = false := bne_eq_false_iff_eq.mpr c4
     clear c4
     simp only [Option.some.injEq, Prod.mk.injEq] at H
     obtain ⟨rfl, rfl⟩ := H
     go_wp2_with (first | ((with_reducible refine q09 (f := 58) rfl ?_); refine q1p (some 13) rfl rfl Try.func58 (by kernel_rfl) rfl #[.int .u8 a0, .int .u8 ((x4_1) % 256)] rfl (by (try simp only [List.map_toArray, List.map_cons, List.map_nil]); (rfl)) ?_; (with_reducible refine (r4_Mul.calls k1 a0 ((x4_1) % 256) t213 _ A3.out).mono ?_); rintro e w' ⟨rfl, ⟨nd, rfl⟩⟩; refine ⟨_, rfl, ?_⟩))
     go_ret2
     exact ⟨by rfl, by repeat (first | exact Drawn0.refl _ | apply Drawn0.step)⟩
    ·
     rw [if_neg c4] at H
     have c4b0 : (t213 == 1) = false := beq_eq_false_iff_ne.mpr c4
     have c4b1 : (t213 != 1) = true := bne_iff_ne.mpr c4
     have H' := sqM H
     clear H
     go_wp2_with (first | ((with_reducible refine q09 (f := 58) rfl ?_); refine q1p (some 13) rfl rfl Try.func58 (by kernel_rfl) rfl #[.int .u8 a0, .int .u8 ((x4_1) % 256)] rfl (by (try simp only [List.map_toArray, List.map_cons, List.map_nil]); (rfl)) ?_; (with_reducible refine (r4_Mul.calls k1 a0 ((x4_1) % 256) t213 _ A3.out).mono ?_); rintro e w' ⟨rfl, ⟨nd, rfl⟩⟩; refine ⟨_, rfl, ?_⟩))
     go_roundg k1
     case measure => have := HK1.out; omega
     case rel => exact ⟨(wrap64 (x4_1 + 1)), (by rfl), H', ⟨by have := HK1.out; omega⟩, by repeat (first | exact Drawn0.refl _ | apply Drawn0.step)⟩
   ·
    rw [if_neg c2] at H
    have c2b0 : decide (x4_1 < 256) = false := decide_eq_false c2
    clear c2
    simp only [Option.some.injEq, Prod.mk.injEq] at H
    obtain ⟨rfl, rfl⟩ := H
    go_wp2
    go_ret2
    exact ⟨by rfl, by repeat (first | exact Drawn0.refl _ | apply Drawn0.step)⟩
def r5_element.f (k : Nat) (a0 : Int) (a1 : Int) : Option (Int) := (r4_Inv.f k (Go.bits .xor .u8 ((wrap64 (255 - a0)) % 256) ((a1) % 256))).bind fun bt214 => (some bt214.1)
set_option maxHeartbeats 8000000 in
set_option maxRecDepth 100000 in
theorem r5_element.calls (k : Nat) (a0 : Int) (a1 : Int) (r : Int) (w : World) (h : r5_element.f k a0 a1 = some r) :
    Calls Try.prog 57 #[.int .i64 a0, .int .i64 a1] w fun e w' => e = .returned (.int .u8 r) ∧ Drawn0 w w' := by
 have H : ((r4_Inv.f k (Go.bits .xor .u8 ((wrap64 (255 - a0)) % 256) ((a1) % 256))).bind fun bt214 => (some bt214.1)) = some r := h
 clear h
 replace H := Option.bind_eq_some_iff.mp H
 obtain ⟨⟨t214, t215⟩, A30, H⟩ := H
 replace H : (some t214) = some r := H
 have A3 := sqM A30
 clear A30
 obtain rfl := Option.some.inj H
 go_enter Try.func57, Try.ntmps57
 go_wp2_with (first | ((with_reducible refine q09 (f := 60) rfl ?_); refine q1p (some 14) rfl rfl Try.func60 (by kernel_rfl) rfl #[.int .u8 (Go.bits .xor .u8 ((wrap64 (255 - a0)) % 256) ((a1) % 256))] rfl (by (try simp only [List.map_toArray, List.map_cons, List.map_nil]); (rfl)) ?_; (with_reducible refine (r4_Inv.calls k (Go.bits .xor .u8 ((wrap64 (255 - a0)) % 256) ((a1) % 256)) t214 t215 _ A3.out).mono ?_); rintro e w' ⟨rfl, ⟨nd, rfl⟩⟩; refine ⟨_, rfl, ?_⟩))
 go_ret
 exact ⟨by rfl, by repeat (first | exact Drawn0.refl _ | apply Drawn0.step)⟩
mutual
def r5_row.l0 : Nat → List (List Int) → Int → Int → List Int → Int → Option (List Int)
 | 0, _, _, _, _, _ => none
 | k + 1, x0, x1, x2, x7, x8 => if x8 < (x0.length : Int) then ((r5_element.f k x1 x8).bind fun t219 => (r5_row.l1 k x0 x1 x2 x7 x8 t219 0)) else (some x7)
def r5_row.l1 : Nat → List (List Int) → Int → Int → List Int → Int → Int → Int → Option (List Int)
 | 0, _, _, _, _, _, _, _ => none
 | k + 1, x0, x1, x2, x7, x8, x9, x10 => if 0 ≤ x8 then (if x8 < (x0.length : Int) then (if x10 < ((rd_L2 x0 x8).length : Int) then (if x10 < x2 then (if 0 ≤ x10 then (if x10 < (x7.length : Int) then ((r4_Mul.f k x9 (rd (rd_L2 x0 x8) x10)).bind fun t224 => (r5_row.l1 k x0 x1 x2 (x7.set (x10 : Int).toNat (Go.bits .xor .u8 (rd x7 x10) t224)) x8 x9 (wrap64 (x10 + 1)))) else (none)) else (none)) else (r5_row.l0 k x0 x1 x2 x7 (wrap64 (x8 + 1)))) else (r5_row.l0 k x0 x1 x2 x7 (wrap64 (x8 + 1)))) else (none)) else (none)
end
def r5_row.f (k : Nat) (l0 : List (List Int)) (a1 : Int) (a2 : Int) : Option (List Int) := if 0 ≤ a2 then (if (a2 : Int).toNat ≤ 281474976710656 then (r5_row.l0 k l0 a1 a2 (List.replicate (a2 : Int).toNat 0) 0) else (none)) else (none)
def r5_row.T9 : Bool × List (List Nat × List Nat) := (true, [([], []), ([], []), ([], []), ([], []), ([2, 3], [2, 3]), ([4], [4]), ([], []), ([], []), ([], []), ([7, 8], [7, 8]), ([9], [9]), ([], []), ([10, 11], [10, 11]), ([12], [12]), ([6, 13], [6, 13]), ([5, 14], [5, 14]), ([0, 1, 0, 1, 2, 3, 4, 5, 6, 7, 8, 9, 10, 11, 12, 13, 14, 15], [0, 1]), ([16, 15, 14, 0, 1, 2, 3, 4, 5, 6, 7, 8, 9, 10, 11, 12, 13, 14, 15], [15, 16])])
def r5_row.B9 : List Nat := [0, 0, 0, 0, 12, 28, 0, 0, 0, 384, 896, 0, 3968, 8064, 16320, 32764, 65535, 131071]
theorem r5_row.tab9 : rtab .any (opsOf Try.f52 9) = r5_row.T9 := by kernel_rfl
theorem r5_row.bits9 : waitsOk r5_row.T9.2 r5_row.B9 = true := by kernel_rfl
set_option maxHeartbeats 8000000 in
set_option maxRecDepth 100000 in
theorem r5_row.calls (k : Nat) (A0 : Option Addr) (c0 : Nat) (l0 : List (List Int)) (a1 : Int) (a2 : Int) (r : List Int) (w : World) (hr0 : Kd.C (Kd.slice 5 (Kd.int .u8)) w A0 l0.length l0) (hc0 : l0.length ≤ c0) (h : r5_row.f k l0 a1 a2 = some r) :
    Calls Try.prog 52 #[.slice A0 l0.length c0, .int .i64 a1, .int .i64 a2] w fun e w' => ∃ v0_ : Value, e = .returned (v0_) ∧ Kd.R (Kd.int .u8) 5 w' w.heap.size (fun _ => True) v0_ r ∧ Below w.heap.size w w' := by
 have HR0 := sqM hr0
 have HC0 := sqM hc0
 clear hr0 hc0
 have HB := sqM (Below.refl w.heap.size w)
 have H : (if 0 ≤ a2 then (if (a2 : Int).toNat ≤ 281474976710656 then (r5_row.l0 k l0 a1 a2 (List.replicate (a2 : Int).toNat 0) 0) else (none)) else (none)) = some r := h
 clear h
 by_cases c4 : 0 ≤ a2
 ·
  rw [if_pos c4] at H
  have c4b0 := eq_true c4
  have c4b1 : decide (0 ≤ a2) = true := decide_eq_true c4
  clear c4
  by_cases c5 : (a2 : Int).toNat ≤ 281474976710656
  ·
   rw [if_pos c5] at H
   have c5b0 := eq_true c5
   have c5b1 : decide ((a2 : Int).toNat ≤ 281474976710656) = true := decide_eq_true c5
   clear c5
   obtain ⟨y216, hy216⟩ : ∃ y_ : List Int, y_ = (List.replicate (a2 : Int).toNat 0) := ⟨_, rfl⟩
   replace H : (r5_row.l0 k l0 a1 a2 y216 0) = some r := by (rw [hy216]; with_reducible exact H)
   have Ny216 := sqM hy216
   clear hy216
   have H' := sqM H
   clear H
   go_enter Try.func52, Try.ntmps52
   go_wp2_with (first | ((with_reducible refine q1t (N := 12) rfl ?_); refine Kd.R_make (Kd.int .u8) _ 5 rfl (N := 12) rfl 41 _ _ rfl a2 rfl rfl Try.underlying41 (.int .u8 0) 1 info5 rfl (by decide) (by omega) 0 (ok := fun _ => True) (okp := fun _ => True) rfl (fun _ hk => hk) trivial (of_decide_eq_true (by (with_reducible assumption))) (Nat.le_trans (Nat.mul_le_mul_right _ (of_decide_eq_true (by (with_reducible assumption)) : a2.toNat ≤ 281474976710656)) (by omega)) (Below.refl _ _) (Nat.le_refl _) ?_; intro v217 w6 ho7 hb hg_ hnew_; clear hg_ hnew_; (rw [← Ny216.out] at ho7); have n0_ := sqM (Kd.R_lower ho7 (q01 (by repeat ((with_reducible (exact HB.out)))))); have n1_ := sqM (q04 (by repeat ((with_reducible (exact HB.out)))) hb); clear HB; have HO218 := n0_; have HB := n1_; clear n0_ n1_; clear hb ho7))
   go_loopg [8] k (fun kq v8 w' => ∃ (x7_1 : List Int) (x8_1 : Int), v8 = .int .i64 x8_1 ∧ Aside0 (r5_row.l0 kq l0 a1 a2 x7_1 x8_1 = some r) ∧ Aside0 (kq ≤ k) ∧ Aside0 (Kd.R (Kd.int .u8) 5 w' w.heap.size (fun _ => True) v217 x7_1) ∧ Aside0 (Below w.heap.size w w'))
   case atStart => exact ⟨(y216), (0), (by rfl), H', ⟨Nat.le_refl _⟩, ⟨by (with_reducible repeat (first | apply Kd.R_alloc | apply Kd.R_drewN | apply Kd.R_drew)); exact HO218.out⟩, ⟨by repeat ((with_reducible (exact HB.out)))⟩⟩
   case round =>
    clear H'
    try clear c4b0
    try clear c4b1
    try clear c5b0
    try clear c5b1
    obtain ⟨x7_1, x8_1, rfl, HA, HK1, HO_7, HB⟩ := hrel
    cases gk with
    | zero => exact absurd HA.out (by simp [r5_row.l0])
    | succ k1 =>
     have H := HA.out
     clear HA
     simp only [r5_row.l0] at H
     by_cases c8 : x8_1 < (l0.length : Int)
     ·
      rw [if_pos c8] at H
      have c8b0 : decide (x8_1 < (l0.length : Int)) = true := decide_eq_true c8
      clear c8
      replace H := Option.bind_eq_some_iff.mp H
      obtain ⟨t219, A90, H⟩ := H
      replace H : (r5_row.l1 k1 l0 a1 a2 x7_1 x8_1 t219 0) = some r := H
      have A9 := sqM A90
      clear A90
      have H' := sqM H
      clear H
      go_wp2_with (first | ((with_reducible refine q09 (f := 57) rfl ?_); refine q1p (some 21) rfl rfl Try.func57 (by kernel_rfl) rfl #[.int .i64 a1, .int .i64 x8_1] rfl (by (try simp only [List.map_toArray, List.map_cons, List.map_nil]); (rfl)) ?_; (with_reducible refine (r5_element.calls k1 a1 x8_1 t219 _ A9.out).mono ?_); rintro e w' ⟨rfl, ⟨nd, rfl⟩⟩; refine ⟨_, rfl, ?_⟩))
      go_loopg [10] k1 (fun kq v10 w' => ∃ (x7_2 : List Int) (x10_2 : Int), v10 = .int .i64 x10_2 ∧ Aside0 (r5_row.l1 kq l0 a1 a2 x7_2 x8_1 t219 x10_2 = some r) ∧ Aside0 (kq ≤ k1) ∧ Aside0 (Kd.R (Kd.int .u8) 5 w' w.heap.size (fun _ => True) v217 x7_2) ∧ Aside0 (Below w.heap.size w w'))
      case atStart => exact ⟨(x7_1), (0), (by rfl), H', ⟨Nat.le_refl _⟩, ⟨by (with_reducible repeat (apply Kd.R_drewN)); exact HO_7.out⟩, ⟨by repeat ((with_reducible first | exact HB.out | apply q00))⟩⟩
      case round =>
       clear H'
       try clear c8b0
       obtain ⟨x7_2, x10_2, rfl, HA, HK2, HO_7, HB⟩ := hrel
       cases gk with
       | zero => exact absurd HA.out (by simp [r5_row.l1])
       | succ k2 =>
        have H := HA.out
        clear HA
        simp only [r5_row.l1] at H
        by_cases c10 : 0 ≤ x8_1
        ·
         rw [if_pos c10] at H
         have c10b0 : decide (0 ≤ x8_1) = true := decide_eq_true c10
         clear c10
         by_cases c11 : x8_1 < (l0.length : Int)
         ·
          rw [if_pos c11] at H
          have c11b0 : decide (x8_1 < (l0.length : Int)) = true := decide_eq_true c11
          clear c11
          by_cases c12 : x10_2 < ((rd_L2 l0 x8_1).length : Int)
          ·
           rw [if_pos c12] at H
           have c12b0 : decide (x10_2 < ((rd_L2 l0 x8_1).length : Int)) = true := decide_eq_true c12
           clear c12
           by_cases c13 : x10_2 < a2
           ·
            rw [if_pos c13] at H
            have c13b0 : decide (x10_2 < a2) = true := decide_eq_true c13
            clear c13
            by_cases c14 : 0 ≤ x10_2
            ·
             rw [if_pos c14] at H
             have c14b0 : decide (0 ≤ x10_2) = true := decide_eq_true c14
             clear c14
             by_cases c15 : x10_2 < (x7_2.length : Int)
             ·
              rw [if_pos c15] at H
              have c15b0 : decide (x10_2 < (x7_2.length : Int)) = true := decide_eq_true c15
              clear c15
              replace H := Option.bind_eq_some_iff.mp H
              obtain ⟨t224, A160, H⟩ := H
              replace H : (r5_row.l1 k2 l0 a1 a2 (x7_2.set (x10_2 : Int).toNat (Go.bits .xor .u8 (rd x7_2 x10_2) t224)) x8_1 t219 (wrap64 (x10_2 + 1))) = some r := H
              have A16 := sqM A160
              clear A160
              obtain ⟨y225, hy225⟩ : ∃ y_ : List Int, y_ = (x7_2.set (x10_2 : Int).toNat (Go.bits .xor .u8 (rd x7_2 x10_2) t224)) := ⟨_, rfl⟩
              replace H : (r5_row.l1 k2 l0 a1 a2 y225 x8_1 t219 (wrap64 (x10_2 + 1))) = some r := by (rw [hy225]; with_reducible exact H)
              have Ny225 := sqM hy225
              clear hy225
              have H' := sqM H
              clear H
              have p220 : 0 ≤ (x8_1 : Int) := of_decide_eq_true (by (with_reducible assumption))
              have q220 : x8_1 < (l0.length : Int) := of_decide_eq_true (by (with_reducible assumption))
              obtain ⟨ad220, A220_0, c220_0, e220, hx220_0, hl220_0, hi220_0⟩ := at_L2 HR0.out x8_1 p220 q220
              cases e220
              replace hx220_0 := (HB.out.cell (World.block_lt_of_cell? w _ hx220_0)).trans hx220_0
              have HR220_0 := sqM hi220_0
              have HC220_0 := sqM hl220_0
              clear hi220_0 hl220_0
              replace p220 := eq_true p220
              replace q220 := eq_true q220
              try go_wp2
              have n0_ := sqM (Kd.R_drew HO_7.out)
              have n1_ := sqM (q06 HB.out)
              clear HO_7
              clear HB
              have HO_7 := n0_
              have HB := n1_
              clear n0_ n1_
              obtain ⟨Ao19, co19, eo19⟩ := Kd.R_slice HO_7.out
              (subst eo19)
              have p221 : 0 ≤ (x10_2 : Int) := of_decide_eq_true (by (with_reducible assumption))
              have q221 : x10_2 < (x7_2.length : Int) := of_decide_eq_true (by (with_reducible assumption))
              obtain ⟨ad221, e221, hx221_0⟩ := Kd.at_int (Kd.R_reads' HO_7.out).2.2 x10_2 p221 q221
              cases e221
              replace p221 := eq_true p221
              replace q221 := eq_true q221
              have p222 : 0 ≤ (x8_1 : Int) := of_decide_eq_true (by (with_reducible assumption))
              have q222 : x8_1 < (l0.length : Int) := of_decide_eq_true (by (with_reducible assumption))
              obtain ⟨ad222, A222_0, c222_0, e222, hx222_0, hl222_0, hi222_0⟩ := at_L2 HR0.out x8_1 p222 q222
              have hw222_0 := hx222_0
              obtain rfl : ad220 = ad222 := (by injection e222)
              replace hx222_0 := (HB.out.cell (World.block_lt_of_cell? w _ hx222_0)).trans hx222_0
              have HR222_0 := sqM hi222_0
              have HC222_0 := sqM hl222_0
              clear hi222_0 hl222_0
              replace p222 := eq_true p222
              replace q222 := eq_true q222
              have p223 : 0 ≤ (x10_2 : Int) := of_decide_eq_true (by (with_reducible assumption))
              have q223 : x10_2 < ((rd_L2 l0 x8_1).length : Int) := of_decide_eq_true (by (with_reducible assumption))
              obtain ⟨ad223, e223, hx223_0⟩ := Kd.at_int HR222_0.out x10_2 p223 q223
              have hw223_0 := hx223_0
              cases e223
              replace hx223_0 := (HB.out.cell (World.block_lt_of_cell? w _ hx223_0)).trans hx223_0
              replace p223 := eq_true p223
              replace q223 := eq_true q223
              refine q1x (n := 18) (S := fun w' => w'.cell? (ad221.add (x10_2).toNat) = some (.int .u8 (rd x7_2 x10_2)) ∧ w'.cell? (ad220.add (x8_1).toNat) = some (.slice (some ad223) (rd_L2 l0 x8_1).length c222_0) ∧ w'.cell? (ad223.add (x10_2).toNat) = some (.int .u8 (rd (rd_L2 l0 x8_1) x10_2))) (ds := [17]) #[fF,fF,fF,fF,fF,fF,fF,fF,fF,fF,fF,fF,fF,fF,fF,fF,fF,fF] (by kernel_rfl) rfl rfl ⟨hx221_0, ((HB.out.cell (World.block_lt_of_cell? w _ hw222_0)).trans hw222_0), ((HB.out.cell (World.block_lt_of_cell? w _ hw223_0)).trans hw223_0)⟩ (fun hHeld => ?_); refine with_tabW r5_row.tab9 r5_row.bits9 (fun HT_ HW_ => ?_)
              generalize wr.drew = w18 at HO_7 HB HR222_0 hx221_0 hx222_0 hx223_0 hHeld ⊢
              refine pU 0 36 #[tT,fF,fF,fF,fF,fF,fF,fF,fF,fF,fF,fF,fF,fF,fF,fF,fF,fF] ?_ (hc := q0g HT_.out (by kernel_rfl))
              refine pU 1 37 #[tT,tT,fF,fF,fF,fF,fF,fF,fF,fF,fF,fF,fF,fF,fF,fF,fF,fF] ?_ (hc := q0g HT_.out (by kernel_rfl))
              refine pU 2 38 #[tT,tT,tT,fF,fF,fF,fF,fF,fF,fF,fF,fF,fF,fF,fF,fF,fF,fF] ?_ (hc := q0g HT_.out (by kernel_rfl))
              refine pU 3 39 #[tT,tT,tT,tT,fF,fF,fF,fF,fF,fF,fF,fF,fF,fF,fF,fF,fF,fF] ?_ (hc := q0g HT_.out (by kernel_rfl))
              refine pU 4 40 #[tT,tT,tT,tT,tT,fF,fF,fF,fF,fF,fF,fF,fF,fF,fF,fF,fF,fF] ?_ (hc := q0g HT_.out (by kernel_rfl))
              refine pU 6 42 #[tT,tT,tT,tT,tT,fF,tT,fF,fF,fF,fF,fF,fF,fF,fF,fF,fF,fF] ?_ (hc := q0g HT_.out (by kernel_rfl))
              refine pU 7 43 #[tT,tT,tT,tT,tT,fF,tT,tT,fF,fF,fF,fF,fF,fF,fF,fF,fF,fF] ?_ (hc := q0g HT_.out (by kernel_rfl))
              refine pU 8 44 #[tT,tT,tT,tT,tT,fF,tT,tT,tT,fF,fF,fF,fF,fF,fF,fF,fF,fF] ?_ (hc := q0g HT_.out (by kernel_rfl))
              refine pU 9 45 #[tT,tT,tT,tT,tT,fF,tT,tT,tT,tT,fF,fF,fF,fF,fF,fF,fF,fF] ?_ (hc := q0g HT_.out (by kernel_rfl))
              refine pU 11 47 #[tT,tT,tT,tT,tT,fF,tT,tT,tT,tT,fF,tT,fF,fF,fF,fF,fF,fF] ?_ (hc := q0g HT_.out (by kernel_rfl))
              refine tK 5 41 #[tT,tT,tT,tT,tT,tT,tT,tT,tT,tT,fF,tT,fF,fF,fF,fF,fF,fF] hHeld ?_ (hc := take_ofW HT_.out HW_.out (by kernel_rfl)) (hy := by
               rintro w' ⟨s0, s1, s2⟩
               go_simp
               with_reducible rfl)
              refine tK 10 46 #[tT,tT,tT,tT,tT,tT,tT,tT,tT,tT,tT,tT,fF,fF,fF,fF,fF,fF] hHeld ?_ (hc := take_ofW HT_.out HW_.out (by kernel_rfl)) (hy := by
               rintro w' ⟨s0, s1, s2⟩
               go_simp
               with_reducible rfl)
              refine pU 12 48 #[tT,tT,tT,tT,tT,tT,tT,tT,tT,tT,tT,tT,tT,fF,fF,fF,fF,fF] ?_ (hc := q0g HT_.out (by kernel_rfl))
              refine tK 13 49 #[tT,tT,tT,tT,tT,tT,tT,tT,tT,tT,tT,tT,tT,tT,fF,fF,fF,fF] hHeld ?_ (hc := take_ofW HT_.out HW_.out (by kernel_rfl)) (hy := by
               rintro w' ⟨s0, s1, s2⟩
               go_simp
               with_reducible rfl)
              refine one_ (i := 14) (N := some 50) #[tT,tT,tT,tT,tT,tT,tT,tT,tT,tT,tT,tT,tT,tT,tT,fF,fF,fF] rfl rfl (one_of HT_.out (by kernel_rfl)) (by decide) (fun K hK => ?_)
              refine goes_ Try.func58 (by kernel_rfl) rfl #[.int .u8 t219, .int .u8 (rd (rd_L2 l0 x8_1) x10_2)] (by rfl) rfl rfl (by (try simp only [List.map_toArray, List.map_cons, List.map_nil]); (rfl)) ?_
              with_reducible refine (r4_Mul.calls k2 t219 (rd (rd_L2 l0 x8_1) x10_2) t224 _ A16.out).mono ?_
              rintro e w' ⟨rfl, ⟨nd, rfl⟩⟩
              refine ⟨_, rfl, ?_⟩
              have p17 : 0 ≤ (x10_2 : Int) := of_decide_eq_true (by (with_reducible assumption))
              have q17 : (x10_2 : Int) < ((x7_2.length : Int) : Int) := of_decide_eq_true (by (with_reducible assumption))
              obtain ⟨go17, co17, eo17, gb17, gl17, cl17, HG17⟩ := Kd.R_form HO_7.out (by omega)
              (cases eo17)
              have GB17 := sqM gb17
              have GG17 := sqM HG17
              clear gb17 gl17 HG17
              (simp only [add_plain] at hx221_0)
              obtain ⟨hx17_0, hf17_0⟩ := Kd.R_celln 0 HO_7.out (x10_2 : Int) p17 q17
              replace p17 := eq_true p17
              replace q17 := eq_true q17
              have HP20 := Kd.R_putn HO_7.out (x10_2 : Int) (Go.bits .xor .u8 (rd x7_2 x10_2) t224)
              rw [← Ny225.out] at HP20
              have HQ20 := sqM HP20
              clear HP20
              refine hK.out _ _ ⟨hHeld.1, ((HB.out.cell (World.block_lt_of_cell? w _ hw222_0)).trans hw222_0), ((HB.out.cell (World.block_lt_of_cell? w _ hw223_0)).trans hw223_0)⟩ (fun hHeld => ?_)
              clear hK K
              refine norm_ (a' := ?_) ?_ ?_
              rotate_left
              · show Act.put _ (some 50) _ = _
                simp only [Act.put, sqA, sqB, sqC, i64_w, i32_w]
                rfl
              refine pU 15 51 #[tT,tT,tT,tT,tT,tT,tT,tT,tT,tT,tT,tT,tT,tT,tT,tT,fF,fF] ?_ (hc := q0g HT_.out (by kernel_rfl))
              refine pU 16 52 #[tT,tT,tT,tT,tT,tT,tT,tT,tT,tT,tT,tT,tT,tT,tT,tT,tT,fF] ?_ (hc := q0g HT_.out (by kernel_rfl))
              refine last_ (i := 17) (N := none) #[tT,tT,tT,tT,tT,tT,tT,tT,tT,tT,tT,tT,tT,tT,tT,tT,tT,tT] rfl rfl (one_of HT_.out (by kernel_rfl)) (by decide) (fun K hK => ?_)
              refine skip_ (w1 := ?_) (by rfl) rfl ?_ ?_
              rotate_left
              · go_simp
                rfl
              refine hK.out _ _ ?_
              clear hK K
              refine done_ (done_of HT_.out (by kernel_rfl)) ?_
              try go_wp2
              go_roundg k2
              case measure => have := HK1.out; have := HK2.out; omega
              case rel => exact ⟨(y225), (wrap64 (x10_2 + 1)), (by rfl), H', ⟨by have := HK1.out; have := HK2.out; omega⟩, ⟨by (with_reducible repeat (first | apply Kd.R_alloc | apply Kd.R_drewN | apply Kd.R_drew)); exact HQ20.out⟩, ⟨by repeat ((with_reducible first | exact HB.out | apply q00 | refine q0m ?_ GB17.out))⟩⟩
             · rw [if_neg c15] at H
               exact absurd H (by simp)
            · rw [if_neg c14] at H
              exact absurd H (by simp)
           ·
            rw [if_neg c13] at H
            have c13b0 : decide (x10_2 < a2) = false := decide_eq_false c13
            clear c13
            have H' := sqM H
            clear H
            have p220 : 0 ≤ (x8_1 : Int) := of_decide_eq_true (by (with_reducible assumption))
            have q220 : x8_1 < (l0.length : Int) := of_decide_eq_true (by (with_reducible assumption))
            obtain ⟨ad220, A220_0, c220_0, e220, hx220_0, hl220_0, hi220_0⟩ := at_L2 HR0.out x8_1 p220 q220
            cases e220
            replace hx220_0 := (HB.out.cell (World.block_lt_of_cell? w _ hx220_0)).trans hx220_0
            have HR220_0 := sqM hi220_0
            have HC220_0 := sqM hl220_0
            clear hi220_0 hl220_0
            replace p220 := eq_true p220
            replace q220 := eq_true q220
            go_wp2
            go_roundg k2
            case measure => have := HK1.out; have := HK2.out; omega
            case rel => exact ⟨(x7_2), (wrap64 (x8_1 + 1)), (by rfl), H', ⟨by have := HK1.out; have := HK2.out; omega⟩, ⟨by (with_reducible repeat (first | apply Kd.R_alloc | apply Kd.R_drewN | apply Kd.R_drew)); exact HO_7.out⟩, ⟨by repeat ((with_reducible (exact HB.out)))⟩⟩
          ·
           rw [if_neg c12] at H
           have c12b0 : decide (x10_2 < ((rd_L2 l0 x8_1).length : Int)) = false := decide_eq_false c12
           clear c12
           have H' := sqM H
           clear H
           have p220 : 0 ≤ (x8_1 : Int) := of_decide_eq_true (by (with_reducible assumption))
           have q220 : x8_1 < (l0.length : Int) := of_decide_eq_true (by (with_reducible assumption))
           obtain ⟨ad220, A220_0, c220_0, e220, hx220_0, hl220_0, hi220_0⟩ := at_L2 HR0.out x8_1 p220 q220
           cases e220
           replace hx220_0 := (HB.out.cell (World.block_lt_of_cell? w _ hx220_0)).trans hx220_0
           have HR220_0 := sqM hi220_0
           have HC220_0 := sqM hl220_0
           clear hi220_0 hl220_0
           replace p220 := eq_true p220
           replace q220 := eq_true q220
           go_wp2
           go_roundg k2
           case measure => have := HK1.out; have := HK2.out; omega
           case rel => exact ⟨(x7_2), (wrap64 (x8_1 + 1)), (by rfl), H', ⟨by have := HK1.out; have := HK2.out; omega⟩, ⟨by (with_reducible repeat (first | apply Kd.R_alloc | apply Kd.R_drewN | apply Kd.R_drew)); exact HO_7.out⟩, ⟨by repeat ((with_reducible (exact HB.out)))⟩⟩
         · rw [if_neg c11] at H
           exact absurd H (by simp)
        · rw [if_neg c10] at H
          exact absurd H (by simp)
     · rw [if_neg c8] at H
       have c8b0 : decide (x8_1 < (l0.length : Int)) = false := decide_eq_false c8
       clear c8
       obtain rfl := Option.some.inj H
       go_wp2
       go_ret
       exact ⟨_, by rfl, by (with_reducible repeat (first | apply Kd.R_alloc | apply Kd.R_drewN | apply Kd.R_drew)); exact HO_7.out, by repeat ((with_reducible (exact HB.out)))⟩
  · rw [if_neg c5] at H
    exact absurd H (by simp)
 · rw [if_neg c4] at H
   exact absurd H (by simp)
end Go.Proofs.Ytdhajlkiiphlfaa.QR
