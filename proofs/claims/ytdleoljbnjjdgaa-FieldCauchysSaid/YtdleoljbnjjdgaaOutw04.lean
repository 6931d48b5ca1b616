/- A part of a proof: see the text's own remark. No conditions beyond its theorems' own. -/
import Derived.Test.YtdleoljbnjjdgaaOuter04
/-! outer, walked -/
namespace Go.Proofs.Ytdleoljbnjjdgaa.Bok
open Go.RowKit Go.Proofs.Ytdleoljbnjjdgaa.QCFieldCauchys Go.Proofs.YtdleoljbnjjdgaaW.PrintWords Go.Proofs.YtdleoljbnjjdgaaW.PrintLast Go.Proofs.YtdleoljbnjjdgaaW.PrintMore
set_option linter.unusedVariables false
set_option linter.unusedSimpArgs false
set_option maxHeartbeats 800000 in
set_option maxRecDepth 100000 in
theorem outer_calls (w0 w : World) (Aa Ab : Option Addr) (ca cb na nb : Nat) (ha hb : List Hdr) (hbel : Below w0.heap.size w0 w) (hoa : w.ownsRow w0.heap.size 29 1 (.slice Aa na ca) na (encs hdV ha)) (hob : w.ownsRow w0.heap.size 29 1 (.slice Ab nb cb) nb (encs hdV hb))
    (hla : ha.length = na) (hlb : hb.length = nb) (hne : (Value.slice Aa na ca).ownBlock = none ∨ (Value.slice Aa na ca).ownBlock ≠ (Value.slice Ab nb cb).ownBlock) (h1 : na ≤ 1000) (h2 : nb ≤ 1000) :
    Calls Try.prog 26 #[.slice Aa na ca, .slice Ab nb cb] w fun e w' => e = .returned (.bool true) ∧ Below w0.heap.size w0 w' ∧ w.heap.size ≤ w'.heap.size ∧ (∀ k, k < w.heap.size → some k ≠ (Value.slice Aa na ca).ownBlock → some k ≠ (Value.slice Ab nb cb).ownBlock → w'.heap[k]? = w.heap[k]?) ∧
      (∃ xa : List Hdr, xa.length = na ∧ w'.ownsRow w0.heap.size 29 1 (.slice Aa na ca) na (encs hdV xa)) ∧ ∃ xb : List Hdr, xb.length = nb ∧ w'.ownsRow w0.heap.size 29 1 (.slice Ab nb cb) nb (encs hdV xb) := by
  subst hla
  subst hlb
  have HBL := Aside0.mk hbel
  have HOA := Aside0.mk hoa
  have HOB := Aside0.mk hob
  have HNE := Aside0.mk hne
  have H1 := Aside0.mk h1
  have H2 := Aside0.mk h2
  clear hbel hoa hob hne h1 h2
  go_enter Try.func26, Try.ntmps26
  go_wp2
  have HO : Aside0 (Oa w0 w ((w.alloc (.cells #[.int .u8 1] 5)).alloc (.cells #[.int .u8 2] 5)) (.slice Aa ha.length ca) (.slice Ab hb.length cb) ha hb w.heap.size (w.heap.size + 1)) :=
    ⟨below_then HBL.out HBL.out.size (below_alloc (below_alloc (Below.refl _ _) _) _), (below_alloc (below_alloc (Below.refl w.heap.size w) _) _).size, fun k hk _ _ => (below_alloc (below_alloc (Below.refl w.heap.size w) (.cells #[.int .u8 1] 5)) (.cells #[.int .u8 2] 5)).block k hk, own_below5 HOA.out (below_alloc (below_alloc (Below.refl _ _) _) _), own_below5 HOB.out (below_alloc (below_alloc (Below.refl _ _) _) _), HNE.out, heap_alloc2_old _ _ _, heap_alloc2_new _ _ _⟩
  generalize (w.alloc (.cells #[.int .u8 1] 5)).alloc (.cells #[.int .u8 2] 5) = w1 at *
  go_loopw [7] (fun v7 wr => ∃ i : Nat, i ≤ ha.length ∧ v7 = .int .i64 (i : Int) ∧ Aside0 (Oa w0 w wr (.slice Aa ha.length ca) (.slice Ab hb.length cb) (List.replicate i (some ⟨w.heap.size, 0, none⟩, 1, 1) ++ ha.drop i) hb w.heap.size (w.heap.size + 1))) (fun v7 _ => ha.length - (intOf v7).toNat)
  case atStart => exact ⟨0, Nat.zero_le _, rfl, by exact HO⟩
  case round =>
    clear HO
    obtain ⟨i, hi, rfl, HO⟩ := hrel
    by_cases hlt : i < ha.length
    · --{ 1
      have hd1 : decide ((i : Int) < (ha.length : Int)) = true := decide_eq_true (by omega)
      have hd1' : decide (i < ha.length) = true := decide_eq_true hlt
      obtain ⟨ga, rfl⟩ := own_some HO.out.oa (by omega)
      obtain ⟨u, hc, hf, hl⟩ := head_cell HO.out.oa i (by rw [rep_len _ _ hi]; exact hlt)
      have HS := Aside0.mk (rep_set ((some ⟨w.heap.size, 0, none⟩, 1, 1) : Hdr) ha hlt)
      have HLT := Aside0.mk hlt
      have HW1 := Aside0.mk (wr1 (i := i) hlt (by have := H1.out; omega))
      have hli : (i : Int) < (ha.length : Int) := by omega
      have HO2 : Aside0 (Oa w0 w (wr.setCell ⟨ga, i, none⟩ (.slice (some ⟨w.heap.size, 0, none⟩) 1 1)) (.slice (some ⟨ga, 0, none⟩) ha.length ca) (.slice Ab hb.length cb) (List.replicate (i + 1) (some ⟨w.heap.size, 0, none⟩, 1, 1) ++ ha.drop (i + 1)) hb w.heap.size (w.heap.size + 1)) := ⟨by
        rw [← HS.out]; exact HO.out.setA i (some ⟨w.heap.size, 0, none⟩, 1, 1)⟩
      clear hlt hi
      go_wp2
      clear hc hf hl
      go_roundw
      case rel => exact ⟨i + 1, HLT.out, by rw [HW1.out], HO2⟩
      case measure => exact meas HW1.out HLT.out
      --}
    · have hd1 : decide ((i : Int) < (ha.length : Int)) = false := decide_eq_false (by omega)
      have hd1' : decide (i < ha.length) = false := decide_eq_false hlt
      obtain rfl : i = ha.length := by omega
      rw [List.drop_of_length_le (Nat.le_refl _), List.append_nil] at HO
      clear hlt hi
      go_wp2
      go_loopw [8] (fun v8 wr => ∃ i : Nat, i ≤ hb.length ∧ v8 = .int .i64 (i : Int) ∧ Aside0 (Oa w0 w wr (.slice Aa ha.length ca) (.slice Ab hb.length cb) (List.replicate ha.length (some ⟨w.heap.size, 0, none⟩, 1, 1)) (List.replicate i (some ⟨w.heap.size + 1, 0, none⟩, 1, 1) ++ hb.drop i) w.heap.size (w.heap.size + 1))) (fun v8 _ => hb.length - (intOf v8).toNat)
      case atStart => exact ⟨0, Nat.zero_le _, rfl, by exact HO⟩
      case round =>
        clear HO
        obtain ⟨i, hi, rfl, HO⟩ := hrel
        by_cases hlt : i < hb.length
        · --{ 2
          have hd2 : decide ((i : Int) < (hb.length : Int)) = true := decide_eq_true (by omega)
          have hd2' : decide (i < hb.length) = true := decide_eq_true hlt
          obtain ⟨gb, rfl⟩ := own_some HO.out.ob (by omega)
          obtain ⟨u, hc, hf, hl⟩ := head_cell HO.out.ob i (by rw [rep_len _ _ hi]; exact hlt)
          have HS := Aside0.mk (rep_set ((some ⟨w.heap.size + 1, 0, none⟩, 1, 1) : Hdr) hb hlt)
          have HLT := Aside0.mk hlt
          have HW1 := Aside0.mk (wr1 (i := i) hlt (by have := H2.out; omega))
          have hli : (i : Int) < (hb.length : Int) := by omega
          have HO2 : Aside0 (Oa w0 w (wr.setCell ⟨gb, i, none⟩ (.slice (some ⟨w.heap.size + 1, 0, none⟩) 1 1)) (.slice Aa ha.length ca) (.slice (some ⟨gb, 0, none⟩) hb.length cb) (List.replicate ha.length (some ⟨w.heap.size, 0, none⟩, 1, 1)) (List.replicate (i + 1) (some ⟨w.heap.size + 1, 0, none⟩, 1, 1) ++ hb.drop (i + 1)) w.heap.size (w.heap.size + 1)) := ⟨by
            rw [← HS.out]; exact HO.out.setB i (some ⟨w.heap.size + 1, 0, none⟩, 1, 1)⟩
          clear hlt hi
          go_wp2
          clear hc hf hl
          go_roundw
          case rel => exact ⟨i + 1, HLT.out, by rw [HW1.out], HO2⟩
          case measure => exact meas HW1.out HLT.out
          --}
        · have hd2 : decide ((i : Int) < (hb.length : Int)) = false := decide_eq_false (by omega)
          have hd2' : decide (i < hb.length) = false := decide_eq_false hlt
          obtain rfl : i = hb.length := by omega
          rw [List.drop_of_length_le (Nat.le_refl _), List.append_nil] at HO
          clear hlt hi
          have HG := Aside0.mk HO.out.grow
          clear HO
          go_wp2
          go_loopw [9, 11] (fun v9 v11 wr => ∃ (k : Nat) (vg : Value), k ≤ 20 ∧ vg = v9 ∧ v11 = .int .i64 (k : Int) ∧ Aside0 (Og w0 w wr (.slice Aa ha.length ca) (.slice Ab hb.length cb) vg (.slice Ab hb.length cb) ha.length hb.length (ha.length + k) hb.length (hdV (some ⟨w.heap.size, 0, none⟩, 1, 1)) (hdV (some ⟨w.heap.size + 1, 0, none⟩, 1, 1)) w.heap.size (w.heap.size + 1))) (fun _ v11 _ => 20 - (intOf v11).toNat)
          case atStart => exact ⟨0, _, Nat.zero_le _, rfl, rfl, HG⟩
          case round =>
            clear HG
            obtain ⟨k, vg, hk, rfl, rfl, HG⟩ := hrel
            by_cases hlt : k < 20
            · --{ 3
              have hd3 : decide ((k : Int) < 20) = true := decide_eq_true (by omega)
              have hd3' : decide (k < 20) = true := decide_eq_true hlt
              have HLT := Aside0.mk hlt
              have HW1 := Aside0.mk (wr1 (i := k) hlt (by omega))
              clear hlt hk
              go_wp2_with (first
                | ((with_reducible refine gate_builtin (b := .append) (xs := #[.tmp 43, .tmp 45]) rfl ?_); at_builtin; refine print_append_mark (w0 := w0) w0.heap.size rfl (.tmp 43) (.tmp 45) 38 29 (.slice none 0 0) 24 rfl Try.underlying38 info29 rfl (by decide) vg (ha.length + k) (hdV (some ⟨w.heap.size, 0, none⟩, 1, 1)) ?q1 ?q2 ?q3 HG.out.og HG.out.below HG.out.base ?q4 ?_; (case q3 => exact rfl); (case q4 => have := H1.out; have := HLT.out; omega); (case q1 => rfl); (case q2 => rfl); intro y9 w6 hown hbb hff hat; have HG6 := Aside0.mk (HG.out.growG hown hbb hff hat); clear hown hbb hff hat))
              go_roundw
              case rel => exact ⟨k + 1, _, HLT.out, rfl, by rw [HW1.out], HG6⟩
              case measure => exact meas HW1.out HLT.out
              --}
            · have hd3 : decide ((k : Int) < 20) = false := decide_eq_false (by omega)
              have hd3' : decide (k < 20) = false := decide_eq_false hlt
              have HK : Aside0 (k ≤ 20) := ⟨hk⟩
              clear hlt hk
              go_wp2
              go_loopw [10, 12] (fun v10 v12 wr => ∃ (q : Nat) (vh : Value), q ≤ 20 ∧ vh = v10 ∧ v12 = .int .i64 (q : Int) ∧ Aside0 (Og w0 w wr (.slice Aa ha.length ca) (.slice Ab hb.length cb) vg vh ha.length hb.length (ha.length + k) (hb.length + q) (hdV (some ⟨w.heap.size, 0, none⟩, 1, 1)) (hdV (some ⟨w.heap.size + 1, 0, none⟩, 1, 1)) w.heap.size (w.heap.size + 1))) (fun _ v12 _ => 20 - (intOf v12).toNat)
              case atStart => exact ⟨0, _, Nat.zero_le _, rfl, rfl, HG⟩
              case round =>
                clear HG
                obtain ⟨q, vh, hk, rfl, rfl, HG⟩ := hrel
                by_cases hlt : q < 20
                · --{ 4
                  have hd4 : decide ((q : Int) < 20) = true := decide_eq_true (by omega)
                  have hd4' : decide (q < 20) = true := decide_eq_true hlt
                  have HLT := Aside0.mk hlt
                  have HW1 := Aside0.mk (wr1 (i := q) hlt (by omega))
                  clear hlt hk
                  go_wp2_with (first
                    | ((with_reducible refine gate_builtin (b := .append) (xs := #[.tmp 51, .tmp 53]) rfl ?_); at_builtin; refine print_append_mark (w0 := w0) w0.heap.size rfl (.tmp 51) (.tmp 53) 38 29 (.slice none 0 0) 24 rfl Try.underlying38 info29 rfl (by decide) vh (hb.length + q) (hdV (some ⟨w.heap.size + 1, 0, none⟩, 1, 1)) ?q1 ?q2 ?q3 HG.out.oh HG.out.below HG.out.base ?q4 ?_; (case q3 => exact rfl); (case q4 => have := H2.out; have := HLT.out; omega); (case q1 => rfl); (case q2 => rfl); intro y10 w6 hown hbb hff hat; have HG6 := Aside0.mk (HG.out.growH hown hbb hff hat); clear hown hbb hff hat))
                  go_roundw
                  case rel => exact ⟨q + 1, _, HLT.out, rfl, by rw [HW1.out], HG6⟩
                  case measure => exact meas HW1.out HLT.out
                  --}
                · have hd4 : decide ((q : Int) < 20) = false := decide_eq_false (by omega)
                  have hd4' : decide (q < 20) = false := decide_eq_false hlt
                  have HQ : Aside0 (q ≤ 20) := ⟨hk⟩
                  clear hlt hk
                  obtain ⟨Ag, cg, rfl⟩ := own_form HG.out.og
                  obtain ⟨Ah, ch, rfl⟩ := own_form HG.out.oh
                  have HGF := HG
                  clear HG
                  go_wp2
                  go_loopw [13] (fun v13 wz => ∃ i : Nat, i ≤ ha.length + k ∧ v13 = .int .i64 (i : Int) ∧ Aside0 (Below wr.heap.size wr wz)) (fun v13 _ => ha.length + k - (intOf v13).toNat)
                  case atStart => exact ⟨0, Nat.zero_le _, rfl, ⟨Below.refl _ _⟩⟩
                  case round =>
                    obtain ⟨i, hi, rfl, HB⟩ := hrel
                    by_cases hlt : i < ha.length + k
                    · --{ 5
                      have hd5 : decide ((i : Int) < (ha.length : Int) + (k : Int)) = true := decide_eq_true (by omega)
                      have hd5' : decide (i < ha.length + k) = true := decide_eq_true hlt
                      have hd5b : decide ((i : Int) < ((ha.length + k : Nat) : Int)) = true := decide_eq_true (by omega)
                      have HG2 := HGF.out.moved HB.out
                      obtain ⟨gg, rfl⟩ := own_some HG2.og (by omega)
                      have hc := rep_at HG2.og hlt
                      have hc' : wr.cell? ⟨gg, i, none⟩ = some (.slice (some ⟨w.heap.size, 0, none⟩) 1 1) := hc
                      have kst := Kd.C_string (P := Try.prog) (c := 1) Try.underlying29 Try.underlying5 Try.underlying9 (one_C HG2.x)
                      rw [show strOfNums [1] = ⟨#[1]⟩ from rfl] at kst
                      have HLT := Aside0.mk hlt
                      have HW1 := Aside0.mk (wr1 (i := i) hlt (by have := H1.out; have := HK.out; omega))
                      have hli : (i : Int) < (ha.length : Int) + (k : Int) := by omega
                      have hli2 : (i : Int) < ((ha.length + k : Nat) : Int) := by omega
                      clear hlt hi HG2 hc
                      go_wp2
                      clear hc' kst
                      go_roundw
                      case rel => exact ⟨i + 1, HLT.out, by rw [HW1.out], HB⟩
                      case measure => exact meas HW1.out HLT.out
                      --}
                    · have hd5 : decide ((i : Int) < (ha.length : Int) + (k : Int)) = false := decide_eq_false (by omega)
                      have hd5' : decide (i < ha.length + k) = false := decide_eq_false hlt
                      have hd5b : decide ((i : Int) < ((ha.length + k : Nat) : Int)) = false := decide_eq_false (by omega)
                      clear hlt hi
                      have HGE := Aside0.mk (HGF.out.moved HB.out)
                      clear HGF HB
                      go_wp2
                      go_loopw [14] (fun v14 wz => ∃ i : Nat, i ≤ hb.length + q ∧ v14 = .int .i64 (i : Int) ∧ Aside0 (Below wr.heap.size wr wz)) (fun v14 _ => hb.length + q - (intOf v14).toNat)
                      case atStart => exact ⟨0, Nat.zero_le _, rfl, ⟨Below.refl _ _⟩⟩
                      case round =>
                        obtain ⟨j, hj, rfl, HB⟩ := hrel
                        by_cases hlt : j < hb.length + q
                        · --{ 6
                          have hd6 : decide ((j : Int) < (hb.length : Int) + (q : Int)) = true := decide_eq_true (by omega)
                          have hd6' : decide (j < hb.length + q) = true := decide_eq_true hlt
                          have hd6b : decide ((j : Int) < ((hb.length + q : Nat) : Int)) = true := decide_eq_true (by omega)
                          have HG2 := HGE.out.moved HB.out
                          obtain ⟨gh, rfl⟩ := own_some HG2.oh (by omega)
                          have hc := rep_at HG2.oh hlt
                          have hc' : wr.cell? ⟨gh, j, none⟩ = some (.slice (some ⟨w.heap.size + 1, 0, none⟩) 1 1) := hc
                          have kst := Kd.C_string (P := Try.prog) (c := 1) Try.underlying29 Try.underlying5 Try.underlying9 (one_C HG2.y)
                          rw [show strOfNums [2] = ⟨#[2]⟩ from rfl] at kst
                          have HLT := Aside0.mk hlt
                          have HW1 := Aside0.mk (wr1 (i := j) hlt (by have := H2.out; have := HQ.out; omega))
                          have hli : (j : Int) < (hb.length : Int) + (q : Int) := by omega
                          have hli2 : (j : Int) < ((hb.length + q : Nat) : Int) := by omega
                          clear hlt hj HG2 hc
                          go_wp2
                          clear hc' kst
                          go_roundw
                          case rel => exact ⟨j + 1, HLT.out, by rw [HW1.out], HB⟩
                          case measure => exact meas HW1.out HLT.out
                          --}
                        · have hd6 : decide ((j : Int) < (hb.length : Int) + (q : Int)) = false := decide_eq_false (by omega)
                          have hd6' : decide (j < hb.length + q) = false := decide_eq_false hlt
                          have hd6b : decide ((j : Int) < ((hb.length + q : Nat) : Int)) = false := decide_eq_false (by omega)
                          clear hlt hj
                          have HGZ := Aside0.mk (HGE.out.moved HB.out)
                          go_wp2
                          go_ret
                          exact ⟨rfl, HGZ.out.below, HGZ.out.size, HGZ.out.ent, ⟨_, List.length_replicate, by rw [encs_rep]; exact HGZ.out.oa⟩, ⟨_, List.length_replicate, by rw [encs_rep]; exact HGZ.out.ob⟩⟩
end Go.Proofs.Ytdleoljbnjjdgaa.Bok
