/- A part of a proof: see the text's own remark. No conditions beyond its theorems' own. -/
import Derived.Test.YtdhajlkiiphlfaaQBaseParityWidex4
import Derived.Test.YtdhajlkiiphlfaaCopy
namespace Go.Proofs.Ytdhajlkiiphlfaa.Solve
open Go.RowKit Go.Proofs.YtdhajlkiiphlfaaW.PrintWords Go.Proofs.YtdhajlkiiphlfaaW.PrintLast Go.Proofs.YtdhajlkiiphlfaaW.PrintMore Go.Proofs.Ytdhajlkiiphlfaa.QBaseParityWide Go.Proofs.Ytdhajlkiiphlfaa.CopyR
set_option linter.unusedVariables false
set_option linter.unusedSimpArgs false
theorem info5 : (Try.prog.info? 5).map (fun i => (i.zero, i.size, i.bytes)) = some (some (.int .u8 0), 1, 1) := by kernel_rfl
theorem info41 : (Try.prog.info? 41).map (fun i => (i.zero, i.size, i.bytes)) = some (some (.slice none 0 0), 1, 24) := by kernel_rfl
theorem size5 : (Try.prog.info? 5).map (·.size) = some 1 := by kernel_rfl
theorem copied_all (row : List Int) : copied (List.replicate (row.length : Int).toNat 0) row = row := by
  unfold copied
  rw [List.length_replicate, Int.toNat_natCast, List.take_length, List.drop_replicate]
  simp
theorem meas {n i : Nat} {x : Int} (h : x = ((i + 1 : Nat) : Int)) (hl : i < n) : n - (intOf (.int .i64 x)).toNat < n - (intOf (.int .i64 (i : Int))).toNat := by subst h; simp only [intOf, Int.toNat_natCast]; omega
set_option maxHeartbeats 400000 in
set_option maxRecDepth 100000 in
theorem copied_calls (A0 : Option Addr) (c0 : Nat) (l0 : List (List Int)) (w : World) (hr0 : Kd.C (Kd.slice 5 (Kd.int .u8)) w A0 l0.length l0) (hc0 : l0.length ≤ c0) (hn : l0.length ≤ 256) (hrow : ∀ r ∈ l0, r.length ≤ 281474976710656) :
    Calls Try.prog 49 #[.slice A0 l0.length c0] w fun e w' => ∃ v0_, e = .returned v0_ ∧ Kd.S (Kd.slice 5 (Kd.int .u8)) 41 w' w.heap.size (fun _ => True) v0_ l0 ∧ Below w.heap.size w w' := by
  have HR0 := Aside0.mk hr0
  have HC0 := Aside0.mk hc0
  have HN := Aside0.mk hn
  have HL := Aside0.mk hrow
  clear hr0 hc0 hn hrow
  go_enter Try.func49, Try.ntmps49
  go_wp2
  go_loopw [3, 9] (fun v3 v9 wr => ∃ i : Nat, i ≤ l0.length ∧ v9 = .int .i64 (i : Int) ∧ Aside0 (Kd.S (Kd.slice 5 (Kd.int .u8)) 41 wr w.heap.size (fun _ => True) v3 (l0.take i)) ∧ Aside0 (Below w.heap.size w wr)) (fun _ v9 _ => l0.length - (intOf v9).toNat)
  case atStart => exact ⟨0, Nat.zero_le _, rfl, ⟨Kd.S_nil _ _ _ _ _⟩, ⟨by repeat (first | (with_reducible first | exact Below.refl _ _ | apply below_alloc | apply pw_below_drewN | apply below_drew1))⟩⟩
  case round =>
    obtain ⟨i, hi, rfl, HS, HB⟩ := hrel
    by_cases hlt : i < l0.length
    · obtain ⟨ad, A1, c1, e1, hx1, hl1, hi1⟩ := at_L2 HR0.out (i : Int) (by omega) (by omega)
      cases e1
      rw [Int.toNat_natCast] at hx1
      replace hx1 := (HB.out.cell (World.block_lt_of_cell? w _ hx1)).trans hx1
      obtain ⟨row, hrw⟩ : ∃ row, row = rd_L2 l0 (i : Int) := ⟨_, rfl⟩
      rw [← hrw] at hx1 hl1 hi1
      have HR1 := Aside0.mk hi1
      have HC1 := Aside0.mk hl1
      clear hi1 hl1
      have hgt : l0[i]? = some row := by
        rw [hrw]; unfold rd_L2
        rw [Int.toNat_natCast, List.getD_eq_getElem?_getD, List.getElem?_eq_getElem hlt]; rfl
      have hrl : row.length ≤ 281474976710656 := HL.out row (List.mem_of_getElem? hgt)
      have hap : l0.take (i + 1) = l0.take i ++ [row] := by rw [List.take_add_one, hgt]; rfl
      have HAP := Aside0.mk hap
      have HRL := Aside0.mk hrl
      have HLT := Aside0.mk hlt
      clear hap hrl hgt hrw
      go_wp2_with (first
        | (refine Kd.R_make (Kd.int .u8) _ 5 rfl (N := 15) rfl 41 _ _ rfl (row.length : Int) rfl rfl Try.underlying41 (.int .u8 0) 1 info5 rfl (by decide) (by omega) 0 (ok := fun _ => True) (okp := fun _ => True) rfl (fun _ hk => hk) trivial (by omega) (by have := HRL.out; omega) (Below.refl _ _) (Nat.le_refl _) ?_; intro v5 w5 ho5 hb hg_ hnew_; clear hg_ hnew_; obtain ⟨A5, c5, e5⟩ := Kd.R_slice ho5; rw [List.length_replicate, Int.toNat_natCast] at e5; subst e5; have HO5 := Aside0.mk ho5; have HB5 := Aside0.mk hb; clear ho5 hb)
        | (refine wpList_copy_R rfl (.tmp 16) (.tmp 17) 41 41 rfl Try.underlying41 size5 (v := .slice A5 row.length c5) rfl HO5.out rfl (Kd.C_below HR1.out (below_step HB.out HB5.out)) HB5.out (Nat.le_refl _) ?_; intro w6 ho6 hb6; have HS6 := Aside0.mk (Kd.S_elder' HS.out (Kd.R_base ho6.out) hb6); have HO6 := Aside0.mk (Kd.R_lower ho6.out (below_size HB.out)); have HB6 := Aside0.mk (below_step HB.out hb6); rw [copied_all] at HO6; clear hb6 ho6 HO5 HB5 HS HB)
        | (refine Kd.S_append (Kd.slice 5 (Kd.int .u8)) (w0 := w) w.heap.size rfl (.tmp 19) (.tmp 21) 35 41 (.slice none 0 0) 24 rfl Try.underlying35 info41 rfl (by decide) (by omega) u3 (l0.take i) row [.slice A5 row.length c5] (fun _ => True) (fun k_ => some k_ = (.slice A5 row.length c5 : Value).ownBlock) rfl rfl ?aP (fun k_ hk_ => ((Kd.R_mono (ok' := fun k_ => ((fun _ => True)) k_ ∧ some k_ ≠ (u3 : Value).ownBlock) (Kd.R_apart' (HO6.out) (Kd.S_typed HS6.out) (by decide)) (fun k_ hk => ⟨trivial, hk.2⟩))).1 k_ hk_.symm) ?aF ?aO ?aB ?aS ?aL ?_; (case aP => exact Kd.M_row (Kd.R_mono (Kd.R_tight rfl (Kd.R_mono (ok' := fun k_ => ((fun _ => True)) k_ ∧ some k_ ≠ (u3 : Value).ownBlock) (Kd.R_apart' (HO6.out) (Kd.S_typed HS6.out) (by decide)) (fun k_ hk => ⟨trivial, hk.2⟩))) (fun _ h_ => h_))); (case aB => exact HB6.out); (case aF => exact (fun _ _ => trivial)); (case aO => exact Kd.S_mono HS6.out (fun k_ hk => ⟨trivial, fun e_ => hk.2 e_⟩)); (case aS => exact (below_size HB6.out)); (case aL => have := HLT.out; have := HN.out; rw [List.length_take]; omega); intro v7 w7 ho hb hg hat; rw [← HAP.out] at ho; have HB7 := Aside0.mk hb; have HS7 := Aside0.mk ho; clear HB6 HO6 HS6; clear ho hb hg hat))
      have hw1 : wrap64 ((i : Int) + 1) = ((i + 1 : Nat) : Int) := by have := HN.out; have := HLT.out; unfold wrap64; omega
      go_roundw
      case rel => exact ⟨i + 1, HLT.out, by rw [hw1], HS7, HB7⟩
      case measure => have := HLT.out; exact meas hw1 this
    · obtain rfl : i = l0.length := by omega
      rw [List.take_length] at HS
      go_wp2
      go_ret
      exact ⟨_, rfl, by (with_reducible repeat (first | apply Kd.S_alloc | apply Kd.S_drewN | apply Kd.S_drew)); exact HS.out, by repeat (first | (with_reducible first | exact HB.out | apply below_alloc | apply pw_below_drewN | apply below_drew1) | exact HB.out)⟩
end Go.Proofs.Ytdhajlkiiphlfaa.Solve
