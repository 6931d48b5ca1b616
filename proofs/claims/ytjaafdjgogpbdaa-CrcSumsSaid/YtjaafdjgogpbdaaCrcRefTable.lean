/- The walk of the document's Table. -/
import Derived.Test.YtjaafdjgogpbdaaCrcRef
import Derived.Test.YtjaafdjgogpbdaaCrcShown
namespace Go.Proofs.Ytjaafdjgogpbdaa.CrcWalk
open Go.RowKit Go.Proofs.YtjaafdjgogpbdaaW.PrintWords Go.Proofs.Ytjaafdjgogpbdaa.Math Go.Proofs.Ytjaafdjgogpbdaa.Bits Go.Proofs.Ytjaafdjgogpbdaa.QBaseCrcSums
theorem byte_none (k : Nat) : Crc.byteStep 0 k = Crc.Xn 8 (k * 2 ^ 24) := congrArg (Crc.Xn 8) (Nat.zero_xor _)
theorem dv_cons (s c : Nat) (l : List Nat) : Crc.dv s (c :: l) = Crc.dv (Crc.byteStep s c) l := rfl
theorem dv_nil (s : Nat) : Crc.dv s [] = s := rfl
theorem p24 : (2 : Nat) ^ 24 = 16777216 := by decide
theorem dv_one (k : Nat) : Crc.dv 0 [k] = Crc.Xn 8 (k * 16777216) := by
  rw [dv_cons, dv_nil, byte_none, p24]
theorem nat_one (k : Nat) : CrcRef.nat [(k : Int)] = [k] := by
  unfold CrcRef.nat
  rw [List.map_cons, Int.toNat_natCast]; rfl
theorem rem_byte (K : Nat) (hK : 48 ≤ K) (k : Nat) (hk : k < 256) : dailiesref03_Remainder.f K [(k : Int)] = some ((Crc.Xn 8 (k * 16777216) : Nat) : Int) := by
  have h := CrcRef.refRem_f [(k : Int)] (by intro x hx; simp at hx; omega) (by simp) K (by simpa using hK)
  rw [nat_one, dv_one] at h
  exact h
set_option maxHeartbeats 800000 in
set_option maxRecDepth 100000 in
theorem refTable_calls (w : World) : Calls Try.prog 14 #[] w fun e w' => e = .returned (.agg tab) ∧ Below w.heap.size w w' := by
  go_enter Try.func14, Try.ntmps14
  go_wp2_with (first | (refine wpList_alloc28 rfl rfl _ rfl ?_))
  go_loopw [2] (fun i wr => ∃ k : Nat, k ≤ 256 ∧ i = .int .i64 k ∧ Tab (w.heap.size + 1) k wr ∧ Zer w.heap.size wr ∧ Below w.heap.size w wr) (fun i _ => 256 - (intOf i).toNat)
  case atStart => exact ⟨0, by omega, rfl, (show Tab (w.heap.size + 1) 0 _ by unfold Tab; rw [tabL_0]; exact heap_alloc2_new _ _ _), heap_alloc2_old _ _ _, ((Below.refl _ _).alloc (Nat.le_refl _) _).alloc (by simp) _⟩
  case round =>
    obtain ⟨k, hk, rfl, ht, hz, hb⟩ := hrel
    have HT := Aside0.mk ht
    have HZ := Aside0.mk hz
    have HB := Aside0.mk hb
    clear ht hz hb
    by_cases hlt : k < 256
    · have hsz : w.heap.size + 1 < wr.heap.size := (Array.getElem?_eq_some_iff.1 HT.out).1
      go_wp2_with fail
      refine (dailiesref03_Remainder.calls 100 (some ⟨wr.heap.size, 0, none⟩) 1 [(k : Int)] _ _ (C_block (t := 5) (fr := (0, 0)) (heap_alloc_new _ _) (by simp)) (by simp) (rem_byte 100 (by decide) k hlt)).mono ?_
      rintro e w3 ⟨rfl, ⟨nd, hd⟩⟩
      have ht2 : Tab (w.heap.size + 1) k w3 := by rw [hd]; exact (_root_.Go.heap_alloc_old _ _ hsz).trans HT.out
      have hz2 : Zer w.heap.size w3 := by rw [hd]; exact (_root_.Go.heap_alloc_old _ _ (by omega)).trans HZ.out
      have hb2 : Below w.heap.size w w3 := by rw [hd]; exact pw_below_drewN (HB.out.alloc (by omega) _) _
      clear hd
      have hc := ht2.cell k hlt
      have hf := ht2.free k
      have HT2 := Aside0.mk ht2
      have HZ2 := Aside0.mk hz2
      have HB2 := Aside0.mk hb2
      clear ht2 hz2 hb2 HT HZ HB
      go_wp2
      go_roundw
      case rel => exact ⟨k + 1, by omega, by go_num, HT2.out.step, HZ2.out.far (by omega), HB2.out.setCell (by simp) _⟩
      case measure => simp [intOf]; omega
    · obtain rfl : k = 256 := by omega
      go_wp2_with (first | (refine wpList_load_row rfl 28 (.tmp 1) rfl (w.heap.size + 1) rfl 28 (tabV (tabL 256)) (0, 0) _ HT.out Try.underlying28 rfl info28s ?_) | (refine wpList_store_row rfl 28 (.tmp 0) (.tmp 13) rfl w.heap.size (tabV (tabL 256)) rfl rfl 28 (tabV z256) HZ.out info28s (by rw [tabV_size, tabV_size, tabL_length]; rfl) (tabV_one _) ?_))
      exact bodyPost_ret (v := .agg tab) (results_cell_row Try.results14 _ _ w.heap.size 28 (tabV (tabL 256)) (0, 0) _ rfl (setRow_heap _ _ _ _ _ _ HZ.out) Try.underlying28 rfl info28s) rfl ⟨rfl, below_setRow HB.out (Nat.le_refl _) _⟩
end Go.Proofs.Ytjaafdjgogpbdaa.CrcWalk
