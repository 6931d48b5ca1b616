/- The walk of the crc statements' head, the document's first examples. -/
import Derived.Test.YtjaafdjgogpbdaaQBaseCrcSumsx1
import Derived.Lib.SlBytesConst
import Derived.Outline
namespace Go.Proofs.Ytjaafdjgogpbdaa.CrcWalk
open Go.RowKit Go.Proofs.YtjaafdjgogpbdaaW.PrintWords Go.Proofs.Ytjaafdjgogpbdaa.Math Go.Proofs.Ytjaafdjgogpbdaa.Bits Go.Proofs.Ytjaafdjgogpbdaa.QBaseCrcSums
/-- a block whose cells are whole numbers, read as a row -/
theorem C_block {k : IntKind} {w : World} {b : Nat} {xs : List Int} {t : TypeId} {fr : Nat × Nat} (hg : w.heap[b]? = some (.cells (xs.map (Value.int k)).toArray t fr)) (hn : xs.length ≤ 9223372036854775807) :
    Kd.C (Kd.int k) w (some ⟨b, 0, none⟩) xs.length xs := by
  refine ⟨rfl, hn, fun _ => ⟨_, rfl, fun j p hj => ⟨[.int k p], rfl, rfl, fun i u hu => ?_⟩⟩⟩
  have hi : i = 0 := by
    have := (List.getElem?_eq_some_iff.1 hu).1
    simp at this; omega
  subst hi
  simp at hu
  subst hu
  have : (⟨b, 0, none⟩ : Addr).add (j * (Kd.int k).sz + 0) = ⟨b, j, none⟩ := by
    show (⟨b, 0, none⟩ : Addr).add (j * 1 + 0) = _
    unfold Addr.add; split <;> simp_all
  rw [this, cell_of_row w b j _ t fr hg]
  simp [hj]
theorem sum_nine : crc_Sum.f [49, 50, 51, 52, 53, 54, 55, 56, 57] = some 4236843288 := by decide +kernel
theorem rem_one : crc_Remainder.f [1] = some 79764919 := by decide +kernel
theorem join_none : crc_Join.f 5 7 9 0 = some (14, 0) := by decide +kernel
set_option maxHeartbeats 400000 in
set_option maxRecDepth 100000 in
theorem shown_calls (w : World) : Calls Try.prog 11 #[] w fun e w' => e = .returned (.bool true) ∧ Below w.heap.size w w' := by
  have kc := fun (w : World) (C : Array Value) (n c : Nat) => Lib.run_convert_bytes_const (P := Try.prog) w 25 5 C n c Try.underlying25 Try.underlying5
  go_enter Try.func11, Try.ntmps11
  go_wp2_with fail
  refine (crc_Sum.calls (some ⟨w.heap.size, 0, none⟩) 9 [49, 50, 51, 52, 53, 54, 55, 56, 57] 4236843288 _ (C_block (t := 5) (fr := (9, 10)) (heap_alloc_new _ _) (by decide)) (by decide) sum_nine).mono ?_
  rintro e w1 ⟨rfl, hb1⟩
  have HB1 := Aside0.mk (Below.trans ((Below.refl w.heap.size w).alloc (Nat.le_refl _) _) (hb1.mono (by simp)))
  have hs1 := HB1.out.size
  clear hb1
  go_wp2_with fail
  refine (crc_Remainder.calls (some ⟨w1.heap.size, 0, none⟩) 1 [1] 79764919 _ (C_block (t := 5) (fr := (0, 0)) (heap_alloc_new _ _) (by decide)) (by decide) rem_one).mono ?_
  rintro e w2 ⟨rfl, hb2⟩
  have HB2 := Aside0.mk (Below.trans (HB1.out.alloc hs1 _) (hb2.mono (by simp; omega)))
  clear hb2 HB1
  go_wp2_with fail
  refine (crc_Join.calls 5 7 9 0 14 0 _ join_none).mono ?_
  rintro e w3 ⟨rfl, ⟨nd, rfl⟩⟩
  go_wp2
  go_ret
  exact ⟨rfl, pw_below_drewN HB2.out _⟩
end Go.Proofs.Ytjaafdjgogpbdaa.CrcWalk
