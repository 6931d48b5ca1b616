/- The walk of the crc statements' lent. -/
import Derived.Test.YtjaafdjgogpbdaaCrcShown
import Derived.Test.YtjaafdjgogpbdaaCopy
namespace Go.Proofs.Ytjaafdjgogpbdaa.CrcWalk
open Go.RowKit Go.Proofs.YtjaafdjgogpbdaaW.PrintWords Go.Proofs.Ytjaafdjgogpbdaa.CopyR
theorem info5 : (Try.prog.info? 5).map (fun i => (i.zero, i.size, i.bytes)) = some (some (.int .u8 0), 1, 1) := by kernel_rfl
theorem size5 : (Try.prog.info? 5).map (·.size) = some 1 := by kernel_rfl
def lentL (l : List Int) (k : Nat) : List Int := l ++ List.replicate k 201 ++ List.replicate (9 - k) 0
theorem lentL_set (l : List Int) (k : Nat) (hk : k < 9) : (lentL l k).set (l.length + k) 201 = lentL l (k + 1) := by
  unfold lentL
  rw [List.append_assoc, List.append_assoc, List.set_append_right _ _ (by omega), List.set_append_right _ _ (by rw [List.length_replicate]; omega), List.length_replicate]
  rw [show l.length + k - l.length - k = 0 from by omega, show 9 - k = (9 - (k + 1)) + 1 from by omega, List.replicate_succ, List.set_cons_zero, List.replicate_succ']
  simp
theorem lentL_length (l : List Int) (k : Nat) (hk : k ≤ 9) : (lentL l k).length = l.length + 9 := by
  unfold lentL; simp; omega
set_option maxHeartbeats 400000 in
set_option maxRecDepth 100000 in
theorem lent_calls (A : Option Addr) (c : Nat) (l : List Int) (hlen : l.length ≤ 140737488355000) (w : World) (hr : Kd.C (Kd.int .u8) w A l.length l) (hc : l.length ≤ c) :
    Calls Try.prog 23 #[.slice A l.length c] w fun e w' => ∃ v, e = .returned v ∧ Kd.R (Kd.int .u8) 5 w' w.heap.size (fun _ => True) v (lentL l 9) ∧ Below w.heap.size w w' := by
  have HR := Aside0.mk hr
  have HC := Aside0.mk hc
  clear hr hc
  go_enter Try.func23, Try.ntmps23
  go_wp2_with (first
    | (refine Kd.R_make (Kd.int .u8) _ 5 rfl (N := 8) rfl 25 _ _ rfl _ rfl rfl Try.underlying25 (.int .u8 0) 1 info5 rfl (by decide) (by omega) 0 (ok := fun _ => True) (okp := fun _ => True) rfl (fun _ hk => hk) trivial (by omega) (by omega) (Below.refl _ _) (Nat.le_refl _) ?_; intro v w1 ho hb hg_ hnew_; clear hg_ hnew_; have HO := Aside0.mk ho; have HB := Aside0.mk hb; clear ho hb)
    | (refine wpList_copy_R rfl (.tmp 9) (.tmp 10) 25 25 rfl Try.underlying25 size5 (v := v) rfl HO.out rfl (Kd.C_below HR.out HB.out) HB.out (Nat.le_refl _) ?_; intro w2 ho2 hb2; have HB2 := Aside0.mk hb2; clear hb2))
  have e0 : copied (List.replicate ((l.length : Int) + 9).toNat 0) l = lentL l 0 := by
    unfold copied lentL
    rw [show ((l.length : Int) + 9).toNat = l.length + 9 from by omega, List.length_replicate, List.take_of_length_le (by omega), List.drop_replicate, show l.length + 9 - min l.length (l.length + 9) = 9 from by omega]
    simp
  rw [e0] at ho2
  clear e0 HO HB
  obtain ⟨g, cap, ev, gb, gl, cl, HG⟩ := Kd.R_form ho2.out (by rw [lentL_length l 0 (by omega)]; omega)
  rw [lentL_length l 0 (by omega)] at ev
  subst ev
  have GB := Aside0.mk gb
  have HO := ho2
  clear gb gl cl HG ho2
  go_loopw [4] (fun i wr => ∃ k : Nat, k ≤ 9 ∧ i = .int .i64 ((l.length + k : Nat) : Int) ∧ Aside0 (Kd.R (Kd.int .u8) 5 wr w.heap.size (fun _ => True) (.slice (some ⟨g, 0, none⟩) (l.length + 9) cap) (lentL l k)) ∧ Aside0 (Below w.heap.size w wr)) (fun i _ => l.length + 9 - (intOf i).toNat)
  case atStart => exact ⟨0, by omega, rfl, HO, HB2⟩
  case round =>
    obtain ⟨k, hk, rfl, HO3, HB3⟩ := hrel
    by_cases hlt : k < 9
    · obtain ⟨hcell, hfree⟩ := Kd.R_celln 0 HO3.out ((l.length + k : Nat) : Int) (by omega) (by omega)
      have HP := Kd.R_putn HO3.out ((l.length + k : Nat) : Int) 201
      rw [Int.toNat_natCast, lentL_set l k hlt] at HP
      have HQ := Aside0.mk HP
      clear HP
      rw [Int.toNat_natCast] at hcell hfree
      go_wp2
      go_roundw
      case rel => exact ⟨k + 1, by omega, by go_num, HQ, ⟨HB3.out.setCell GB.out _⟩⟩
      case measure => simp [intOf]; omega
    · obtain rfl : k = 9 := by omega
      go_wp2
      go_ret
      exact ⟨_, rfl, HO3.out, HB3.out⟩
end Go.Proofs.Ytjaafdjgogpbdaa.CrcWalk
