/- The walk of the crc layer's divide. -/
import Derived.Test.YtjaafdjgogpbdaaCrcTable
namespace Go.Proofs.Ytjaafdjgogpbdaa.CrcWalk
open Go.RowKit Go.Proofs.YtjaafdjgogpbdaaW.PrintWords Go.Proofs.Ytjaafdjgogpbdaa.Math Go.Proofs.Ytjaafdjgogpbdaa.Bits
theorem byte_table (r c : Nat) (_ : r < 2 ^ 32) (_ : c < 256) : Crc.byteStep r c = (r * 256 % 4294967296) ^^^ Crc.Xn 8 ((r / 16777216 ^^^ c) * 16777216) := by
  have e := Crc.split_at 24 r
  have h1 : Crc.Xn 8 (r % 2 ^ 24) = r * 256 % 4294967296 := by rw [Crc.Xn_small 8 (r % 2 ^ 24) (by omega)]; omega
  unfold Crc.byteStep
  rw [← h1, ← Crc.Xn_xor]
  congr 1
  conv => lhs; rw [e]
  rw [show (r / 16777216 ^^^ c) * 16777216 = r / 2 ^ 24 * 2 ^ 24 ^^^ c * 2 ^ 24 from Crc.mul_pow_xor _ _ 24]
  ac_rfl
theorem take_byte {l : List Int} (hl : ∀ x ∈ l, 0 ≤ x ∧ x < 256) (k : Nat) (hk : k < l.length) : ∃ c : Nat, rd l (k : Int) = c ∧ c < 256 ∧ (l.map Int.toNat).take (k + 1) = (l.map Int.toNat).take k ++ [c] := by
  have hx := hl l[k] (List.getElem_mem hk)
  have hk' : k < (l.map Int.toNat).length := by simpa using hk
  refine ⟨l[k].toNat, ?_, by omega, ?_⟩
  · unfold rd
    rw [Int.toNat_natCast, List.getD_eq_getElem?_getD, List.getElem?_eq_getElem hk]
    show l[k] = _
    omega
  · rw [List.take_succ_eq_append_getElem hk']; simp
theorem bytes_lt {l : List Int} (hl : ∀ x ∈ l, 0 ≤ x ∧ x < 256) : ∀ c ∈ l.map Int.toNat, c < 256 := by
  intro c hc
  obtain ⟨x, hx, rfl⟩ := List.mem_map.1 hc
  have := hl x hx; omega
set_option maxHeartbeats 400000 in
set_option maxRecDepth 100000 in
theorem divide_calls (s : Nat) (hs : s < 2 ^ 32) (A : Option Addr) (c : Nat) (l : List Int) (hl : ∀ x ∈ l, 0 ≤ x ∧ x < 256) (hlen : l.length ≤ 9223372036854775807) (w : World) (hr : Kd.C (Kd.int .u8) w A l.length l) (hc : l.length ≤ c) :
    Calls Try.prog 30 #[.int .u32 s, .slice A l.length c] w fun e w' => e = .returned (.int .u32 ((Crc.dv s (l.map Int.toNat) : Nat) : Int)) ∧ Below w.heap.size w w' := by
  have HR := Aside0.mk hr
  have HC := Aside0.mk hc
  have HL := Aside0.mk hl
  have HS := Aside0.mk hs
  clear hr hc hl hs
  go_enter Try.func30, Try.ntmps30
  go_wp2_with fail
  refine (table_calls _).mono ?_
  rintro e w1 ⟨rfl, hb⟩
  have HB := Aside0.mk hb
  clear hb
  go_wp2_with (first | (refine wpList_alloc28 rfl rfl _ rfl ?_) | (refine wpList_store_row rfl 28 (.tmp 5) (.tmp 8) rfl w1.heap.size tab rfl rfl 28 (tabV z256) (heap_alloc_new _ _) info28s (by rw [tab, tabV_size, tabV_size, tabL_length]; rfl) (tabV_one _) ?_))
  have ht : Tab w1.heap.size 256 ((w1.alloc (.cells (tabV z256) 28)).setRow w1.heap.size tab) := setRow_heap _ _ _ _ _ _ (heap_alloc_new _ _)
  have hsz := HB.out.size
  have hb2 : Below w.heap.size w ((w1.alloc (.cells (tabV z256) 28)).setRow w1.heap.size tab) := below_setRow (HB.out.alloc hsz _) hsz _
  have hC := Kd.C_below HR.out hb2
  generalize (w1.alloc (.cells (tabV z256) 28)).setRow w1.heap.size tab = wr at *
  have HT := Aside0.mk ht
  have HB2 := Aside0.mk hb2
  have HR2 := Aside0.mk hC
  clear ht hb2 hC HR
  go_loop [0, 11] (fun v i => ∃ k : Nat, k ≤ l.length ∧ i = .int .i64 k ∧ v = .int .u32 ((Crc.dv s ((l.map Int.toNat).take k) : Nat) : Int)) (fun _ i => l.length - (intOf i).toNat)
  case atStart => exact ⟨0, by omega, rfl, rfl⟩
  case round =>
    obtain ⟨k, hk, rfl, rfl⟩ := hrel
    have hr := Crc.dv_lt ((l.map Int.toNat).take k) HS.out (fun c hc => bytes_lt HL.out c (List.mem_of_mem_take hc))
    by_cases hlt : k < l.length
    · obtain ⟨x, hx, hx8, hxt⟩ := take_byte HL.out k hlt
      have hstep : Crc.dv s ((l.map Int.toNat).take (k + 1)) = Crc.byteStep (Crc.dv s ((l.map Int.toNat).take k)) x := by rw [hxt, Crc.dv_append]; rfl
      have HST := Lib.hid hstep
      clear hstep hxt
      generalize Crc.dv s ((l.map Int.toNat).take k) = r at *
      rw [byte_table r x hr hx8] at HST
      have hj : r / 16777216 ^^^ x < 256 := Nat.xor_lt_two_pow (n := 8) (by omega) hx8
      have ej : Go.bits .xor .u8 ((r : Int) / 16777216) x = ((r / 16777216 ^^^ x : Nat) : Int) := xor_u8 (r / 16777216) x (by omega) hx8
      have ev : Go.bits .xor .u32 ((r : Int) * 256 % 4294967296) ((Crc.Xn 8 ((r / 16777216 ^^^ x) * 16777216) : Nat) : Int) = _ := xor_u32 (r * 256 % 4294967296) (Crc.Xn 8 ((r / 16777216 ^^^ x) * 16777216)) (by omega) (Crc.Xn_lt 8 (by omega))
      have EV := Lib.hid ev
      clear ev
      generalize r / 16777216 ^^^ x = j at *
      have hcell := HT.out.cell j hj
      rw [List.getD_eq_getElem?_getD, tabL_get 256 j hj (by omega)] at hcell
      have hcell' : wr.cell? ⟨w1.heap.size, j, none⟩ = some (.int .u32 ((Crc.Xn 8 (j * 16777216) : Nat) : Int)) := hcell
      clear hcell
      obtain ⟨ad, ead, hb8⟩ := Kd.at_int HR2.out k (by omega) (by omega)
      cases ead
      rw [hx, Int.toNat_natCast] at hb8
      clear hx
      go_wp2
      go_round
      case rel => exact ⟨k + 1, by omega, by go_num, by rw [HST.out, EV.out]⟩
      case measure => simp [intOf]; omega
    · obtain rfl : k = l.length := by omega
      have hfull : (l.map Int.toNat).take l.length = l.map Int.toNat := List.take_of_length_le (by simp)
      have HF := Lib.hid hfull
      clear hfull hr
      go_wp2
      go_ret
      exact ⟨by rw [HF.out]; rfl, HB2.out⟩
/-- what divide answers, where its arguments are of their kinds -/
def divF (a : Int) (l : List Int) : Option Int :=
  if (0 ≤ a ∧ a < 4294967296) ∧ (∀ x ∈ l, 0 ≤ x ∧ x < 256) ∧ l.length ≤ 9223372036854775807 then some ((Crc.dv a.toNat (l.map Int.toNat) : Nat) : Int) else none
theorem divF_calls (a0 : Int) (A1 : Option Addr) (c1 : Nat) (l1 : List Int) (r : Int) (w : World) (hr1 : Kd.C (Kd.int .u8) w A1 l1.length l1) (hc1 : l1.length ≤ c1) (h : divF a0 l1 = some r) :
    Calls Try.prog 30 #[.int .u32 a0, .slice A1 l1.length c1] w fun e w' => e = .returned (.int .u32 r) ∧ Below w.heap.size w w' := by
  unfold divF at h
  split at h
  · rename_i hh
    obtain ⟨⟨h0, h1⟩, h2, h3⟩ := hh
    simp only [Option.some.injEq] at h
    subst h
    have := divide_calls a0.toNat (by omega) A1 c1 l1 h2 h3 w hr1 hc1
    rwa [show ((a0.toNat : Nat) : Int) = a0 from by omega] at this
  · cases h
end Go.Proofs.Ytjaafdjgogpbdaa.CrcWalk
