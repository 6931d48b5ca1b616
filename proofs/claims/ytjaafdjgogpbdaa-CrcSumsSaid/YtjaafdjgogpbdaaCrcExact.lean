/- The walk of the crc statements' exact. -/
import Derived.Test.YtjaafdjgogpbdaaCrcRefTable
import Derived.Test.YtjaafdjgogpbdaaCrcLent
namespace Go.Proofs.Ytjaafdjgogpbdaa.CrcWalk
open Go.RowKit Go.Proofs.YtjaafdjgogpbdaaW.PrintWords Go.Proofs.YtjaafdjgogpbdaaW.PrintLast Go.Proofs.YtjaafdjgogpbdaaW.PrintMore Go.Proofs.Ytjaafdjgogpbdaa.Math Go.Proofs.Ytjaafdjgogpbdaa.Bits Go.Proofs.Ytjaafdjgogpbdaa.QBaseCrcSums
/-- the first cells of a row -/
theorem C_take {k : IntKind} {w : World} {A : Option Addr} {m : Nat} {xs : List Int} (h : Kd.C (Kd.int k) w A m xs) (n : Nat) (hn : n ≤ m) : Kd.C (Kd.int k) w A n (xs.take n) := by
  obtain ⟨h1, h2, h3⟩ := h
  refine ⟨by rw [List.length_take]; omega, by omega, fun hp => ?_⟩
  obtain ⟨ad, e, hc⟩ := h3 (by omega)
  refine ⟨ad, e, fun j p hj => hc j p ?_⟩
  rw [List.getElem?_take] at hj
  split at hj
  · exact hj
  · cases hj
theorem still_l0 (l : List Int) (hn : l.length ≤ 140737488355000) (n : Nat) : ∀ k i : Nat, i + n = l.length + 9 → n < k → dailieslaw03_still.l0 k (lentL l 9) l i = some true := by
  have hlen := lentL_length l 9 (by omega)
  have lo : ∀ i, i < l.length → rd (lentL l 9) (i : Int) = rd l i := by
    intro i hi
    unfold rd lentL
    rw [Int.toNat_natCast, List.getD_eq_getElem?_getD, List.getD_eq_getElem?_getD, List.append_assoc, List.getElem?_append_left hi]
  have hi' : ∀ i, l.length ≤ i → i < l.length + 9 → rd (lentL l 9) (i : Int) = 201 := by
    intro i h1 h2
    unfold rd lentL
    rw [Int.toNat_natCast, List.getD_eq_getElem?_getD, List.append_assoc, List.getElem?_append_right h1, List.getElem?_append_left (by rw [List.length_replicate]; omega), List.getElem?_replicate, if_pos (by omega)]; rfl
  induction n with
  | zero =>
    intro k i hi hk
    obtain ⟨k, rfl⟩ : ∃ m, k = m + 1 := ⟨k - 1, by omega⟩
    simp only [dailieslaw03_still.l0]
    rw [if_neg (by omega)]
  | succ n ih =>
    intro k i hi hk
    obtain ⟨k, rfl⟩ : ∃ m, k = m + 1 := ⟨k - 1, by omega⟩
    simp only [dailieslaw03_still.l0]
    have hnext := ih k (i + 1) (by omega) (by omega)
    rw [if_pos (by omega), CrcRef.w64 (n := (i : Int) + 1) (by omega) (by omega)]
    by_cases h : i < l.length
    · rw [if_pos (by omega), if_pos (by omega), lo i h, if_pos rfl, if_neg (by omega)]; exact hnext
    · rw [if_neg (by omega), if_pos (by omega), if_pos (by omega), hi' i (by omega) (by omega), if_pos rfl]; exact hnext
theorem still_f (l : List Int) (hn : l.length ≤ 140737488355000) (k : Nat) (hk : l.length + 10 ≤ k) : dailieslaw03_still.f k (lentL l 9) l = some true :=
  still_l0 l hn (l.length + 9) k 0 (by omega) (by omega)
theorem lentL_take (l : List Int) : (lentL l 9).take l.length = l := by
  unfold lentL; rw [List.append_assoc]; exact List.take_left' rfl
theorem lentL_bytes (l : List Int) (hl : ∀ x ∈ l, 0 ≤ x ∧ x < 256) : ∀ x ∈ lentL l 9, 0 ≤ x ∧ x < 256 := by
  intro x hx
  unfold lentL at hx
  simp only [List.mem_append, List.mem_replicate] at hx
  rcases hx with (h | h) | h
  · exact hl x h
  · omega
  · omega
theorem xor_range (a b : Int) : 0 ≤ Go.bits .xor .u8 a b ∧ Go.bits .xor .u8 a b < 256 := by
  unfold Go.bits
  rw [IntKind.wrap_u8]
  exact ⟨Int.emod_nonneg _ (by decide), Int.emod_lt_of_pos _ (by decide)⟩
theorem set_bytes {xs : List Int} (h : ∀ x ∈ xs, 0 ≤ x ∧ x < 256) (k : Nat) (a b : Int) : ∀ x ∈ xs.set k (Go.bits .xor .u8 a b), 0 ≤ x ∧ x < 256 := by
  intro x hx
  rcases List.mem_or_eq_of_mem_set hx with h1 | h1
  · exact h x h1
  · rw [h1]; exact xor_range a b
theorem in_C {w : World} {base : Nat} {ok : Nat → Prop} {g cap n m : Nat} {xs : List Int} (h : Kd.R (Kd.int .u8) 5 w base ok (.slice (some ⟨g, 0, none⟩) m cap) xs) (hn : n ≤ m) : Kd.C (Kd.int .u8) w (some ⟨g, 0, none⟩) n (xs.take n) :=
  by obtain ⟨e, _, h3⟩ := Kd.R_reads' h; subst e; exact C_take h3 n hn
theorem in_lent {w : World} {base : Nat} {ok : Nat → Prop} {g cap : Nat} {l : List Int} (h : Kd.R (Kd.int .u8) 5 w base ok (.slice (some ⟨g, 0, none⟩) (l.length + 9) cap) (lentL l 9)) : Kd.C (Kd.int .u8) w (some ⟨g, 0, none⟩) l.length l := by
  have := in_C h (n := l.length) (by omega)
  rwa [lentL_take] at this
theorem still_lent {w : World} {base : Nat} {ok : Nat → Prop} {g cap c : Nat} {l : List Int} {A : Option Addr} (h : Kd.R (Kd.int .u8) 5 w base ok (.slice (some ⟨g, 0, none⟩) (l.length + 9) cap) (lentL l 9)) (hcap : l.length + 9 ≤ cap) (hr : Kd.C (Kd.int .u8) w A l.length l) (hc : l.length ≤ c) (k : Nat) (hs : dailieslaw03_still.f k (lentL l 9) l = some true) :
    Calls Try.prog 24 #[.slice (some ⟨g, 0, none⟩) (l.length + 9) cap, .slice A l.length c] w fun e w' => e = .returned (.bool true) ∧ Drawn0 w w' := by
  have hC := (Kd.R_reads' h).2.2
  have hl := lentL_length l 9 (by omega)
  have := dailieslaw03_still.calls k (some ⟨g, 0, none⟩) cap (lentL l 9) A c l true w hC (by rw [hl]; exact hcap) hr hc hs
  rwa [hl] at this
set_option maxHeartbeats 1000000 in
set_option maxRecDepth 100000 in
theorem exact_calls (s : Nat) (hs : s < 2 ^ 32) (A : Option Addr) (c : Nat) (l : List Int) (hl : ∀ x ∈ l, 0 ≤ x ∧ x < 256) (hlen : l.length ≤ 140737488351232) (w : World) (hr : Kd.C (Kd.int .u8) w A l.length l) (hc : l.length ≤ c) :
    Calls Try.prog 12 #[.slice A l.length c, .int .u32 s] w fun e w' => e = .returned (.bool true) ∧ Below w.heap.size w w' := by
  have HR := Aside0.mk hr
  have HC := Aside0.mk hc
  have HL := Aside0.mk hl
  have HS := Aside0.mk hs
  clear hr hc hl hs
  go_enter Try.func12, Try.ntmps12
  go_wp2_with fail
  refine (lent_calls A c l (by omega) w HR.out HC.out).mono ?_
  rintro e w1 ⟨v, rfl, ho, hb⟩
  obtain ⟨g, cap, ev, gb, gl, cl, HG⟩ := Kd.R_form ho (by rw [lentL_length l 9 (by omega)]; omega)
  rw [lentL_length l 9 (by omega)] at ev
  subst ev
  have hcap : l.length + 9 ≤ cap := (Kd.R_reads' ho).2.1
  have HO := Aside0.mk ho
  have HB := Aside0.mk hb
  have GB := Aside0.mk gb
  clear ho hb gb gl cl HG
  have hrem := CrcRef.Rem_f l HL.out (by omega)
  have hsum := CrcRef.Sum_f l HL.out (by omega)
  have hmore := CrcRef.More_f s HS.out l HL.out (by omega)
  have hstill := still_f l (by omega) (l.length + 10) (by omega)
  have rrem := CrcRef.refRem_f l HL.out (by omega) (8 * l.length + 40) (by omega)
  have rsum := CrcRef.refSum_f l HL.out (by omega) (8 * l.length + 40) (by omega)
  have rmore := CrcRef.refMore_f s HS.out l HL.out (by omega) (8 * l.length + 40) (by omega)
  generalize Crc.dv 0 (CrcRef.nat l) = v1 at *
  generalize Crc.more 0 (CrcRef.nat l) = v2 at *
  generalize Crc.more s (CrcRef.nat l) = v3 at *
  have Hrem := Aside0.mk hrem; have Hsum := Aside0.mk hsum; have Hmore := Aside0.mk hmore; have Hstill := Aside0.mk hstill; have Rrem := Aside0.mk rrem; have Rsum := Aside0.mk rsum; have Rmore := Aside0.mk rmore
  clear hrem hsum hmore hstill rrem rsum rmore
  go_wp2
  go_loopw [7] (fun i wr => ∃ t : Nat, t ≤ 2 ∧ i = .int .i64 t ∧ Aside0 (Kd.R (Kd.int .u8) 5 wr w.heap.size (fun _ => True) (.slice (some ⟨g, 0, none⟩) (l.length + 9) cap) (lentL l 9)) ∧ Aside0 (Below w.heap.size w wr)) (fun i _ => 2 - (intOf i).toNat)
  case atStart => exact ⟨0, by omega, rfl, HO, HB⟩
  case round =>
    obtain ⟨t, ht, rfl, HO2, HB2⟩ := hrel
    clear HO HB
    by_cases hlt : t < 2
    · go_wp2_with fail
      refine (crc_Remainder.calls _ cap l v1 _ (in_lent HO2.out) (by omega) Hrem.out).mono ?_
      rintro e w2 ⟨rfl, hb2⟩
      have HO3 := Aside0.mk (Kd.R_below HO2.out hb2)
      have HB3 := Aside0.mk (Below.trans HB2.out (hb2.mono HB2.out.size))
      clear hb2 HO2 HB2
      go_wp2_with fail
      refine (crc_Sum.calls _ cap l v2 _ (in_lent HO3.out) (by omega) Hsum.out).mono ?_
      rintro e w3 ⟨rfl, hb2⟩
      have HO4 := Aside0.mk (Kd.R_below HO3.out hb2)
      have HB4 := Aside0.mk (Below.trans HB3.out (hb2.mono HB3.out.size))
      clear hb2 HO3 HB3
      go_wp2_with fail
      refine (crc_More.calls s _ cap l v3 _ (in_lent HO4.out) (by omega) Hmore.out).mono ?_
      rintro e w4 ⟨rfl, hb2⟩
      have HO5 := Aside0.mk (Kd.R_below HO4.out hb2)
      have HB5 := Aside0.mk (Below.trans HB4.out (hb2.mono HB4.out.size))
      have HR5 := Aside0.mk (Kd.C_below HR.out HB5.out)
      clear hb2 HO4 HB4
      go_wp2_with fail
      refine (still_lent HO5.out hcap HR5.out HC.out _ Hstill.out).mono ?_
      rintro e w5 ⟨rfl, ⟨nd, hd⟩⟩
      have HO6 : Aside0 (Kd.R (Kd.int .u8) 5 w5 w.heap.size (fun _ => True) (.slice (some ⟨g, 0, none⟩) (l.length + 9) cap) (lentL l 9)) := ⟨by rw [hd]; exact Kd.R_drewN HO5.out nd⟩
      have HB6 : Aside0 (Below w.heap.size w w5) := ⟨by rw [hd]; exact pw_below_drewN HB5.out nd⟩
      have HR6 := Aside0.mk (Kd.C_below HR.out HB6.out)
      clear hd HO5 HB5 HR5
      go_wp2_with fail
      refine (dailiesref03_Remainder.calls _ _ _ _ _ _ HR6.out HC.out Rrem.out).mono ?_
      rintro e w6 ⟨rfl, ⟨nd, hd⟩⟩
      have HO7 : Aside0 (Kd.R (Kd.int .u8) 5 w6 w.heap.size (fun _ => True) (.slice (some ⟨g, 0, none⟩) (l.length + 9) cap) (lentL l 9)) := ⟨by rw [hd]; exact Kd.R_drewN HO6.out nd⟩
      have HB7 : Aside0 (Below w.heap.size w w6) := ⟨by rw [hd]; exact pw_below_drewN HB6.out nd⟩
      have HR7 := Aside0.mk (Kd.C_below HR.out HB7.out)
      clear hd HO6 HB6 HR6
      go_wp2_with fail
      refine (dailiesref03_Sum.calls _ _ _ _ _ _ HR7.out HC.out Rsum.out).mono ?_
      rintro e w7 ⟨rfl, ⟨nd, hd⟩⟩
      have HO8 : Aside0 (Kd.R (Kd.int .u8) 5 w7 w.heap.size (fun _ => True) (.slice (some ⟨g, 0, none⟩) (l.length + 9) cap) (lentL l 9)) := ⟨by rw [hd]; exact Kd.R_drewN HO7.out nd⟩
      have HB8 : Aside0 (Below w.heap.size w w7) := ⟨by rw [hd]; exact pw_below_drewN HB7.out nd⟩
      have HR8 := Aside0.mk (Kd.C_below HR.out HB8.out)
      clear hd HO7 HB7 HR7
      go_wp2_with fail
      refine (dailiesref03_More.calls _ _ _ _ _ _ _ HR8.out HC.out Rmore.out).mono ?_
      rintro e w8 ⟨rfl, ⟨nd, hd⟩⟩
      have HO9 : Aside0 (Kd.R (Kd.int .u8) 5 w8 w.heap.size (fun _ => True) (.slice (some ⟨g, 0, none⟩) (l.length + 9) cap) (lentL l 9)) := ⟨by rw [hd]; exact Kd.R_drewN HO8.out nd⟩
      have HB9 : Aside0 (Below w.heap.size w w8) := ⟨by rw [hd]; exact pw_below_drewN HB8.out nd⟩
      clear hd HO8 HB8 HR8
      go_wp2
      go_roundw
      case rel => exact ⟨t + 1, by omega, by go_num, HO9, HB9⟩
      case measure => simp [intOf]; omega
    · obtain rfl : t = 2 := by omega
      have HX : Aside0 (∃ xs : List Int, xs.length = l.length + 9 ∧ (∀ x ∈ xs, 0 ≤ x ∧ x < 256) ∧ Kd.R (Kd.int .u8) 5 wr w.heap.size (fun _ => True) (.slice (some ⟨g, 0, none⟩) (l.length + 9) cap) xs) := ⟨lentL l 9, lentL_length l 9 (by omega), lentL_bytes l HL.out, HO2.out⟩
      clear HO2 Hrem Hsum Hmore Hstill Rrem Rsum Rmore
      go_wp2
      go_loopw [12] (fun i wr => ∃ k : Nat, k ≤ l.length ∧ i = .int .i64 k ∧ Aside0 (∃ xs : List Int, xs.length = l.length + 9 ∧ (∀ x ∈ xs, 0 ≤ x ∧ x < 256) ∧ Kd.R (Kd.int .u8) 5 wr w.heap.size (fun _ => True) (.slice (some ⟨g, 0, none⟩) (l.length + 9) cap) xs) ∧ Aside0 (Below w.heap.size w wr)) (fun i _ => l.length - (intOf i).toNat)
      case atStart => exact ⟨0, by omega, rfl, HX, HB2⟩
      case round =>
        obtain ⟨k, hk, rfl, HX3, HB3⟩ := hrel
        clear HX HB2
        by_cases hlt2 : k < l.length
        · obtain ⟨xs, hxl, hxb, hxo⟩ := HX3.out
          obtain ⟨hcell, hfree⟩ := Kd.R_celln 0 hxo (k : Int) (by omega) (by omega)
          have HP := fun (v : Int) => Kd.R_putn hxo (k : Int) v
          rw [Int.toNat_natCast] at hcell hfree
          simp only [Int.toNat_natCast] at HP
          have HXL := Aside0.mk hxl
          have HXB := Aside0.mk hxb
          have HXP := Aside0.mk HP
          clear hxl hxb hxo HX3 HP
          generalize rdOf 0 xs (k : Int) = x at *
          go_wp2
          go_roundw
          case rel => exact ⟨k + 1, by omega, by go_num, ⟨⟨_, by rw [List.length_set]; exact HXL.out, set_bytes HXB.out _ _ _, HXP.out _⟩⟩, ⟨HB3.out.setCell GB.out _⟩⟩
          case measure => simp [intOf]; omega
        · obtain rfl : k = l.length := by omega
          obtain ⟨xs, hxl, hxb, hxo⟩ := HX3.out
          have hC0 := in_C hxo (n := l.length) (by omega)
          have hyl : (xs.take l.length).length = l.length := by rw [List.length_take]; omega
          have hyb : ∀ x ∈ xs.take l.length, 0 ≤ x ∧ x < 256 := fun x hx => hxb x (List.mem_of_mem_take hx)
          generalize xs.take l.length = ys at *
          have HC0 := Aside0.mk hC0
          have HYL := Aside0.mk hyl
          have HYB := Aside0.mk hyb
          clear hC0 hyl hyb hxl hxb hxo HX3
          go_wp2_with (first
            | ((with_reducible refine gate_dst (N := 76) rfl ?_); refine Kd.R_lit (Kd.int .u8) wr.heap.size 5 ?hg (N := 76) ?hd (xs := ([] : List Int)) (inner := []) (ok := fun _ => True) (okp := fun _ => True) ?hr ?hp (fun _ hk => hk) trivial (Below.refl _ _) (Nat.le_refl _) (by simp) ?_; (case hd => rfl); (case hg => rfl); (case hr => first | (go_simp; done) | (go_simp; rfl)); (case hp => exact (Reps.none _ _)); intro u2 wa ho2 hb2 hg_ hnew_; clear hg_ hnew_; have HU := Aside0.mk ho2; have HA := Aside0.mk hb2; clear ho2 hb2)
            | ((with_reducible refine gate_builtin (b := .append) (xs := #[.tmp 76, .tmp 77]) rfl ?_); at_builtin; refine Kd.R_append_rows (Kd.int .u8) (w0 := wr) wr.heap.size rfl (.tmp 76) (.tmp 77) 25 5 (.int .u8 0) 1 rfl Try.underlying25 info5 rfl (by decide) (by omega) u2 [] ys _ _ _ (fun _ => True) (fun _ => False) rfl rfl ?aO ?aR (fun _ _ h => h) (fun _ h => h.elim) ?aF ?aB ?aS ?aL ?_; (case aR => exact Kd.C_below HC0.out HA.out); (case aB => exact HA.out); (case aF => exact (fun _ _ => trivial)); (case aO => exact HU.out); (case aS => exact HA.out.size); (case aL => simp; omega); intro u3 wb ho hb hg hat; have HV := Aside0.mk ho; have HD := Aside0.mk hb; clear ho hb hg hat HU HA))
          obtain ⟨Ao, co, eo⟩ := Kd.R_slice HV.out
          rw [List.nil_append] at eo
          subst eo
          have hcv := (Kd.R_reads' HV.out).2.2
          have hco := (Kd.R_reads' HV.out).2.1
          rw [List.nil_append] at hcv
          have HCV := Aside0.mk hcv
          have HCO := Aside0.mk hco
          have HCI := Aside0.mk (Kd.C_below HC0.out HD.out)
          have HB4 := Aside0.mk (Below.trans HB3.out (HD.out.mono HB3.out.size))
          clear HV hcv hco HC0 HB3 HD
          have hrem := CrcRef.Rem_f ys HYB.out (by have := HYL.out; omega)
          have hsum := CrcRef.Sum_f ys HYB.out (by have := HYL.out; omega)
          have hmore := CrcRef.More_f s HS.out ys HYB.out (by have := HYL.out; omega)
          have rrem := CrcRef.refRem_f ys HYB.out (by have := HYL.out; omega) (8 * l.length + 40) (by have := HYL.out; omega)
          have rsum := CrcRef.refSum_f ys HYB.out (by have := HYL.out; omega) (8 * l.length + 40) (by have := HYL.out; omega)
          have rmore := CrcRef.refMore_f s HS.out ys HYB.out (by have := HYL.out; omega) (8 * l.length + 40) (by have := HYL.out; omega)
          generalize Crc.dv 0 (CrcRef.nat ys) = v4 at *
          generalize Crc.more 0 (CrcRef.nat ys) = v5 at *
          generalize Crc.more s (CrcRef.nat ys) = v6 at *
          have Hrem := Aside0.mk hrem; have Hsum := Aside0.mk hsum; have Hmore := Aside0.mk hmore; have Rrem := Aside0.mk rrem; have Rsum := Aside0.mk rsum; have Rmore := Aside0.mk rmore
          clear hrem hsum hmore rrem rsum rmore
          have q1 := fun (W : World) (h : Kd.C (Kd.int .u8) W (some ⟨g, 0, none⟩) l.length ys) => crc_Remainder.calls (some ⟨g, 0, none⟩) cap ys v4 W (by rw [HYL.out]; exact h) (by rw [HYL.out]; omega) Hrem.out
          have q2 := fun (W : World) (h : Kd.C (Kd.int .u8) W (some ⟨g, 0, none⟩) l.length ys) => crc_Sum.calls (some ⟨g, 0, none⟩) cap ys v5 W (by rw [HYL.out]; exact h) (by rw [HYL.out]; omega) Hsum.out
          have q3 := fun (W : World) (h : Kd.C (Kd.int .u8) W (some ⟨g, 0, none⟩) l.length ys) => crc_More.calls s (some ⟨g, 0, none⟩) cap ys v6 W (by rw [HYL.out]; exact h) (by rw [HYL.out]; omega) Hmore.out
          simp only [HYL.out] at q1 q2 q3
          have Q1 := Aside0.mk q1; have Q2 := Aside0.mk q2; have Q3 := Aside0.mk q3
          clear q1 q2 q3
          refine (Q1.out _ HCI.out).mono ?_
          rintro e w2 ⟨rfl, hb2⟩
          have HCI2 := Aside0.mk (Kd.C_below HCI.out hb2)
          have HCV2 := Aside0.mk (Kd.C_below HCV.out hb2)
          have HB5 := Aside0.mk (Below.trans HB4.out (hb2.mono HB4.out.size))
          clear hb2 HCI HCV HB4
          go_wp2_with fail
          refine (Q2.out _ HCI2.out).mono ?_
          rintro e w3 ⟨rfl, hb2⟩
          have HCI3 := Aside0.mk (Kd.C_below HCI2.out hb2)
          have HCV3 := Aside0.mk (Kd.C_below HCV2.out hb2)
          have HB6 := Aside0.mk (Below.trans HB5.out (hb2.mono HB5.out.size))
          clear hb2 HCI2 HCV2 HB5
          go_wp2_with fail
          refine (Q3.out _ HCI3.out).mono ?_
          rintro e w4 ⟨rfl, hb2⟩
          have HCV4 := Aside0.mk (Kd.C_below HCV3.out hb2)
          have HB7 := Aside0.mk (Below.trans HB6.out (hb2.mono HB6.out.size))
          clear hb2 HCI3 HCV3 HB6
          go_wp2_with fail
          refine (dailiesref03_Remainder.calls _ _ _ _ _ _ HCV4.out HCO.out Rrem.out).mono ?_
          rintro e w5 ⟨rfl, hd⟩
          obtain ⟨nd, hd⟩ := hd
          have HCV5 : Aside0 (Kd.C (Kd.int .u8) w5 Ao ys.length ys) := ⟨by rw [hd]; exact Kd.C_drewN HCV4.out nd⟩
          have HB8 : Aside0 (Below w.heap.size w w5) := ⟨by rw [hd]; exact pw_below_drewN HB7.out nd⟩
          clear hd HCV4 HB7
          go_wp2_with fail
          refine (dailiesref03_Sum.calls _ _ _ _ _ _ HCV5.out HCO.out Rsum.out).mono ?_
          rintro e w6 ⟨rfl, hd⟩
          obtain ⟨nd, hd⟩ := hd
          have HCV6 : Aside0 (Kd.C (Kd.int .u8) w6 Ao ys.length ys) := ⟨by rw [hd]; exact Kd.C_drewN HCV5.out nd⟩
          have HB9 : Aside0 (Below w.heap.size w w6) := ⟨by rw [hd]; exact pw_below_drewN HB8.out nd⟩
          clear hd HCV5 HB8
          go_wp2_with fail
          refine (dailiesref03_More.calls _ _ _ _ _ _ _ HCV6.out HCO.out Rmore.out).mono ?_
          rintro e w7 ⟨rfl, hd⟩
          obtain ⟨nd, hd⟩ := hd
          have HB10 : Aside0 (Below w.heap.size w w7) := ⟨by rw [hd]; exact pw_below_drewN HB9.out nd⟩
          clear hd HCV6 HB9
          go_wp2
          go_ret
          exact ⟨rfl, HB10.out⟩
end Go.Proofs.Ytjaafdjgogpbdaa.CrcWalk
