/- A part of a proof: see the text's own remark. No conditions beyond its theorems' own. -/
import Derived.Test.YtdleoljbnjjdgaaQBaseFieldDotsx1
import Derived.Test.YtdleoljbnjjdgaaCopy
import Derived.Test.YtdleoljbnjjdgaaBits
/-! lent and back, walked -/
namespace Go.Proofs.Ytdleoljbnjjdgaa.DotsW
open Go.RowKit Go.Proofs.YtdleoljbnjjdgaaW.PrintWords Go.Proofs.YtdleoljbnjjdgaaW.PrintLast Go.Proofs.YtdleoljbnjjdgaaW.PrintMore Go.Proofs.Ytdleoljbnjjdgaa.CopyR Go.Proofs.Ytdleoljbnjjdgaa.QBaseFieldDots
set_option linter.unusedVariables false
set_option linter.unusedSimpArgs false
theorem info5 : (Try.prog.info? 5).map (fun i => (i.zero, i.size, i.bytes)) = some (some (.int .u8 0), 1, 1) := by kernel_rfl
theorem size5 : (Try.prog.info? 5).map (·.size) = some 1 := by kernel_rfl
def lentL (l : List Int) (k : Nat) : List Int := l ++ List.replicate k 167 ++ List.replicate (70 - k) 0
theorem lentL_set (l : List Int) (k : Nat) (hk : k < 70) : (lentL l k).set (l.length + k) 167 = lentL l (k + 1) := by
  unfold lentL
  rw [List.append_assoc, List.append_assoc, List.set_append_right _ _ (by omega), List.set_append_right _ _ (by rw [List.length_replicate]; omega), List.length_replicate]
  rw [show l.length + k - l.length - k = 0 from by omega, show 70 - k = (70 - (k + 1)) + 1 from by omega, List.replicate_succ, List.set_cons_zero, List.replicate_succ']
  simp
theorem lentL_length (l : List Int) (k : Nat) (hk : k ≤ 70) : (lentL l k).length = l.length + 70 := by
  unfold lentL; simp; omega
theorem lentL_old {l : List Int} {i : Nat} (h : i < l.length) : (lentL l 70)[i]? = l[i]? := by
  unfold lentL
  rw [List.append_assoc, List.getElem?_append_left h]
theorem lentL_new {l : List Int} {i : Nat} (h : l.length ≤ i) (h2 : i < l.length + 70) : (lentL l 70)[i]? = some 167 := by
  unfold lentL
  rw [List.append_assoc, List.getElem?_append_right h, List.getElem?_append_left (by rw [List.length_replicate]; omega), List.getElem?_replicate, if_pos (by omega)]
theorem lentL_take (l : List Int) : (lentL l 70).take l.length = l := by
  unfold lentL
  rw [List.append_assoc, List.take_append_of_le_length (Nat.le_refl _), List.take_length]
def xo (x : Int) : Int := Go.bits .xor .u8 x 90
def flip (m : List Int) (k : Nat) : List Int := (m.take k).map xo ++ m.drop k
theorem flip_zero (m : List Int) : flip m 0 = m := by unfold flip; rw [List.take_zero, List.drop_zero]; rfl
theorem flip_all (m : List Int) : flip m m.length = m.map xo := by unfold flip; rw [List.take_length, List.drop_length, List.append_nil]
theorem flip_length (m : List Int) (k : Nat) : (flip m k).length = m.length := by unfold flip; rw [List.length_append, List.length_map, List.length_take, List.length_drop]; omega
theorem flip_get {m : List Int} {k : Nat} (h : k < m.length) : (flip m k)[k]? = m[k]? := by
  unfold flip
  rw [List.getElem?_append_right (by rw [List.length_map, List.length_take]; omega), List.length_map, List.length_take, List.getElem?_drop, show k + (k - min k m.length) = k by omega]
theorem flip_set {m : List Int} {k : Nat} {y : Int} (h : m[k]? = some y) : (flip m k).set k (xo y) = flip m (k + 1) := by
  have hk := (List.getElem?_eq_some_iff.1 h).1
  have hy := (List.getElem?_eq_some_iff.1 h).2
  unfold flip
  rw [List.set_append_right _ _ (by rw [List.length_map, List.length_take]; omega), List.length_map, List.length_take, show k - min k m.length = 0 by omega, List.drop_eq_getElem_cons hk, List.set_cons_zero, List.take_add_one, h, List.map_append, List.append_assoc]
  rfl
theorem rd_at {l : List Int} {j : Nat} {y : Int} (h : l[j]? = some y) : rdOf (0 : Int) l (j : Int) = y := by unfold rdOf; rw [Int.toNat_natCast, List.getD_eq_getElem?_getD, h]; rfl
theorem wr1 {i n : Nat} (h : i < n) (hn : n ≤ 140737488355328) : wrap64 ((i : Int) + 1) = ((i + 1 : Nat) : Int) := by unfold wrap64; omega
theorem meas {n i : Nat} {x : Int} (h : x = ((i + 1 : Nat) : Int)) (hl : i < n) : n - (intOf (.int .i64 x)).toNat < n - (intOf (.int .i64 (i : Int))).toNat := by subst h; simp only [intOf, Int.toNat_natCast]; omega
set_option maxHeartbeats 400000 in
set_option maxRecDepth 100000 in
theorem lent_calls (A : Option Addr) (c : Nat) (l : List Int) (hlen : l.length ≤ 140737488351232) (w : World) (hr : Kd.C (Kd.int .u8) w A l.length l) (hc : l.length ≤ c) :
    Calls Try.prog 15 #[.slice A l.length c] w fun e w' => ∃ g cap, e = .returned (.slice (some ⟨g, 0, none⟩) l.length cap) ∧ w.heap.size ≤ g ∧ g < w'.heap.size ∧ l.length + 70 ≤ cap ∧ Kd.R (Kd.int .u8) 5 w' w.heap.size (fun k => k = g) (.slice (some ⟨g, 0, none⟩) (l.length + 70) cap) (lentL l 70) ∧ Below w.heap.size w w' := by
  have HR := Aside0.mk hr
  have HC := Aside0.mk hc
  clear hr hc
  go_enter Try.func15, Try.ntmps15
  go_wp2_with (first
    | (refine Kd.R_make (Kd.int .u8) _ 5 rfl (N := 8) rfl 29 _ _ rfl _ rfl rfl Try.underlying29 (.int .u8 0) 1 info5 rfl (by decide) (by omega) 0 (ok := fun _ => True) (okp := fun _ => True) rfl (fun _ hk => hk) trivial (by omega) (by omega) (Below.refl _ _) (Nat.le_refl _) ?_; intro v w1 ho hb hg_ hnew_; clear hg_ hnew_; have HO := Aside0.mk ho; have HB := Aside0.mk hb; clear ho hb)
    | (refine wpList_copy_R rfl (.tmp 9) (.tmp 10) 29 29 rfl Try.underlying29 size5 (v := v) rfl HO.out rfl (Kd.C_below HR.out HB.out) HB.out (Nat.le_refl _) ?_; intro w2 ho2 hb2; have HB2 := Aside0.mk hb2; clear hb2))
  have e0 : copied (List.replicate ((l.length : Int) + 70).toNat 0) l = lentL l 0 := by
    unfold copied lentL
    rw [show ((l.length : Int) + 70).toNat = l.length + 70 from by omega, List.length_replicate, List.take_of_length_le (by omega), List.drop_replicate, show l.length + 70 - min l.length (l.length + 70) = 70 from by omega]
    simp
  rw [e0] at ho2
  clear e0 HO HB
  obtain ⟨g, cap, ev, gb, gl, cl, HG⟩ := Kd.R_form ho2.out (by rw [lentL_length l 0 (by omega)]; omega)
  rw [lentL_length l 0 (by omega)] at ev
  subst ev
  have GB := Aside0.mk gb
  have GL := Aside0.mk gl
  have CL := Aside0.mk (Kd.R_reads' ho2.out).2.1
  have HO : Aside0 (Kd.R (Kd.int .u8) 5 w2 w.heap.size (fun k => k = g) (.slice (some ⟨g, 0, none⟩) (l.length + 70) cap) (lentL l 0)) := ⟨Kd.R_mono (Kd.R_tight rfl ho2.out) (fun k hk => by injection hk with hk)⟩
  have H0 := Aside0.mk (Nat.le_refl w2.heap.size)
  clear gb gl cl HG ho2
  go_loopw [4] (fun i wr => ∃ k : Nat, k ≤ 70 ∧ i = .int .i64 ((l.length + k : Nat) : Int) ∧ Aside0 (Kd.R (Kd.int .u8) 5 wr w.heap.size (fun k => k = g) (.slice (some ⟨g, 0, none⟩) (l.length + 70) cap) (lentL l k)) ∧ Aside0 (Below w.heap.size w wr) ∧ Aside0 (w2.heap.size ≤ wr.heap.size)) (fun i _ => l.length + 70 - (intOf i).toNat)
  case atStart => exact ⟨0, by omega, rfl, HO, HB2, H0⟩
  case round =>
    clear HO HB2 H0
    obtain ⟨k, hk, rfl, HO3, HB3, H3⟩ := hrel
    by_cases hlt : k < 70
    · obtain ⟨hcell, hfree⟩ := Kd.R_celln 0 HO3.out ((l.length + k : Nat) : Int) (by omega) (by omega)
      have HP := Kd.R_putn HO3.out ((l.length + k : Nat) : Int) 167
      rw [Int.toNat_natCast, lentL_set l k hlt] at HP
      have HQ := Aside0.mk HP
      clear HP
      rw [Int.toNat_natCast] at hcell hfree
      have hw := Aside0.mk (wr1 (i := l.length + k) (n := l.length + 70) (by omega) (by omega))
      have HLT := Aside0.mk (show l.length + k < l.length + 70 by omega)
      go_wp2
      go_roundw
      case rel => exact ⟨k + 1, by omega, by congr 1, HQ, ⟨HB3.out.setCell GB.out _⟩, ⟨by simpa using H3.out⟩⟩
      case measure => exact meas (by omega) HLT.out
    · obtain rfl : k = 70 := by omega
      have q1 : (l.length : Int) ≤ (cap : Int) := by have := CL.out; omega
      go_wp2
      go_ret
      exact ⟨_, _, rfl, GB.out, Nat.lt_of_lt_of_le GL.out H3.out, CL.out, HO3.out, HB3.out⟩
set_option maxHeartbeats 800000 in
set_option maxRecDepth 100000 in
theorem back_calls (w0 w : World) (A : Option Addr) (c0 : Nat) (l : List Int) (g cap : Nat) (hlen : l.length ≤ 140737488351232) (hr : Kd.C (Kd.int .u8) w0 A l.length l) (hc0 : l.length ≤ c0) (hb : Below w0.heap.size w0 w) (hcap : l.length + 70 ≤ cap) (hg : w0.heap.size ≤ g)
    (ho : Kd.R (Kd.int .u8) 5 w w0.heap.size (fun k => k = g) (.slice (some ⟨g, 0, none⟩) (l.length + 70) cap) (lentL l 70)) :
    Calls Try.prog 18 #[.slice (some ⟨g, 0, none⟩) l.length cap, .slice A l.length c0] w fun e w' => e = .returned (.bool true) ∧ Kd.R (Kd.int .u8) 5 w' w0.heap.size (fun k => k = g) (.slice (some ⟨g, 0, none⟩) (l.length + 70) cap) ((lentL l 70).map xo) ∧ Below w0.heap.size w0 w' ∧ Kept w w' (fun k => k = g) := by
  have HR := Aside0.mk hr
  have HC := Aside0.mk hc0
  have HB := Aside0.mk hb
  have HO := Aside0.mk ho
  have HG := Aside0.mk hg
  have HCAP := Aside0.mk hcap
  have HLEN := Aside0.mk hlen
  have q1 : ((l.length : Int) + 70) ≤ (cap : Int) := by omega
  clear hr hc0 hb ho hg hcap
  go_enter Try.func18, Try.ntmps18
  go_wp2
  go_loopw [6, 7, 8] (fun v6 v7 _ wr => ∃ k : Nat, k ≤ l.length + 70 ∧ v6 = .bool true ∧ v7 = .int .i64 (k : Int) ∧ Aside0 (Kd.R (Kd.int .u8) 5 wr w0.heap.size (fun k => k = g) (.slice (some ⟨g, 0, none⟩) (l.length + 70) cap) (flip (lentL l 70) k)) ∧ Aside0 (Below w0.heap.size w0 wr) ∧ Aside0 (Kept w wr (fun k => k = g))) (fun _ v7 _ _ => l.length + 70 - (intOf v7).toNat)
  case atStart => exact ⟨0, by omega, rfl, rfl, ⟨by rw [flip_zero]; exact HO.out⟩, HB, ⟨Kept.refl _ _⟩⟩
  case round =>
    clear HO HB
    obtain ⟨k, hk, rfl, rfl, HO, HB, HK⟩ := hrel
    by_cases hlt : k < l.length + 70
    · have hlen2 : (lentL l 70).length = l.length + 70 := lentL_length l 70 (by omega)
      obtain ⟨y, hy⟩ : ∃ y, (lentL l 70)[k]? = some y := ⟨_, List.getElem?_eq_getElem (by omega)⟩
      obtain ⟨hcell, hfree⟩ := Kd.R_celln 0 HO.out (k : Int) (by omega) (by omega)
      have HP := Kd.R_putn HO.out (k : Int) (xo y)
      rw [Int.toNat_natCast, flip_set hy] at HP
      rw [Int.toNat_natCast] at hcell hfree
      rw [rd_at ((flip_get (by omega)).trans hy)] at hcell
      have hw := Aside0.mk (wr1 (i := k) (n := l.length + 70) hlt (by omega))
      have HLT := Aside0.mk hlt
      have HK2 := Aside0.mk (Kept.setCell (p := ⟨g, k, none⟩) HK.out (.inl rfl) (.int .u8 (xo y)))
      have HQ := Aside0.mk HP
      have hk1 : (k : Int) < (l.length : Int) + 70 := by omega
      have hk2 : (0 : Int) ≤ (k : Int) := by omega
      clear HP
      by_cases hkl : k < l.length
      · have hyl : rd l (k : Int) = y := by
          rw [lentL_old hkl] at hy
          unfold rd
          rw [Int.toNat_natCast, List.getD_eq_getElem?_getD, hy]; rfl
        obtain ⟨ad, rfl, hx⟩ := Kd.at_int (Kd.C_below HR.out HB.out) (k : Int) (by omega) (by omega)
        rw [hyl, Int.toNat_natCast] at hx
        have hkl2 : (k : Int) < (l.length : Int) := by omega
        clear hyl hy hkl hlt
        go_wp2
        go_roundw
        case rel => exact ⟨k + 1, HLT.out, rfl, by congr 1, HQ, ⟨HB.out.setCell HG.out _⟩, HK2⟩
        case measure => exact meas (by omega) HLT.out
      · have hkl2 : ¬ ((k : Int) < (l.length : Int)) := by omega
        obtain rfl : y = 167 := by
          rw [lentL_new (by omega) (by omega)] at hy
          exact (Option.some.inj hy).symm
        clear hy hkl hlt
        go_wp2
        go_roundw
        case rel => exact ⟨k + 1, HLT.out, rfl, by congr 1, HQ, ⟨HB.out.setCell HG.out _⟩, HK2⟩
        case measure => exact meas (by omega) HLT.out
    · obtain rfl : k = l.length + 70 := by omega
      go_wp2
      go_ret
      refine ⟨rfl, ?_, HB.out, HK.out⟩
      rw [← flip_all, lentL_length l 70 (by omega)]
      exact HO.out
/-- what was lent, read as it was lent -/
theorem lent_C {w : World} {base g cap n : Nat} {ok : Nat → Prop} {m : List Int} (h : Kd.R (Kd.int .u8) 5 w base ok (.slice (some ⟨g, 0, none⟩) (n + 70) cap) m) (hm : m.length = n + 70) : Kd.C (Kd.int .u8) w (some ⟨g, 0, none⟩) (m.take n).length (m.take n) :=
  Kd.C_take (Kd.R_reads' h).2.2 (by omega)
theorem xo_in {x : Int} (h : 0 ≤ x ∧ x < 256) : 0 ≤ xo x ∧ xo x < 256 := by
  unfold xo
  obtain ⟨n, rfl⟩ : ∃ n : Nat, x = n := ⟨x.toNat, by omega⟩
  rw [show (90 : Int) = ((90 : Nat) : Int) from rfl, Bits.xor_u8 n 90 (by omega) (by decide)]
  have := Nat.xor_lt_two_pow (n := 8) (x := n) (y := 90) (by omega) (by decide)
  omega
theorem dot_at (k : Nat) (A0 A1 : Option Addr) (n0 n1 c0 c1 : Nat) (l0 l1 : List Int) (r1 r2 : Int) (w : World) (e0 : l0.length = n0) (e1 : l1.length = n1) (hr0 : Kd.C (Kd.int .u8) w A0 l0.length l0) (hc0 : n0 ≤ c0) (hr1 : Kd.C (Kd.int .u8) w A1 l1.length l1) (hc1 : n1 ≤ c1) (h : field_Dot.f k l0 l1 = some (r1, r2)) :
    Calls Try.prog 16 #[.slice A0 n0 c0, .slice A1 n1 c1] w fun e w' => e = .returned (.tuple #[.int .u8 r1, .int .i64 r2]) ∧ Drawn0 w w' := by
  subst e0; subst e1
  exact field_Dot.calls k A0 c0 l0 A1 c1 l1 r1 r2 w hr0 hc0 hr1 hc1 h
theorem ref_at (k : Nat) (A0 A1 : Option Addr) (n0 n1 c0 c1 : Nat) (l0 l1 : List Int) (r1 r2 : Int) (w : World) (e0 : l0.length = n0) (e1 : l1.length = n1) (hr0 : Kd.C (Kd.int .u8) w A0 l0.length l0) (hc0 : n0 ≤ c0) (hr1 : Kd.C (Kd.int .u8) w A1 l1.length l1) (hc1 : n1 ≤ c1) (h : dailiesref04_Dot.f k l0 l1 = some (r1, r2)) :
    Calls Try.prog 17 #[.slice A0 n0 c0, .slice A1 n1 c1] w fun e w' => e = .returned (.tuple #[.int .u8 r1, .int .i64 r2]) ∧ Drawn0 w w' := by
  subst e0; subst e1
  exact dailiesref04_Dot.calls k A0 c0 l0 A1 c1 l1 r1 r2 w hr0 hc0 hr1 hc1 h
/-- a list as it was lent, seen by its borrower -/
theorem own_C {w : World} {base g cap : Nat} {ok : Nat → Prop} {l : List Int} (h : Kd.R (Kd.int .u8) 5 w base ok (.slice (some ⟨g, 0, none⟩) (l.length + 70) cap) (lentL l 70)) : Kd.C (Kd.int .u8) w (some ⟨g, 0, none⟩) l.length l := by
  have := lent_C h (lentL_length l 70 (by omega))
  rw [lentL_take] at this
  exact this
theorem own_X {w : World} {base g cap : Nat} {ok : Nat → Prop} {l : List Int} (h : Kd.R (Kd.int .u8) 5 w base ok (.slice (some ⟨g, 0, none⟩) (l.length + 70) cap) ((lentL l 70).map xo)) : Kd.C (Kd.int .u8) w (some ⟨g, 0, none⟩) (l.map xo).length (l.map xo) := by
  have := lent_C h (by rw [List.length_map]; exact lentL_length l 70 (by omega))
  rw [← List.map_take, lentL_take] at this
  exact this
set_option maxHeartbeats 1600000 in
set_option maxRecDepth 100000 in
theorem dots_calls (k : Nat) (A0 : Option Addr) (c0 : Nat) (l0 : List Int) (A1 : Option Addr) (c1 : Nat) (l1 : List Int) (r1 r2 s1 s2 : Int) (w : World) (hr0 : Kd.C (Kd.int .u8) w A0 l0.length l0) (hc0 : l0.length ≤ c0) (hr1 : Kd.C (Kd.int .u8) w A1 l1.length l1) (hc1 : l1.length ≤ c1)
    (h0 : l0.length ≤ 140737488351232) (h1 : l1.length ≤ 140737488351232) (hal : dailieslaw04_alive.f k = some true) (hd : field_Dot.f k l0 l1 = some (r1, r2)) (hd2 : dailiesref04_Dot.f k l0 l1 = some (r1, r2)) (he : field_Dot.f k (l0.map xo) (l1.map xo) = some (s1, s2)) (he2 : dailiesref04_Dot.f k (l0.map xo) (l1.map xo) = some (s1, s2)) :
    Calls Try.prog 5 #[.slice A0 l0.length c0, .slice A1 l1.length c1] w fun e w' => e = .returned (.bool true) ∧ Below w.heap.size w w' := by
  have HR0 := Aside0.mk hr0
  have HC0 := Aside0.mk hc0
  have HR1 := Aside0.mk hr1
  have HC1 := Aside0.mk hc1
  have HL0 := Aside0.mk h0
  have HL1 := Aside0.mk h1
  have HAL := Aside0.mk hal
  have HD := Aside0.mk hd
  have HD2 := Aside0.mk hd2
  have HE := Aside0.mk he
  have HE2 := Aside0.mk he2
  clear hr0 hc0 hr1 hc1 h0 h1 hal hd hd2 he he2
  go_enter Try.func5, Try.ntmps5
  go_wp2_with (fail)
  refine (dailieslaw04_alive.calls k true _ HAL.out).mono ?_
  rintro e w' ⟨rfl, ⟨nd, rfl⟩⟩
  go_wp2_with (fail)
  refine (lent_calls A0 c0 l0 HL0.out _ (Kd.C_drewN HR0.out _) HC0.out).mono ?_
  rintro e w1 ⟨g0, k0, rfl, hg0, hl0, hk0, ho0, hb0⟩
  have HB1 : Aside0 (Below w.heap.size w w1) := ⟨below_step (pw_below_drewN (Below.refl _ _) _) hb0⟩
  have HO0 : Aside0 (Kd.R (Kd.int .u8) 5 w1 w.heap.size (fun k => k = g0) (.slice (some ⟨g0, 0, none⟩) (l0.length + 70) k0) (lentL l0 70)) := ⟨ho0⟩
  have HG0 : Aside0 (w.heap.size ≤ g0) := ⟨hg0⟩
  have HK0 := Aside0.mk hk0
  have HKa := Aside0.mk (show l0.length ≤ k0 by omega)
  clear hg0 hk0 ho0 hb0
  go_wp2_with (fail)
  refine (lent_calls A1 c1 l1 HL1.out _ (Kd.C_below HR1.out HB1.out) HC1.out).mono ?_
  rintro e w2 ⟨g1, k1, rfl, hg1, hl1, hk1, ho1, hb1⟩
  have HNE : Aside0 (g1 ≠ g0) := ⟨by omega⟩
  have HG1 : Aside0 (w.heap.size ≤ g1) := ⟨Nat.le_trans HB1.out.size hg1⟩
  have HB2 : Aside0 (Below w.heap.size w w2) := ⟨below_step HB1.out hb1⟩
  have HO1 : Aside0 (Kd.R (Kd.int .u8) 5 w2 w.heap.size (fun k => k = g1) (.slice (some ⟨g1, 0, none⟩) (l1.length + 70) k1) (lentL l1 70)) := ⟨Kd.R_lower ho1 HB1.out.size⟩
  have HO0' : Aside0 (Kd.R (Kd.int .u8) 5 w2 w.heap.size (fun k => k = g0) (.slice (some ⟨g0, 0, none⟩) (l0.length + 70) k0) (lentL l0 70)) := ⟨Kd.R_below HO0.out hb1⟩
  have HK1 := Aside0.mk hk1
  have HKb := Aside0.mk (show l1.length ≤ k1 by omega)
  clear hg1 hl1 hk1 ho1 hb1 hl0 HO0 HB1
  have HO0 := HO0'
  clear HO0'
  go_wp2_with (fail)
  refine (dot_at k _ _ _ _ _ _ l0 l1 r1 r2 _ rfl rfl (own_C HO0.out) HKa.out (own_C HO1.out) HKb.out HD.out).mono ?_
  rintro e w' ⟨rfl, ⟨n2, rfl⟩⟩
  go_wp2_with (fail)
  refine (ref_at k _ _ _ _ _ _ l0 l1 r1 r2 _ rfl rfl (Kd.C_drewN (Kd.C_below HR0.out HB2.out) _) HC0.out (Kd.C_drewN (Kd.C_below HR1.out HB2.out) _) HC1.out HD2.out).mono ?_
  rintro e w' ⟨rfl, ⟨n3, rfl⟩⟩
  go_wp2_with (fail)
  refine (dot_at k _ _ _ _ _ _ l0 l1 r1 r2 _ rfl rfl (Kd.C_drewN (own_C HO0.out) _) HKa.out (Kd.C_drewN (own_C HO1.out) _) HKb.out HD.out).mono ?_
  rintro e w' ⟨rfl, ⟨n4, rfl⟩⟩
  have HB3 : Aside0 (Below w.heap.size w ((w2.drewN (n2 + n3)).drewN n4)) := ⟨pw_below_drewN (pw_below_drewN HB2.out _) _⟩
  have HO0' : Aside0 (Kd.R (Kd.int .u8) 5 ((w2.drewN (n2 + n3)).drewN n4) w.heap.size (fun k => k = g0) (.slice (some ⟨g0, 0, none⟩) (l0.length + 70) k0) (lentL l0 70)) := ⟨Kd.R_drewN (Kd.R_drewN HO0.out _) _⟩
  have HO1' : Aside0 (Kd.R (Kd.int .u8) 5 ((w2.drewN (n2 + n3)).drewN n4) w.heap.size (fun k => k = g1) (.slice (some ⟨g1, 0, none⟩) (l1.length + 70) k1) (lentL l1 70)) := ⟨Kd.R_drewN (Kd.R_drewN HO1.out _) _⟩
  clear HO0 HO1 HB2
  generalize (w2.drewN (n2 + n3)).drewN n4 = w3 at HB3 HO0' HO1' ⊢
  go_wp2_with (fail)
  refine (back_calls w _ A0 c0 l0 g0 k0 HL0.out HR0.out HC0.out HB3.out HK0.out HG0.out HO0'.out).mono ?_
  rintro e w4 ⟨rfl, ho0, hb4, hk4⟩
  have HX0 := Aside0.mk ho0
  have HB4 := Aside0.mk hb4
  have HO1 : Aside0 (Kd.R (Kd.int .u8) 5 w4 w.heap.size (fun k => k = g1) (.slice (some ⟨g1, 0, none⟩) (l1.length + 70) k1) (lentL l1 70)) := ⟨Kd.R_kept HO1'.out hk4 (fun k hk e => HNE.out (by rw [← hk, e]))⟩
  clear ho0 hb4 hk4 HO0' HO1' HB3
  go_wp2_with (fail)
  refine (back_calls w _ A1 c1 l1 g1 k1 HL1.out HR1.out HC1.out HB4.out HK1.out HG1.out HO1.out).mono ?_
  rintro e w5 ⟨rfl, ho1, hb5, hk5⟩
  have HX1 := Aside0.mk ho1
  have HB5 := Aside0.mk hb5
  have HX0' : Aside0 (Kd.R (Kd.int .u8) 5 w5 w.heap.size (fun k => k = g0) (.slice (some ⟨g0, 0, none⟩) (l0.length + 70) k0) ((lentL l0 70).map xo)) := ⟨Kd.R_kept HX0.out hk5 (fun k hk e => HNE.out (by rw [← hk, e]))⟩
  clear ho1 hb5 hk5 HX0 HO1 HB4
  go_wp2_with (fail)
  refine (ref_at k _ _ _ _ _ _ (l0.map xo) (l1.map xo) s1 s2 _ (List.length_map _) (List.length_map _) (own_X HX0'.out) HKa.out (own_X HX1.out) HKb.out HE2.out).mono ?_
  rintro e w' ⟨rfl, ⟨n6, rfl⟩⟩
  go_wp2_with (fail)
  refine (dot_at k _ _ _ _ _ _ (l0.map xo) (l1.map xo) s1 s2 _ (List.length_map _) (List.length_map _) (Kd.C_drewN (own_X HX0'.out) _) HKa.out (Kd.C_drewN (own_X HX1.out) _) HKb.out HE.out).mono ?_
  rintro e w' ⟨rfl, ⟨n7, rfl⟩⟩
  have e1 : (r1 == r1) = true := beq_self_eq_true _
  have e2 : (r2 == r2) = true := beq_self_eq_true _
  have e3 : (s1 == s1) = true := beq_self_eq_true _
  have e4 : (s2 == s2) = true := beq_self_eq_true _
  clear HR0 HC0 HR1 HC1 HL0 HL1 HAL HD HD2 HE HE2 HNE HX0' HX1 HK0 HK1 HKa HKb HG0 HG1
  go_wp2
  go_ret
  exact ⟨rfl, by repeat (first | (with_reducible first | exact HB5.out | apply below_alloc | apply pw_below_drewN | apply below_drew1) | exact HB5.out)⟩
end Go.Proofs.Ytdleoljbnjjdgaa.DotsW
