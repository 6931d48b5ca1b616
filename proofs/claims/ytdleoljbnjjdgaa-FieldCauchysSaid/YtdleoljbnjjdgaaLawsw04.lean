/- A part of a proof: see the text's own remark. No conditions beyond its theorems' own. -/
import Derived.Test.YtdleoljbnjjdgaaLaws04
/-! FieldCauchys, walked -/
namespace Go.Proofs.Ytdleoljbnjjdgaa.Bok
open Go.RowKit Go.Proofs.Ytdleoljbnjjdgaa.QCFieldCauchys Go.Proofs.YtdleoljbnjjdgaaW.PrintWords Go.Proofs.YtdleoljbnjjdgaaW.PrintLast Go.Proofs.YtdleoljbnjjdgaaW.PrintMore
set_option linter.unusedVariables false
set_option linter.unusedSimpArgs false
theorem matE_row {R C : Nat} (hRC : 0 < R → 0 < C) (hC : C ≤ 256) : ∀ r ∈ Cs.matE R C, 0 < r.length ∧ r.length ≤ 1000 := by
  intro r hr
  unfold Cs.matE at hr
  obtain ⟨i, hi, rfl⟩ := List.mem_map.1 hr
  have := List.mem_range.1 hi
  rw [Cs.rowE_len]
  omega
theorem Ma.form {w : World} {a b : Nat} {v : Value} {hs : List Hdr} {m : List (List Int)} (h : Ma w a b v hs m) : ∃ A c, v = .slice A m.length c := by
  obtain ⟨A, c, e⟩ := own_form h.own
  rw [h.al.len] at e
  exact ⟨A, c, e⟩
theorem Ma.reads {w : World} {a b : Nat} {A : Option Addr} {n c : Nat} {hs : List Hdr} {m : List (List Int)} (h : Ma w a b (.slice A n c) hs m) (hm : ∀ r ∈ m, r.length ≤ 1000) : n ≤ c ∧ n = m.length ∧ Kd.C (Kd.slice 5 (Kd.int .u8)) w A m.length m := by
  have h1 := (h.rows hm).toC h.own
  have hn : n = m.length := by
    obtain ⟨A', c', e⟩ := h.form
    injection e with e1 e2 e3
  subst hn
  exact ⟨own_le h.own, rfl, h1⟩
/-- what has been kept, and what is to be -/
structure Kp (w0 w : World) (gb : Nat) (vl vw : Value) (v : Value) (hs : List Hdr) (m : List (List Int)) : Prop where
  own : w.ownsRow w0.heap.size 29 1 v hs.length (encs hdV hs)
  nl : v.ownBlock = none ∨ v.ownBlock ≠ vl.ownBlock
  nw : v.ownBlock = none ∨ v.ownBlock ≠ vw.ownBlock
theorem Kp.mv {w0 w w' : World} {gb : Nat} {vl vl' vw vw' v : Value} {hs : List Hdr} {m : List (List Int)} (h : Kp w0 w gb vl vw v hs m) (hm : Mv w w' gb vl vl' vw vw') {cs : Array Value} (hb : w.heap[gb]? = some (.cells cs 40 (0, 0))) : Kp w0 w' gb vl' vw' v hs m := by
  obtain ⟨h1, h2, h3⟩ := hm.keeps hb h.own h.nl h.nw
  exact ⟨h1, h2, h3⟩
theorem Ma.kp {w0 w : World} {a b gb : Nat} {v : Value} {hs : List Hdr} {m : List (List Int)} (h : Ma w a b v hs m) (ha : w0.heap.size ≤ a) : Kp w0 w gb (.slice none 0 0) (.slice none 0 0) v hs m :=
  ⟨own_weaken h.own ha, apart_symm (.inl rfl), apart_symm (.inl rfl)⟩
theorem bo_start (w1 wz : World) (hb : Below (w1.alloc (.cells #[.slice none 0 0, .slice none 0 0] 40)).heap.size (w1.alloc (.cells #[.slice none 0 0, .slice none 0 0] 40)) wz) : Bo w1 wz w1.heap.size (.slice none 0 0) (.slice none 0 0) [] [] [] :=
  ⟨below_step (below_alloc (Below.refl w1.heap.size w1) (.cells #[.slice none 0 0, .slice none 0 0] 40)) hb, Nat.le_refl _, (hb.block _ (by rw [World.size_alloc]; omega)).trans (heap_alloc_new _ _), ⟨rfl, .inl ⟨rfl, rfl⟩⟩, ⟨rfl, .inl ⟨rfl, rfl⟩⟩, Rows5.nil _, .inl rfl⟩
theorem held_calls' (w0 w : World) (gb : Nat) (vl vw : Value) (hl hw : List Hdr) (ml : List (List Int)) (A : Option Addr) (n c : Nat) (hs : List Hdr) (m : List (List Int)) (h : Bo w0 w gb vl vw hl hw ml) (hk : Kp w0 w gb vl vw (.slice A n c) hs m) (hr : Rows5 w hs m) (hr0 : ∀ r ∈ m, 0 < r.length ∧ r.length ≤ 1000) (hn : n = m.length) (h2 : hl.length + hs.length ≤ 2000) (h3 : hw.length = hl.length) :
    Calls Try.prog 24 #[.pointer (some ⟨gb, 0, none⟩), .slice A n c] w fun e w' => e = .returned (.tuple #[]) ∧ ∃ vl' vw' hw', Bo w0 w' gb vl' vw' (hl ++ hs) hw' (ml ++ m) ∧ hw'.length = (hl ++ hs).length ∧ Mv w w' gb vl vl' vw vw' := by
  rw [← hr.len] at hn
  subst hn
  exact held_calls w0 w gb vl vw hl hw ml A c hs m h hk.own hr hr0 hk.nl hk.nw h2 h3
theorem Ma.len {w : World} {a b : Nat} {v : Value} {hs : List Hdr} {m : List (List Int)} (h : Ma w a b v hs m) : hs.length = m.length := h.al.len
theorem kp_ent {w0 w w' : World} {gb : Nat} {vl vw v : Value} {hs : List Hdr} {m : List (List Int)} (h : Kp w0 w gb vl vw v hs m) {cs : Array Value} (hb : w.heap[gb]? = some (.cells cs 40 (0, 0))) (he : ∀ k, k < w.heap.size → k ≠ gb → (∀ c f, w.heap[k]? ≠ some (.cells c 5 f)) → w'.heap[k]? = w.heap[k]?) : w'.ownsRow w0.heap.size 29 1 v hs.length (encs hdV hs) :=
  own_move h.own fun k hk => he k (own_lt h.own k hk) (fun e => own_ne40 h.own hb (by decide) (by rw [hk, e])) fun c f hc => by
    obtain ⟨c2, h2⟩ := own_typed h.own k hk
    rw [hc] at h2
    injection h2 with h2
    injection h2 with _ h2
    cases h2
set_option maxHeartbeats 1600000 in
set_option maxRecDepth 100000 in
theorem cauchys_calls (n k : Int) (hn : -9223372036854775808 ≤ n ∧ n ≤ 9223372036854775807) (hk : -9223372036854775808 ≤ k ∧ k ≤ 9223372036854775807) (w : World) :
    Calls Try.prog 7 #[.int .i64 n, .int .i64 k] w fun e w' => e = .returned (.bool true) ∧ Below w.heap.size w w' := by
  obtain ⟨R, C, hR, hC, hRC, er, hf, hr⟩ := Cs.both n k hn hk
  obtain ⟨R2, C2, hR2, hC2, hRC2, er2, hf2, hr2⟩ := Cs.both 2 3 (by decide) (by decide)
  have he2 : er2 = 0 := by
    have h1 := hf2 200000 (Nat.le_refl _)
    have h2 : ∃ m, field_Cauchy.f 200000 ((2 : Nat) : Int) ((3 : Nat) : Int) = some (m, 0) := by
      refine ⟨Cs.matE 2 3, ?_⟩
      unfold field_Cauchy.f
      rw [if_neg (by omega), if_neg (by omega), if_neg (by omega), if_neg (by omega), show wrap64 (((2 : Nat) : Int) + ((3 : Nat) : Int)) = 5 from by rw [Cs.w64 (by omega) (by omega)]; rfl, show decide ((5 : Int) > 256) = false from rfl, show (200000 : Nat) = 199999 + 1 from rfl, field_Cauchy.j0, if_neg (by decide)]
      exact Cs.fC_l0 2 3 (by decide) 2 0 199999 (by decide) (by decide)
    obtain ⟨m, h2⟩ := h2
    have h3 : some (Cs.matE R2 C2, er2) = some (m, 0) := h1.symm.trans h2
    injection h3 with h3
    injection h3
  subst he2
  have HAL : Aside0 (dailieslaw04_alive.f 200000 = some true) := ⟨Cs.alive_f 200000 (by omega)⟩
  have HX := Aside0.mk (hf 200000 (Nat.le_refl _))
  have HY := Aside0.mk (hf 200000 (Nat.le_refl _))
  have HV := Aside0.mk (hf 200000 (Nat.le_refl _))
  have HO := Aside0.mk (hf2 200000 (Nat.le_refl _))
  have HRX := Aside0.mk (hr 200000 (Nat.le_refl _))
  have HRO := Aside0.mk (hr2 200000 (Nat.le_refl _))
  have HM1 := Aside0.mk (matE_row hRC hC)
  have HM2 := Aside0.mk (matE_row hRC2 hC2)
  have HS1 := Aside0.mk (fun r hr => (HM1.out r hr).2)
  have HS2 := Aside0.mk (fun r hr => (HM2.out r hr).2)
  have HL1 := Aside0.mk (show (Cs.matE R C).length ≤ 256 by rw [Cs.matE_len]; exact hR)
  have HL2 := Aside0.mk (show (Cs.matE R2 C2).length ≤ 256 by rw [Cs.matE_len]; exact hR2)
  have hee : (er != er) = false := bne_self_eq_false _
  clear hf hr hf2 hr2 hn hk hR hC hRC hR2 hC2 hRC2
  generalize Cs.matE R C = m1 at *
  generalize Cs.matE R2 C2 = m2 at *
  go_enter Try.func7, Try.ntmps7
  go_wp2_with (first
    | (go_at_call 11; (with_reducible refine (dailieslaw04_alive.calls 200000 true _ HAL.out).mono ?_); rintro e w1 ⟨rfl, hd⟩; have HB1 := Aside0.mk hd.below; clear hd HAL)
    | (go_at_call 21; (with_reducible refine (field_Cauchy.calls 200000 n k m1 er _ HX.out).mono ?_); rintro e wx ⟨vx, rfl, hs, hb⟩; obtain ⟨hx, hma⟩ := ma_of_S hs; obtain ⟨Ax, cx, ex⟩ := hma.form; subst ex; have HMX := Aside0.mk hma; have HBX := Aside0.mk hb; clear hs hb hma HX)
    | (go_at_call 21; (with_reducible refine (field_Cauchy.calls 200000 2 3 m2 0 _ HO.out).mono ?_); rintro e wo ⟨vo, rfl, hs, hb⟩; obtain ⟨ho, hma⟩ := ma_of_S hs; obtain ⟨Ao, co, eo⟩ := hma.form; subst eo; have HMO := Aside0.mk hma; have HBO := Aside0.mk hb; clear hs hb hma HO)
    | (go_at_call 21; (with_reducible refine (field_Cauchy.calls 200000 n k m1 er _ HY.out).mono ?_); rintro e wy ⟨vy, rfl, hs, hb⟩; obtain ⟨hy, hma⟩ := ma_of_S hs; obtain ⟨Ay, cy, ey⟩ := hma.form; subst ey; have HMY := Aside0.mk hma; have HBY := Aside0.mk hb; clear hs hb hma HY)
    | (go_at_call 21; (with_reducible refine (field_Cauchy.calls 200000 n k m1 er _ HV.out).mono ?_); rintro e wv ⟨vv, rfl, hs, hb⟩; obtain ⟨hv, hma⟩ := ma_of_S hs; obtain ⟨Av, cv, ev⟩ := hma.form; subst ev; have HMV := Aside0.mk hma; have HBV := Aside0.mk hb; clear hs hb hma HV)
    | (go_at_call 22; (with_reducible refine (dailiesref04_Cauchy.calls 200000 n k m1 er _ HRX.out).mono ?_); rintro e wr ⟨vr, rfl, hs, hb⟩; obtain ⟨hrr, hma⟩ := ma_of_S hs; obtain ⟨Ar, cr, er'⟩ := hma.form; subst er'; have HMR := Aside0.mk hma; have HVr := Aside0.mk (HMV.out.below hb); have HYr := Aside0.mk (HMY.out.below (below_step HBV.out hb)); have HOr := Aside0.mk (HMO.out.below (below_step HBY.out (below_step HBV.out hb))); have HXr := Aside0.mk (HMX.out.below (below_step HBO.out (below_step HBY.out (below_step HBV.out hb)))); have HB0 := Aside0.mk (below_step HBX.out (below_step HBO.out (below_step HBY.out (below_step HBV.out hb)))); have HZ1 := Aside0.mk (Below.refl wr.heap.size wr); clear hs hb hma HRX)
    | (go_at_call 23; (with_reducible refine (same_calls _ _ m1 _ _ m1 _ ?sa ?sb ?sc ?sd ?se).mono ?_); (case sa => exact ((HVr.out.below HZ1.out).reads HS1.out).2.2); (case sb => exact ((HVr.out.below HZ1.out).reads HS1.out).1); (case sc => exact ((HMR.out.below HZ1.out).reads HS1.out).2.2); (case sd => exact ((HMR.out.below HZ1.out).reads HS1.out).1); (case se => have := HL1.out; omega); rintro e ws ⟨he, hd⟩; rw [sameL_self] at he; subst he; have HZ2 := Aside0.mk (below_step HZ1.out hd.below); clear hd HZ1)
    | (go_at_call 22; (with_reducible refine (dailiesref04_Cauchy.calls 200000 2 3 m2 0 _ HRO.out).mono ?_); rintro e wq ⟨vq, rfl, hs, hb⟩; obtain ⟨hq, hma⟩ := ma_of_S hs; obtain ⟨Aq, cq, eq'⟩ := hma.form; subst eq'; have HMQ := Aside0.mk hma; have HZ3 := Aside0.mk (below_step HZ2.out hb); have HQ3 := Aside0.mk (Below.refl wq.heap.size wq); clear hs hb hma HRO)
    | (go_at_call 23; (with_reducible refine (same_calls _ _ m1 _ _ m1 _ ?sa ?sb ?sc ?sd ?se).mono ?_); (case sa => exact ((HXr.out.below HZ3.out).reads HS1.out).2.2); (case sb => exact ((HXr.out.below HZ3.out).reads HS1.out).1); (case sc => exact ((HMR.out.below HZ3.out).reads HS1.out).2.2); (case sd => exact ((HMR.out.below HZ3.out).reads HS1.out).1); (case se => have := HL1.out; omega); rintro e ws ⟨he, hd⟩; rw [sameL_self] at he; subst he; have HZ4 := Aside0.mk (below_step HZ3.out hd.below); have HQ4 := Aside0.mk (below_step HQ3.out hd.below); clear hd HZ3)
    | (go_at_call 23; (with_reducible refine (same_calls _ _ m1 _ _ m1 _ ?sa ?sb ?sc ?sd ?se).mono ?_); (case sa => exact ((HYr.out.below HZ4.out).reads HS1.out).2.2); (case sb => exact ((HYr.out.below HZ4.out).reads HS1.out).1); (case sc => exact ((HMR.out.below HZ4.out).reads HS1.out).2.2); (case sd => exact ((HMR.out.below HZ4.out).reads HS1.out).1); (case se => have := HL1.out; omega); rintro e ws ⟨he, hd⟩; rw [sameL_self] at he; subst he; have HZ5 := Aside0.mk (below_step HZ4.out hd.below); have HQ5 := Aside0.mk (below_step HQ4.out hd.below); clear hd HZ4)
    | (go_at_call 23; (with_reducible refine (same_calls _ _ m2 _ _ m2 _ ?sa ?sb ?sc ?sd ?se).mono ?_); (case sa => exact ((HOr.out.below HZ5.out).reads HS2.out).2.2); (case sb => exact ((HOr.out.below HZ5.out).reads HS2.out).1); (case sc => exact ((HMQ.out.below HQ5.out).reads HS2.out).2.2); (case sd => exact ((HMQ.out.below HQ5.out).reads HS2.out).1); (case se => have := HL2.out; omega); rintro e ws ⟨he, hd⟩; rw [sameL_self] at he; subst he; have HZ := Aside0.mk (below_step HZ5.out hd.below); have hZ0 := below_step HB0.out HZ.out; have HBO0 := Aside0.mk (bo_start w1 _ hZ0); have h10 : w1.heap.size ≤ (w1.alloc (.cells #[.slice none 0 0, .slice none 0 0] 40)).heap.size := (by rw [World.size_alloc]; omega); have h1x := Nat.le_trans h10 HBX.out.size; have h1o := Nat.le_trans h1x HBO.out.size; have h1y := Nat.le_trans h1o HBY.out.size; have hX := HXr.out.below HZ.out; have hO := HOr.out.below HZ.out; have hY := HYr.out.below HZ.out; have hV := HVr.out.below HZ.out; have KX0 := Aside0.mk (hX.kp (gb := w1.heap.size) h10); have KO0 := Aside0.mk (hO.kp (gb := w1.heap.size) h1x); have KY0 := Aside0.mk (hY.kp (gb := w1.heap.size) h1o); have KV0 := Aside0.mk (hV.kp (gb := w1.heap.size) h1y); have RX0 := Aside0.mk (hX.rows HS1.out); have RO0 := Aside0.mk (hO.rows HS2.out); have RY0 := Aside0.mk (hY.rows HS1.out); have RV0 := Aside0.mk (hV.rows HS1.out); have LX := Aside0.mk hX.len; have LO := Aside0.mk hO.len; have LY := Aside0.mk hY.len; have LV := Aside0.mk hV.len; have HA0 := Aside0.mk (hX.al.app (hO.al.app (hY.al.app hV.al HBY.out.size hY.lth) HBO.out.size hO.lth) HBX.out.size hX.lth); have PXY := Aside0.mk (apart_of_lt (fun k hk => Nat.lt_of_lt_of_le (hX.ltv k hk) HBO.out.size) hY.own); have PYV := Aside0.mk (apart_of_lt hY.ltv hV.own); have PXV := Aside0.mk (apart_of_lt (fun k hk => Nat.lt_of_lt_of_le (hX.ltv k hk) (Nat.le_trans HBO.out.size HBY.out.size)) hV.own); have H10 := Aside0.mk h10; clear hd HZ5 hZ0 h10 h1x h1o h1y hX hO hY hV)
    | (go_at_call 24; (with_reducible refine (held_calls' w1 _ w1.heap.size _ _ _ _ _ Ax m1.length cx hx m1 HBO0.out KX0.out RX0.out HM1.out rfl ?s1 ?s2).mono ?_); (case s1 => have := LX.out; have := HL1.out; simp only [List.length_nil]; omega); (case s2 => rfl); rintro e w9 ⟨rfl, vl1, vw1, hw1, hbo, hlw, hmv⟩; have HBO1 := Aside0.mk hbo; have HW1 := Aside0.mk hlw; have KX1 := Aside0.mk (KX0.out.mv hmv HBO0.out.box); have RX1 := Aside0.mk (RX0.out.move (hmv.same5 HBO0.out)); have KO1 := Aside0.mk (KO0.out.mv hmv HBO0.out.box); have RO1 := Aside0.mk (RO0.out.move (hmv.same5 HBO0.out)); have KY1 := Aside0.mk (KY0.out.mv hmv HBO0.out.box); have RY1 := Aside0.mk (RY0.out.move (hmv.same5 HBO0.out)); have KV1 := Aside0.mk (KV0.out.mv hmv HBO0.out.box); have RV1 := Aside0.mk (RV0.out.move (hmv.same5 HBO0.out)); have HA1 := Aside0.mk (HA0.out.same5 (hmv.same5 HBO0.out)); clear hbo hlw hmv HBO0)
    | (go_at_call 24; (with_reducible refine (held_calls' w1 _ w1.heap.size _ _ _ _ _ Ao m2.length co ho m2 HBO1.out KO1.out RO1.out HM2.out rfl ?s1 ?s2).mono ?_); (case s1 => have := LX.out; have := LO.out; have := LY.out; have := LV.out; have := HL1.out; have := HL2.out; simp only [List.length_append, List.length_nil]; omega); (case s2 => exact HW1.out); rintro e w9 ⟨rfl, vl2, vw2, hw2, hbo, hlw, hmv⟩; have HBO2 := Aside0.mk hbo; have HW2 := Aside0.mk hlw; have KX2 := Aside0.mk (KX1.out.mv hmv HBO1.out.box); have RX2 := Aside0.mk (RX1.out.move (hmv.same5 HBO1.out)); have KO2 := Aside0.mk (KO1.out.mv hmv HBO1.out.box); have RO2 := Aside0.mk (RO1.out.move (hmv.same5 HBO1.out)); have KY2 := Aside0.mk (KY1.out.mv hmv HBO1.out.box); have RY2 := Aside0.mk (RY1.out.move (hmv.same5 HBO1.out)); have KV2 := Aside0.mk (KV1.out.mv hmv HBO1.out.box); have RV2 := Aside0.mk (RV1.out.move (hmv.same5 HBO1.out)); have HA2 := Aside0.mk (HA1.out.same5 (hmv.same5 HBO1.out)); clear hbo hlw hmv HBO1)
    | (go_at_call 24; (with_reducible refine (held_calls' w1 _ w1.heap.size _ _ _ _ _ Ay m1.length cy hy m1 HBO2.out KY2.out RY2.out HM1.out rfl ?s1 ?s2).mono ?_); (case s1 => have := LX.out; have := LO.out; have := LY.out; have := LV.out; have := HL1.out; have := HL2.out; simp only [List.length_append, List.length_nil]; omega); (case s2 => exact HW2.out); rintro e w9 ⟨rfl, vl3, vw3, hw3, hbo, hlw, hmv⟩; have HBO3 := Aside0.mk hbo; have HW3 := Aside0.mk hlw; have KX3 := Aside0.mk (KX2.out.mv hmv HBO2.out.box); have RX3 := Aside0.mk (RX2.out.move (hmv.same5 HBO2.out)); have KO3 := Aside0.mk (KO2.out.mv hmv HBO2.out.box); have RO3 := Aside0.mk (RO2.out.move (hmv.same5 HBO2.out)); have KY3 := Aside0.mk (KY2.out.mv hmv HBO2.out.box); have RY3 := Aside0.mk (RY2.out.move (hmv.same5 HBO2.out)); have KV3 := Aside0.mk (KV2.out.mv hmv HBO2.out.box); have RV3 := Aside0.mk (RV2.out.move (hmv.same5 HBO2.out)); have HA3 := Aside0.mk (HA2.out.same5 (hmv.same5 HBO2.out)); clear hbo hlw hmv HBO2)
    | (go_at_call 24; (with_reducible refine (held_calls' w1 _ w1.heap.size _ _ _ _ _ Av m1.length cv hv m1 HBO3.out KV3.out RV3.out HM1.out rfl ?s1 ?s2).mono ?_); (case s1 => have := LX.out; have := LO.out; have := LY.out; have := LV.out; have := HL1.out; have := HL2.out; simp only [List.length_append, List.length_nil]; omega); (case s2 => exact HW3.out); rintro e w9 ⟨rfl, vl4, vw4, hw4, hbo, hlw, hmv⟩; have HBO4 := Aside0.mk hbo; have HW4 := Aside0.mk hlw; have KX4 := Aside0.mk (KX3.out.mv hmv HBO3.out.box); have RX4 := Aside0.mk (RX3.out.move (hmv.same5 HBO3.out)); have KO4 := Aside0.mk (KO3.out.mv hmv HBO3.out.box); have RO4 := Aside0.mk (RO3.out.move (hmv.same5 HBO3.out)); have KY4 := Aside0.mk (KY3.out.mv hmv HBO3.out.box); have RY4 := Aside0.mk (RY3.out.move (hmv.same5 HBO3.out)); have KV4 := Aside0.mk (KV3.out.mv hmv HBO3.out.box); have RV4 := Aside0.mk (RV3.out.move (hmv.same5 HBO3.out)); have HA4 := Aside0.mk (HA3.out.same5 (hmv.same5 HBO3.out)); clear hbo hlw hmv HBO3)
    | (go_at_call 25; (with_reducible refine (ends_calls w1 _ w1.heap.size vl4 vw4 (hx ++ (ho ++ (hy ++ hv))) hw4 (m1 ++ (m2 ++ (m1 ++ m1))) ?s1 (HA4.out.weaken H10.out) ?s2 ?s3 ?s4).mono ?_); (case s1 => have := HBO4.out; simp only [List.nil_append, List.append_assoc] at this; exact this); (case s2 => have := HL1.out; have := HL2.out; simp only [List.length_append]; omega); (case s3 => intro r hr; simp only [List.mem_append] at hr; rcases hr with hr | hr | hr | hr; exact HS1.out r hr; exact HS2.out r hr; exact HS1.out r hr; exact HS1.out r hr); (case s4 => rw [HW4.out]; have := LX.out; have := LO.out; have := LY.out; have := LV.out; simp only [List.length_append, List.length_nil]; omega); rintro e w10 ⟨rfl, hbe, hsz, hent⟩; have HBE := Aside0.mk hbe; have OX := kp_ent KX4.out HBO4.out.box hent; have OY := kp_ent KY4.out HBO4.out.box hent; have OV := kp_ent KV4.out HBO4.out.box hent; rw [LX.out] at OX; rw [LY.out] at OY; rw [LV.out] at OV; have HOX := Aside0.mk OX; have HOY := Aside0.mk OY; have HOV := Aside0.mk OV; clear hbe hsz hent OX OY OV)
    | (go_at_call 26; (with_reducible refine (outer_calls w1 _ Ax Ay cx cy m1.length m1.length hx hy HBE.out HOX.out HOY.out LX.out LY.out PXY.out ?s1 ?s2).mono ?_); (case s1 => have := HL1.out; omega); (case s2 => have := HL1.out; omega); rintro e w11 ⟨rfl, hbe, hsz, hent, ⟨xa, hxa, oxa⟩, xb, hxb, oxb⟩; have HB11 := Aside0.mk hbe; have HXB := Aside0.mk hxb; have HOB := Aside0.mk oxb; have HOV2 := Aside0.mk (own_move HOV.out (fun j hj => hent j (own_lt HOV.out j hj) (ne_of_apart PXV.out hj) (ne_of_apart PYV.out hj))); clear hbe hsz hent oxa hxa oxb hxb HOX HOY)
    | (go_at_call 26; (with_reducible refine (outer_calls w1 _ Av Ay cv cy m1.length m1.length hv xb HB11.out HOV2.out HOB.out LV.out HXB.out (apart_symm PYV.out) ?s1 ?s2).mono ?_); (case s1 => have := HL1.out; omega); (case s2 => have := HL1.out; omega); rintro e w12 ⟨rfl, hbe, _⟩; have HB12 := Aside0.mk hbe; clear hbe))
  go_ret
  exact ⟨rfl, below_step HB1.out HB12.out⟩
end Go.Proofs.Ytdleoljbnjjdgaa.Bok
