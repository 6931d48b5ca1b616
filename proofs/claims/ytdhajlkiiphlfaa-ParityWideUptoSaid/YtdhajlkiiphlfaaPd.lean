/- parity.Restore, walked. No conditions beyond the theorem's own. -/
import Derived.Test.YtdhajlkiiphlfaaPc
import Derived.Deep.CutRange
/-! parity.Restore, walked -/
namespace Go.Proofs.Ytdhajlkiiphlfaa.Par
open Go.RowKit Go.Proofs.Ytdhajlkiiphlfaa.QBaseParityWide Go.Proofs.YtdhajlkiiphlfaaW.PrintWords Go.Proofs.YtdhajlkiiphlfaaW.PrintLast Go.Proofs.YtdhajlkiiphlfaaW.PrintMore Go.Proofs.Ytdhajlkiiphlfaa.Solve
set_option linter.unusedVariables false
set_option linter.unusedSimpArgs false
structure Given (rows : List (List Int)) (ls : List Nat) (more : List (List Int)) (g : List Bool) (n p W : Nat) : Prop where
  rn : rows.length = n
  pn : more.length = p
  ln : ls.length = n
  gn : g.length = n + p
  n200 : n ≤ 200
  p16 : p ≤ 16
  wid : W = wideN ls
  small : ∀ t, t < n → ls.getD t 0 ≤ 16777216
  rowsFit : ∀ t, t < n → g.getD t false = false → (rows.getD t []).length = ls.getD t 0
  moreFit : ∀ t, t < p → g.getD (n + t) false = false → (more.getD t []).length = W
  rin : ∀ r ∈ rows, ∀ y ∈ r, In8 y
  min : ∀ r ∈ more, ∀ y ∈ r, In8 y
theorem getD_mem {α : Type} {l : List α} {d : α} {t : Nat} (h : t < l.length) : l.getD t d ∈ l := by
  rw [List.getD_eq_getElem?_getD, List.getElem?_eq_getElem h]; exact List.getElem_mem h
theorem getD_get {α : Type} {l : List α} {d : α} {t : Nat} (h : t < l.length) : l[t]? = some (l.getD t d) := by
  rw [List.getD_eq_getElem?_getD, List.getElem?_eq_getElem h]; rfl
theorem at_boolC {w : World} {A : Option Addr} {n : Nat} {xs : List Bool} (h : Kd.C Kd.bool w A n xs) {i : Nat} (hi : i < n) : ∃ ad, A = some ad ∧ w.cell? (ad.add i) = some (.bool (xs.getD i false)) := by
  obtain ⟨ad, c, e, _, hK, hc⟩ := Kd.C_get h false (i : Int) (by omega) (by omega)
  have hK' : c = [.bool (xs.getD (i : Int).toNat false)] := hK
  subst hK'
  have := hc 0 _ rfl
  rw [Int.toNat_natCast, show i * Kd.bool.sz + 0 = i from Nat.mul_one i] at this
  exact ⟨ad, e, this⟩
theorem sum_le {ls : List Nat} {B : Nat} (h : ∀ t, t < ls.length → ls.getD t 0 ≤ B) : ls.sum ≤ ls.length * B := by
  induction ls with
  | nil => simp
  | cons a l ih =>
    have h0 := h 0 (by simp)
    have := ih (fun t ht => h (t + 1) (by simpa using ht))
    rw [List.sum_cons, List.length_cons, Nat.add_mul]
    simp at h0
    omega
theorem make_cap (q : Nat) (hq : q ≤ 1000) (W : World) : (Instr.makeSlice 41 (.int .i64 0) (.int .i64 (q : Int))).run Try.prog W = .ok (.slice (some ⟨W.heap.size, 0, none⟩) 0 q) (W.alloc (.cells (madeCells #[.int .u8 0] q) 5)) := by
  obtain ⟨i0, hi, hzz⟩ := Option.map_eq_some_iff.1 info5'
  simp only [Prod.mk.injEq] at hzz
  obtain ⟨hz0, hz1, hz2⟩ := hzz
  have h := run_make (P := Try.prog) W 41 5 i0 (.int .u8 0) Try.underlying41 hi hz0 .i64 .i64 0 (q : Int) (by omega) (by omega) (by rw [hz2]; omega) (by omega)
  rw [h, hz1, Int.toNat_natCast, Nat.mul_one]
  rfl
theorem out_len {rows : List (List Int)} {ls : List Nat} {more : List (List Int)} {g : List Bool} {n p W : Nat} (h : Given rows ls more g n p W) {j : Nat} (hj : j < n) : ((outA rows ls g n).getD j []).length = ls.getD j 0 ∧ ls.getD j 0 ≤ W ∧ ∀ y ∈ (outA rows ls g n).getD j [], In8 y := by
  have hjl : j < ls.length := by rw [h.ln]; exact hj
  have e : (outA rows ls g n).getD j [] = if j < n ∧ g.getD j false = false then rows.getD j [] else zeros (ls.getD j 0) := by
    rw [List.getD_eq_getElem?_getD, outA_get rows ls g n hjl]; rfl
  refine ⟨?_, by rw [h.wid]; exact le_wideN (getD_mem hjl), ?_⟩
  · rw [e]
    by_cases hc : j < n ∧ g.getD j false = false
    · rw [if_pos hc]; exact h.rowsFit j hj hc.2
    · rw [if_neg hc]; exact List.length_replicate
  · rw [e]
    by_cases hc : j < n ∧ g.getD j false = false
    · rw [if_pos hc]; exact h.rin _ (getD_mem (by rw [h.rn]; exact hj))
    · rw [if_neg hc]; exact zeros_in _
theorem outB_row {rows : List (List Int)} {ls : List Nat} {more : List (List Int)} {g : List Bool} {n p W q : Nat} (h : Given rows ls more g n p W) (hq : (woL g n).length = q) {X : List (List Int)} (hX : Sh q W X) : ∀ k, k ≤ q → (outB (woL g n) X ls (outA rows ls g n) k).length = n ∧ ∀ t, t < n → ∃ r, (outB (woL g n) X ls (outA rows ls g n) k)[t]? = some r ∧ r.length = ls.getD t 0 ∧ ∀ y ∈ r, In8 y
  | 0, _ => ⟨by rw [outB, outA_length, h.ln], fun t ht => ⟨_, getD_get (by rw [outB, outA_length, h.ln]; exact ht), (out_len h ht).1, (out_len h ht).2.2⟩⟩
  | k + 1, hk => by
    obtain ⟨h1, h2⟩ := outB_row h hq hX k (by omega)
    refine ⟨by rw [outB, List.length_set]; exact h1, fun t ht => ?_⟩
    rw [outB]
    by_cases e : (woL g n).getD k 0 = t
    · rw [e]
      have hkX : k < X.length := by rw [hX.len]; omega
      have hmem := getD_mem (d := []) hkX
      refine ⟨_, List.getElem?_set_self (by rw [h1]; exact ht), ?_, fun y hy => hX.el _ hmem y (List.mem_of_mem_take hy)⟩
      rw [List.length_take, hX.row _ hmem]
      have := (out_len h ht).2.1
      omega
    · rw [List.getElem?_set_ne e]
      exact h2 t ht
structure LoD (w0 w6 w : World) (gh b : Nat) (out : List (List Int)) : Prop where
  below : Below w0.heap.size w0 w
  kept : Kept w6 w (fun k => k = b)
  cu : Cu w w0.heap.size gh b out
theorem LoD.drew {w0 w6 w : World} {gh b : Nat} {out : List (List Int)} (h : LoD w0 w6 w gh b out) : LoD w0 w6 w.drew gh b out := ⟨below_drew1 h.below, h.kept.drew, h.cu.below (below_drew1 (Below.refl _ _))⟩
structure LoA (w0 w1 w : World) (gh b : Nat) (out : List (List Int)) (v : Value) (wo : List Nat) : Prop where
  below : Below w0.heap.size w0 w
  kept : Kept w1 w (fun k => k = b)
  cu : Cu w w0.heap.size gh b out
  wo : w.ownsRow w1.heap.size 3 1 v wo.length (nums .i64 (up wo))
theorem LoA.drew {w0 w1 w : World} {gh b : Nat} {out : List (List Int)} {v : Value} {wo : List Nat} (h : LoA w0 w1 w gh b out v wo) : LoA w0 w1 w.drew gh b out v wo := ⟨below_drew1 h.below, h.kept.drew, h.cu.below (below_drew1 (Below.refl _ _)), own_move h.wo (fun _ _ => rfl)⟩
theorem LoA.copied {w0 w1 w w' : World} {gh b : Nat} {out out' : List (List Int)} {v : Value} {wo : List Nat} (h : LoA w0 w1 w gh b out v wo) (hb : b < w1.heap.size) (h1 : Cu w' w0.heap.size gh b out') (h2 : Below w0.heap.size w0 w') (h3 : Kept w w' (fun k => k = b)) : LoA w0 w1 w' gh b out' v wo :=
  ⟨h2, h.kept.then_ h3 (fun k hk => .inl hk), h1, own_move h.wo (fun k hk => h3.2 k (own_lt h.wo k hk) (fun e => by have := own_base h.wo k hk; omega))⟩
theorem LoA.appended {w0 w1 w w' : World} {gh b : Nat} {out : List (List Int)} {v v' : Value} {wo : List Nat} {x : Nat} (h : LoA w0 w1 w gh b out v wo) (hgb : gh < w1.heap.size ∧ b < w1.heap.size) (h1 : w'.ownsRow w1.heap.size 3 1 v' (up wo ++ [(x : Int)]).length (nums .i64 (up wo ++ [(x : Int)]))) (h2 : Below w1.heap.size w w') (h3 : w.grownBy w' v.ownBlock) (hle : w0.heap.size ≤ w1.heap.size) : LoA w0 w1 w' gh b out v' (wo ++ [x]) := by
  have hne : ∀ k, k < w1.heap.size → some k ≠ v.ownBlock := fun k hk e => by have := own_base h.wo k e.symm; omega
  refine ⟨h.below.trans (h2.mono hle), ⟨Nat.le_trans h.kept.1 h3.size, fun i hi hn => (h2.block i hi).trans (h.kept.2 i hi hn)⟩, ?_, ?_⟩
  · exact h.cu.kept (S := fun k => some k = v.ownBlock) ⟨h3.size, fun i hi hn => h3.block i hi hn⟩ (hne _ hgb.1) (hne _ hgb.2)
  · have e : up wo ++ [(x : Int)] = up (wo ++ [x]) := by unfold up; rw [List.map_append]; rfl
    rw [e, up_length] at h1
    exact h1
theorem LoA.readsWo {w0 w1 w w' : World} {gh b : Nat} {out : List (List Int)} {Aw : Option Addr} {q cw : Nat} {wo : List Nat} (h : LoA w0 w1 w gh b out (.slice Aw q cw) wo) (hb : b < w1.heap.size) (hB : Below w.heap.size w w') : ∀ W, Kept w' W (fun k => k = b) → Kd.C (Kd.int .i64) W Aw q (up wo) := by
  have hR := R_of_own (xs := up wo) (by rw [up_length]; exact h.wo)
  exact Kd.C_kept_own (Kd.R_bound (Kd.R_below hR hB)) (fun k hk e => by have := hk.2.1; omega)
set_option maxHeartbeats 4000000 in
set_option maxRecDepth 100000 in
theorem restore_ok (A0 A1 A2 A3 : Option Addr) (c0 c1 c2 c3 : Nat) (rows : List (List Int)) (ls : List Nat) (more : List (List Int)) (lost : List Int) (g : List Bool) (n p W : Nat) (w : World)
    (hr0 : Kd.C (Kd.slice 5 (Kd.int .u8)) w A0 n rows) (hc0 : n ≤ c0) (hr1 : Kd.C (Kd.int .i64) w A1 n (up ls)) (hc1 : n ≤ c1) (hr2 : Kd.C (Kd.slice 5 (Kd.int .u8)) w A2 p more) (hc2 : p ≤ c2) (hr3 : Kd.C (Kd.int .i64) w A3 lost.length lost) (hc3 : lost.length ≤ c3)
    (hlo : lost.length ≤ 140737488355328) (hf : fitsL rows (up ls) more lost = (g, 0)) (hG : Given rows ls more g n p W) (q : Nat) (hq : (woL g n).length = q) (hcount : q ≤ (usedL g n p).length) (OUT : List (List Int)) (hOUT : outA rows ls g n = OUT) (X : List (List Int)) (hX : 0 < q → Sh q W X ∧ ∀ i, i ≤ p → (usedL g n i).length = q → cols q q 0 (partL g n i, vL g n OUT more i) = some X ∧ Sh q q (partL g n i) ∧ Sh q W (vL g n OUT more i)) :
    Calls Try.prog 16 #[.slice A0 n c0, .slice A1 n c1, .slice A2 p c2, .slice A3 lost.length c3] w fun e w' => ∃ v hs1 hs2 b1 b2, e = .returned (.tuple #[v, .int .i64 0]) ∧ RRes w' w.heap.size v hs1 hs2 b1 b2 (outB (woL g n) X ls OUT q) (restB g n more (madeL (outB (woL g n) X ls OUT q) p) p) ∧ Below w.heap.size w w' := by
  obtain ⟨K, hK⟩ : ∃ K, K = 2 * lost.length + 6000 := ⟨_, rfl⟩
  have F1 : Aside0 (parity_fits.f K rows (up ls) more lost = some (g, 0)) := ⟨by rw [fits_f rows (up ls) more lost hlo (by omega), hf]⟩
  have F2 : Aside0 (parity_wide.f 2000 (up ls) = some ((W : Nat) : Int)) := ⟨by rw [wide_f ls (by have := hG.ln; have := hG.n200; omega) (by omega), hG.wid]⟩
  have F3 : Aside0 (parity_matrix.f 80000 (p : Int) (n : Int) = some (matL p n)) := ⟨matrix_f hG.p16 hG.n200 (by omega)⟩
  have F4 : Aside0 (ls.sum ≤ 281474976710656) := ⟨by
    have h1 := sum_le (ls := ls) (B := 16777216) (fun t ht => hG.small t (by rw [← hG.ln]; exact ht))
    have h2 : ls.length ≤ 200 := by rw [hG.ln]; exact hG.n200
    omega⟩
  have HG := Aside0.mk hG
  have HQ := Aside0.mk hq
  have HCNT := Aside0.mk hcount
  have HOUT := Aside0.mk hOUT
  have HX := Aside0.mk hX
  have HU : Aside0 ((up ls).length = n) := ⟨by rw [up_length, hG.ln]⟩
  have HR0 := Aside0.mk hr0
  have HR1 := Aside0.mk hr1
  have HR2 := Aside0.mk hr2
  have HR3 := Aside0.mk hr3
  have HC0 := Aside0.mk hc0
  have HC1 := Aside0.mk hc1
  have HC2 := Aside0.mk hc2
  have HC3 := Aside0.mk hc3
  have f1 := fun A (c : Nat) B (d : Nat) C (e : Nat) D (f : Nat) (W : World) h0 h1 h2 h3 h4 h5 h6 h7 => parity_fits.calls K A c rows B d (up ls) C e more D f lost g 0 W h0 h1 h2 h3 h4 h5 h6 h7 F1.out
  rw [hG.rn, hG.pn, HU.out] at f1
  have f2 := fun A (c : Nat) (W' : World) h0 h1 => parity_wide.calls 2000 A c (up ls) _ W' h0 h1 F2.out
  rw [HU.out] at f2
  have F5 := Aside0.mk f1
  have F6 := Aside0.mk f2
  clear hr0 hr1 hr2 hr3 hc0 hc1 hc2 hc3 hG hf hlo hK f1 f2 hq hcount hOUT hX
  go_enter Try.func16, Try.ntmps16
  go_wp2_with (first
    | (go_at_call 30; (with_reducible refine (F5.out _ _ _ _ _ _ _ _ _ HR0.out HC0.out HR1.out HC1.out HR2.out HC2.out HR3.out HC3.out).mono ?_); rintro e w1 ⟨v1, rfl, ho, hb⟩; obtain ⟨Ag, cg, rfl, _, hCg⟩ := Kd.R_reads ho; have HCG := Aside0.mk hCg; have HB1 := Aside0.mk hb; clear ho hCg hb)
    | (go_at_call 31; (with_reducible refine (F6.out _ _ _ ?s1 HC1.out).mono ?_); (case s1 => exact Kd.C_below HR1.out HB1.out); rintro e w2 ⟨rfl, hb⟩; have HB2 := Aside0.mk (below_step HB1.out hb); have HCG2 := Aside0.mk (Kd.C_below HCG.out hb); clear hb HCG HB1)
    | (go_at_call 32; (with_reducible refine (cut_calls' _ _ _ ls HG.out.ln _ ?s2 ?s3 F4.out).mono ?_); (case s2 => exact Kd.C_below HR1.out HB2.out); (case s3 => have := HG.out.n200; omega); rintro e w3 ⟨gh, b, rfl, hcu, hb⟩; have HB3 := Aside0.mk (below_step HB2.out hb); have HB23 := Aside0.mk hb; have HBD := Aside0.mk hcu.hb; have HCU := Aside0.mk (hcu.base_down (below_size HB2.out)); clear hcu hb))
  have HK3 : Aside0 (LoA w w3 w3 gh b (outA rows ls g 0) (.slice none 0 0) []) := ⟨⟨HB3.out, Kept.refl _ _, by rw [outA_zero]; exact HCU.out, ⟨rfl, .inl ⟨rfl, rfl⟩⟩⟩⟩
  have HGB : Aside0 (gh < w3.heap.size ∧ b < w3.heap.size) := ⟨⟨HCU.out.lt_g, HCU.out.lt_b⟩⟩
  have HLE : Aside0 (w.heap.size ≤ w3.heap.size) := ⟨below_size HB3.out⟩
  have PG : Aside0 (∀ W, Kept w3 W (fun k => k = b) → Kd.C Kd.bool W Ag g.length g) := ⟨Kd.C_kept_came Kd.heap_bool HCG2.out HB23.out (fun k hk => by rw [hk]; exact HBD.out)⟩
  have P0 : Aside0 (∀ W, Kept w3 W (fun k => k = b) → Kd.C (Kd.slice 5 (Kd.int .u8)) W A0 n rows) := ⟨Kd.C_kept_came (Kd.heap_slice 5 (Kd.heap_int .u8)) HR0.out HB3.out (fun k hk => by rw [hk]; have := HBD.out; have := below_size HB2.out; omega)⟩
  have P2 : Aside0 (∀ W, Kept w3 W (fun k => k = b) → Kd.C (Kd.slice 5 (Kd.int .u8)) W A2 p more) := ⟨Kd.C_kept_came (Kd.heap_slice 5 (Kd.heap_int .u8)) HR2.out HB3.out (fun k hk => by rw [hk]; have := HBD.out; have := below_size HB2.out; omega)⟩
  rw [HG.out.gn] at PG ⊢
  clear HCG2 HCU HBD HB2 HB3 HB23 HR1 HR3 HC1 HC2 HC3 F1 F2 F5 F6
  go_loopw [16, 52] (fun v16 v52 wr => ∃ i : Nat, i ≤ n ∧ v52 = .int .i64 (i : Int) ∧ Aside0 (LoA w w3 wr gh b (outA rows ls g i) v16 (woL g i))) (fun _ v52 _ => n - (intOf v52).toNat)
  case atStart => exact ⟨0, Nat.zero_le _, rfl, HK3⟩
  case round =>
    clear HK3
    obtain ⟨i, hi, rfl, HLA⟩ := hrel
    by_cases hlt : i < n
    · have HLT := Aside0.mk hlt
      have hli : (i : Int) < (n : Int) := by omega
      have hlg : (i : Int) < ((n + p : Nat) : Int) := by omega
      have HW1 := Aside0.mk (wr1 (i := i) hlt (by have := HG.out.n200; omega))
      obtain ⟨adg, eg, hxg⟩ := at_boolC (PG.out _ HLA.out.kept) (i := i) (by omega)
      cases eg
      --{ A
      cases hgi : g.getD i false
      · -- it is there
        rw [hgi] at hxg
        have HGI := Aside0.mk hgi
        obtain ⟨o, hh1, hole, hoff⟩ := HLA.out.cu.head (outA_get rows ls g i (by rw [HG.out.ln]; exact hlt))
        rw [if_neg (by omega), show (zeros (ls.getD i 0)).length = ls.getD i 0 from List.length_replicate] at hh1 hoff
        obtain ⟨ad, A4, c4, e4, hx4, hl4, hC4⟩ := at_L2 (P0.out _ HLA.out.kept) (i : Int) (by omega) (by omega)
        cases e4
        rw [rdL_nat] at hx4 hl4 hC4
        rw [Int.toNat_natCast] at hx4
        have hrl := HG.out.rowsFit i hlt hgi
        have HOFF := Aside0.mk hoff
        have HC4 := Aside0.mk (P0.out _ HLA.out.kept)
        have HRL := Aside0.mk hrl
        have HRC := Aside0.mk hC4
        have HGA := Aside0.mk (outA_get rows ls g i (by rw [HG.out.ln]; exact hlt))
        have HSET := Aside0.mk (outA_kept rows ls g (i := i) (by rw [HG.out.ln]; exact hlt) hgi)
        clear hoff hole hl4 hC4 hrl hgi hlt hi
        go_wp2_with (fail)
        go_still_tail 8, (by kernel_rfl)
        change wpList _ _ _ _ _ wr.drew
        have HLA2 := Aside0.mk HLA.out.drew
        have HRC2 : Aside0 (Kd.C (Kd.int .u8) wr.drew A4 (rows.getD i []).length (rows.getD i [])) := ⟨Kd.C_drew HRC.out⟩
        clear HLA HRC hh1 hx4 hxg
        generalize wr.drew = wd at HLA2 HRC2 ⊢
        go_wp2_with (first | (refine wpList_copy_Cu rfl (.tmp 66) (.tmp 70) rfl (i := i) (off := o) (dc := ls.getD i 0) (r := zeros (ls.getD i 0)) (ys := rows.getD i []) (A := A4) (sc := c4) HLA2.out.cu ?c1 ?c2 ?c3 ?c4 HRC2.out ?c5 w.heap.size w HLA2.out.below (Nat.le_refl _) ?_; (case c1 => rw [HGA.out, if_neg (by omega)]); (case c2 => rw [show (zeros (ls.getD i 0)).length = ls.getD i 0 from List.length_replicate]; exact HOFF.out); (case c3 => rw [show (zeros (ls.getD i 0)).length = ls.getD i 0 from List.length_replicate]; rfl); (case c4 => rfl); (case c5 => rw [show (zeros (ls.getD i 0)).length = ls.getD i 0 from List.length_replicate, HRL.out]; exact Nat.le_refl _); rw [show (zeros (ls.getD i 0)).length = ls.getD i 0 from List.length_replicate]; intro w5 hc5 hb5 hk5; rw [← HRL.out, List.take_length, HSET.out] at hc5; have HL5 := Aside0.mk (HLA2.out.copied HGB.out.2 hc5 hb5 hk5); clear hc5 hb5 hk5))
        have HWO : Aside0 (woL g (i + 1) = woL g i) := ⟨by rw [woL_succ, if_neg (by rw [HGI.out]; decide)]⟩
        go_roundw
        case rel => exact ⟨i + 1, HLT.out, by rw [HW1.out], ⟨by rw [HWO.out]; exact HL5.out⟩⟩
        case measure => exact meas HW1.out HLT.out
      · -- it is gone
        rw [hgi] at hxg
        have HGI := Aside0.mk hgi
        have HWO : Aside0 (woL g (i + 1) = woL g i ++ [i]) := ⟨by rw [woL_succ, if_pos hgi]⟩
        have HOA : Aside0 (outA rows ls g (i + 1) = outA rows ls g i) := ⟨outA_gone rows ls g hgi⟩
        clear hgi hlt hi
        go_wp2_with (first | (refine print_append_num (w0 := wr) w3.heap.size rfl (.tmp 59) (.tmp 61) 30 3 .i64 8 rfl Try.underlying30 info3 (by decide) u16 (up (woL g i)) (i : Int) rfl rfl ?a1 (Below.refl _ _) ?a2 ?a3 ?_; (case a1 => rw [up_length]; exact HLA.out.wo); (case a2 => exact HLA.out.kept.1); (case a3 => have := woL_length_le g i; have := HLT.out; have := HG.out.n200; rw [up_length]; omega); intro v5 w5 hown hb5 hg5 _; have HL5 := Aside0.mk (HLA.out.appended HGB.out hown hb5 hg5 HLE.out); clear hown hb5 hg5))
        go_roundw
        case rel => exact ⟨i + 1, HLT.out, by rw [HW1.out], ⟨by rw [HWO.out, HOA.out]; exact HL5.out⟩⟩
        case measure => exact meas HW1.out HLT.out
      --}
    · obtain rfl : n = i := by omega
      rw [HOUT.out] at HLA
      obtain ⟨Aw, cw, e16, hlw⟩ := own_slice HLA.out.wo
      subst e16
      have HLW : Aside0 (q ≤ cw) := ⟨by rw [← HQ.out]; exact hlw⟩
      rw [HQ.out] at HLA ⊢
      clear hlw hlt hi
      go_upto_block 2 with (first | (go_at_call 33; (with_reducible refine (parity_matrix.calls 80000 _ _ _ _ F3.out).mono ?_); rintro e w5 ⟨v5, rfl, ho, hb⟩; obtain ⟨Am, cm, rfl, _, _⟩ := Kd.S_reads ho; have HSM := Aside0.mk ho; have HB5 := Aside0.mk hb; clear ho hb))
      have hkw := HLA.out.kept.below HB5.out
      have PG5 := Aside0.mk (Kd.C_kept_step PG.out hkw)
      have P25 := Aside0.mk (Kd.C_kept_step P2.out hkw)
      have PW5 := Aside0.mk (HLA.out.readsWo HGB.out.2 HB5.out)
      have PM5 : Aside0 (∀ W, Kept w5 W (fun k => k = b) → Kd.C (Kd.slice 5 (Kd.int .u8)) W Am (matL p n).length (matL p n)) := ⟨Kd.C_kept_own (Kd.R_bound (Kd.S_R HSM.out)) (fun k hk e => by have h1 := hk.2.1; have h2 := HLA.out.cu.lt_b; omega)⟩
      have hml : (matL p n).length = p := by unfold matL cau; split <;> simp
      rw [hml] at PM5 ⊢
      have HCO := Aside0.mk (HLA.out.cu.below HB5.out)
      have HL0 : Aside0 (LoB w w5 w5 [] [] (.slice none 0 0) none 0 (partL g n 0) (vL g n OUT more 0)) := ⟨⟨below_step HLA.out.below HB5.out, Kept.refl _ _, ⟨rfl, .inl ⟨rfl, rfl⟩⟩, ⟨rfl, .inl ⟨rfl, rfl⟩⟩, (fun k hk => by simp [Value.ownBlock] at hk), RdH.nil _ _, RdH.nil _ _⟩⟩
      have HLE5 : Aside0 (w.heap.size ≤ w5.heap.size) := ⟨below_size HL0.out.below⟩
      have HMK := Aside0.mk (fun W => make_cap q (by rw [← HQ.out]; have := woL_length_le g n; have := HG.out.n200; omega) W)
      clear hml hkw PG P2 P0 HLA HB5 HSM F3 F4 HR0 HC0
      go_cut [19, 20, 21, 22, 23, 24] from 76 to 142 (fun v19 v20 v21 v22 v23 v24 wx => ∃ (i : Nat) (hsP hsV : List Hdr) (Av : Option Addr) (cv : Nat), i ≤ p ∧ v20 = .slice Av hsV.length cv ∧ hsV.length = q ∧ Aside0 (LoB w w5 wx hsP hsV v19 Av cv (partL g n i) (vL g n OUT more i)))
      case first =>
        --{ B
        go_wp2_with (fail)
        go_loopw [19, 20, 21] (fun v19 v20 v21 wr => ∃ (i : Nat) (hsP hsV : List Hdr) (Av : Option Addr) (cv : Nat), i ≤ p ∧ v21 = .int .i64 (i : Int) ∧ v20 = .slice Av hsV.length cv ∧ hsV.length ≤ q ∧ Aside0 (LoB w w5 wr hsP hsV v19 Av cv (partL g n i) (vL g n OUT more i))) (fun _ _ v21 _ => p - (intOf v21).toNat)
        case atStart => exact ⟨0, [], [], none, 0, Nat.zero_le _, rfl, rfl, Nat.zero_le _, HL0⟩
        case round =>
          clear HL0
          obtain ⟨i, hsP, hsV, Av, cv, hi, rfl, rfl, hq, HLB⟩ := hrel
          by_cases hip : i < p
          · have hd1 : decide ((i : Int) < (p : Int)) = true := decide_eq_true (by omega)
            have hd1' : decide (i < p) = true := decide_eq_true hip
            by_cases hvq : hsV.length < q
            · have hd2 : decide ((hsV.length : Int) < (q : Int)) = true := decide_eq_true (by omega)
              have hd2' : decide (hsV.length < q) = true := decide_eq_true hvq
              have HIP := Aside0.mk hip
              have HVQ := Aside0.mk hvq
              have HW1 := Aside0.mk (wr1 (i := i) hip (by have := HG.out.p16; omega))
              have hw2 : wrap64 ((n : Int) + (i : Int)) = ((n + i : Nat) : Int) := wrs (by have := HG.out.p16; have := HG.out.n200; omega)
              obtain ⟨adg, eg, hxg⟩ := at_boolC (PG5.out _ (HLB.out.kept.mono (fun k hk => hk.elim))) (i := n + i) (by omega)
              cases eg
              have hlg : ((n + i : Nat) : Int) < ((n + p : Nat) : Int) := by omega
              cases hgi : g.getD (n + i) false
              · -- it is there
                rw [hgi] at hxg
                have HGI := Aside0.mk hgi
                have hmk := HMK.out
                obtain ⟨ad4, A4, c4, e4, hx4, hl4, hC4⟩ := at_L2 (P25.out _ (HLB.out.kept.mono (fun k hk => hk.elim))) (i : Int) (by omega) (by omega)
                cases e4
                rw [rdL_nat] at hx4 hl4 hC4
                rw [Int.toNat_natCast] at hx4
                have hzl := HG.out.moreFit i hip hgi
                have hzi : ∀ y ∈ more.getD i [], In8 y := HG.out.min _ (getD_mem (by rw [HG.out.pn]; exact hip))
                have HU1 : Aside0 (partL g n (i + 1) = partL g n i ++ [lineP g i n] ∧ vL g n OUT more (i + 1) = vL g n OUT more i ++ [leftP g OUT i (more.getD i []) n]) := ⟨by unfold partL vL; rw [usedL_succ, if_neg (by rw [hgi]; decide)]; rw [List.map_append, List.map_append]; exact ⟨rfl, rfl⟩⟩
                generalize more.getD i [] = z at hx4 hl4 hC4 hzl hzi HU1
                have HZL := Aside0.mk hzl
                have HZI := Aside0.mk hzi
                have HC4 := Aside0.mk hC4
                have HZZ : Aside0 (z.length ≤ 16777216) := ⟨by rw [hzl, HG.out.wid]; exact wideN_le (fun x hx => by obtain ⟨t, ht, rfl⟩ := List.getElem_of_mem hx; have := HG.out.small t (by rw [← HG.out.ln]; exact ht); rw [List.getD_eq_getElem?_getD, List.getElem?_eq_getElem ht] at this; exact this)⟩
                have hx5 : (wr.alloc (Obj.cells (madeCells #[Value.int IntKind.u8 0] q) 5)).cell? (ad4.add i) = some (.slice A4 z.length c4) := ((below_alloc (Below.refl wr.heap.size wr) _).cell (World.block_lt_of_cell? wr _ hx4)).trans hx4
                clear hgi hip hvq hi hq hl4 hC4 hzl hzi hx4
                go_wp2_with (first | (refine print_append_row (w0 := (wr.alloc (Obj.cells (madeCells #[Value.int IntKind.u8 0] q) 5))) (wr.heap.size + 1) rfl (.const (.slice none 0 0)) (.tmp 100) 41 5 .u8 1 rfl Try.underlying41 info5' (by decide) (.slice none 0 0) [] z A4 z.length c4 rfl rfl ?a1 ?a2 (Below.refl _ _) ?a3 ?a4 ?_; (case a1 => exact ⟨rfl, .inl ⟨rfl, rfl⟩⟩); (case a2 => exact readsInt_of.2 (Kd.reads_of_C (Kd.C_alloc HC4.out _))); (case a3 => rw [size_alloc']; exact Nat.le_refl _); (case a4 => have := HZZ.out; rw [List.length_nil]; omega); rw [List.nil_append]; intro v6 w6 hown hb6 _ _; obtain ⟨Al, cl, kl, rfl, hcl, hlc⟩ := LoC.start HLB.out.below (by rw [← HQ.out]; have := woL_length_le g n; have := HG.out.n200; omega) hown hb6; have HLC := Aside0.mk hlc; have HCL := Aside0.mk hcl; clear hown hb6 hlc hcl))
                have HLE6 : Aside0 (w5.heap.size ≤ wr.heap.size) := ⟨HLB.out.kept.1⟩
                clear hx5 hmk hxg hlg hw2 hd1 hd1' hd2 hd2'
                go_loopw [22, 104] (fun v22 v104 w' => ∃ j : Nat, j ≤ n ∧ v104 = .int .i64 (j : Int) ∧ Aside0 (LoC w wr w' v22 (lineP g i j) kl Al (leftP g OUT i z j))) (fun _ v104 _ => n - (intOf v104).toNat)
                case atStart => exact ⟨0, Nat.zero_le _, rfl, ⟨by exact HLC.out⟩⟩
                case round =>
                  clear HLC
                  obtain ⟨j, hj, rfl, HLC⟩ := hrel
                  by_cases hjn : j < n
                  · have HJN := Aside0.mk hjn
                    have hlj : (j : Int) < (n : Int) := by omega
                    have hli : (i : Int) < (p : Int) := by have := HIP.out; omega
                    have hljg : (j : Int) < ((n + p : Nat) : Int) := by omega
                    have HW2 := Aside0.mk (wr1 (i := j) hjn (by have := HG.out.n200; omega))
                    rename World => w7
                    have hk7 := HLB.out.kept.then_ HLC.out.kept (fun k hk => .inl hk)
                    have hk7b := hk7.mono (S' := fun k => k = b) (fun k hk => hk.elim)
                    obtain ⟨adh, eh, hxj⟩ := at_boolC (PG5.out _ hk7b) (i := j) (by omega)
                    cases eh
                    -- the element
                    have hmat : matL p n = cau p n := by unfold matL; rw [if_neg (by have := HIP.out; omega)]
                    have hCm := PM5.out _ hk7b
                    rw [hmat] at hCm
                    obtain ⟨am, A9, c9, e9, hx9, hl9, hC9⟩ := at_L2 hCm (i : Int) (by omega) (by have := HIP.out; omega)
                    cases e9
                    rw [rowZ (cau_row HIP.out), Int.toNat_natCast] at hx9
                    rw [rowZ (cau_row HIP.out)] at hC9
                    rw [List.length_map, List.length_range] at hx9 hC9
                    obtain ⟨ae, e10, hx10⟩ := Kd.at_int hC9 (j : Int) (by omega) (by omega)
                    cases e10
                    rw [elZ (y := cE i j) (by rw [List.getElem?_map, List.getElem?_range hjn]; rfl), Int.toNat_natCast] at hx10
                    cases hgj : g.getD j false
                    · rw [hgj] at hxj
                      have HLN : Aside0 (lineP g i (j + 1) = lineP g i j ∧ leftP g OUT i z (j + 1) = addAt (cE i j) (OUT.getD j []) 0 (leftP g OUT i z j)) := ⟨by rw [lineP_succ, if_neg (by rw [hgj]; decide), leftP, if_neg (by rw [hgj]; decide)]; exact ⟨rfl, rfl⟩⟩
                      have hcu7 := HCO.out.kept hk7 (fun h => h) (fun h => h)
                      obtain ⟨hol1, hol2, hol3⟩ := out_len HG.out (j := j) hjn
                      rw [HOUT.out] at hol1 hol3
                      have hoj : OUT[j]? = some (OUT.getD j []) := getD_get (by rw [← HOUT.out, outA_length, HG.out.ln]; exact hjn)
                      obtain ⟨oo, hho, _, hoo⟩ := hcu7.head hoj
                      have hgb5 : gh < w5.heap.size ∧ b < w5.heap.size := ⟨HCO.out.lt_g, HCO.out.lt_b⟩
                      have HROW : Aside0 (∀ W', Kept w7 W' (fun k => k = kl) → Kd.C (Kd.int .u8) W' (some ⟨b, oo, none⟩) (OUT.getD j []).length (OUT.getD j [])) := ⟨fun W' hW' => (hcu7.kept hW' (by have := HLC.out.klo; have := HLE6.out; omega) (by have := HLC.out.klo; have := HLE6.out; omega)).rowC hoj hoo⟩
                      generalize OUT.getD j [] = l at hol1 hol3 hho HROW HLN
                      have HL1 := Aside0.mk hol1
                      have HL2 := Aside0.mk hol2
                      have HL3 := Aside0.mk hol3
                      have hll : (leftP g OUT i z j).length = z.length := leftP_length _ _ _ _ _
                      have HLL := Aside0.mk hll
                      have HLI : Aside0 (∀ y ∈ leftP g OUT i z j, In8 y) := ⟨leftP_in _ _ _ _ HZI.out _ (by have := HG.out.n200; omega)⟩
                      clear hgj hjn hj hk7 hk7b hmat hCm hl9 hC9 hcu7 hol1 hol2 hol3 hoj hoo hgb5 hll
                      go_wp2_with (fail)
                      go_still_tail 12, (by kernel_rfl)
                      change wpList _ _ _ _ _ w7.drew
                      have HLC2 := Aside0.mk HLC.out.drew
                      have HROW2 : Aside0 (∀ W', Kept w7.drew W' (fun k => k = kl) → Kd.C (Kd.int .u8) W' (some ⟨b, oo, none⟩) l.length l) := ⟨fun W' hW' => HROW.out W' hW'⟩
                      clear HLC HROW hho hx9 hx10 hxj
                      generalize w7.drew = w8 at HLC2 HROW2 ⊢
                      rw [← HLL.out]
                      go_wp2_with (first | (go_at_call 34; (with_reducible refine (HLC2.out.addCall (cl := cl) ?s1 ?s2 HLI.out ?s3 HROW2.out HL3.out ?s4).mono ?_); (case s1 => exact Nat.le_trans HLE5.out HLE6.out); (case s2 => rw [HL1.out, HLL.out, HZL.out]; exact HL2.out); (case s3 => rw [HLL.out]; have := HZZ.out; omega); (case s4 => exact cE_in (by have := HJN.out; have := HG.out.n200; omega)); rintro e w9 ⟨rfl, hlc⟩; rw [← HLN.out.2] at hlc; have HLC9 := Aside0.mk hlc; clear hlc))
                      rw [HLL.out]
                      go_roundw
                      case rel => exact ⟨j + 1, HJN.out, by rw [HW2.out], ⟨by rw [HLN.out.1]; exact HLC9.out⟩⟩
                      case measure => exact meas HW2.out HJN.out
                    · rw [hgj] at hxj
                      have HLN : Aside0 (lineP g i (j + 1) = lineP g i j ++ [cE i j] ∧ leftP g OUT i z (j + 1) = leftP g OUT i z j) := ⟨by rw [lineP_succ, if_pos hgj, leftP, if_pos hgj]; exact ⟨rfl, rfl⟩⟩
                      have HCW : Aside0 ((lineP g i j).length ≤ 200) := ⟨by unfold lineP; rw [List.length_map]; have := woL_length_le g j; have := HG.out.n200; omega⟩
                      clear hgj hjn hj hk7 hk7b hmat hCm hl9 hC9
                      go_wp2_with (first | (refine print_append_num (w0 := w7) wr.heap.size rfl (.tmp 111) (.tmp 119) 41 5 .u8 1 rfl Try.underlying41 info5' (by decide) u22 (lineP g i j) (cE i j) rfl rfl HLC.out.line (Below.refl _ _) HLC.out.kept.1 (by have := HCW.out; omega) ?_; intro v9 w9 hown hb9 hg9 hat9; have HLC9 := Aside0.mk (HLC.out.appended (Nat.le_trans HLE5.out HLE6.out) hown hb9 hg9 hat9); clear hown hb9 hg9 hat9))
                      go_roundw
                      case rel => exact ⟨j + 1, HJN.out, by rw [HW2.out], ⟨by rw [HLN.out.1, HLN.out.2]; exact HLC9.out⟩⟩
                      case measure => exact meas HW2.out HJN.out
                  · obtain rfl : n = j := by omega
                    rename World => w7
                    have HLB7 := Aside0.mk (HLB.out.move HLC.out.below HLC.out.kept)
                    obtain ⟨Aln, cln, e22, hcln⟩ := own_slice HLC.out.line
                    subst e22
                    have HLL : Aside0 ((leftP g OUT i z n).length = z.length) := ⟨leftP_length _ _ _ _ _⟩
                    have HCW : Aside0 ((lineP g i n).length ≤ 200) := ⟨by unfold lineP; rw [List.length_map]; have := woL_length_le g n; have := HG.out.n200; omega⟩
                    have hf1 := HLC.out.lineFact HLE6.out hcln (by have := HCW.out; omega)
                    have hf2 := HLC.out.leftFact (cl := cl) HLE6.out HLL.out HCL.out (by have := HZZ.out; omega)
                    have HF1 := Aside0.mk hf1
                    have HF2 := Aside0.mk hf2
                    have HPL : Aside0 (hsP.length ≤ 200) := ⟨by have := HLB.out.rp.len; rw [this]; unfold partL; rw [List.length_map]; have := usedL_length_le g n i; have := HIP.out; have := HG.out.p16; omega⟩
                    have HVL : Aside0 (hsV.length ≤ 200) := ⟨by have := HLB.out.rv.len; rw [this]; unfold vL; rw [List.length_map]; have := usedL_length_le g n i; have := HIP.out; have := HG.out.p16; omega⟩
                    clear hf1 hf2 hjn hj hcln
                    go_wp2_with (first
                      | (refine print_append_of (w0 := w7) hdV w5.heap.size rfl (.tmp 135) (.tmp 137) 35 41 (.slice none 0 0) 24 rfl Try.underlying35 info41' rfl (by decide) u19 hsP (Aln, (lineP g i n).length, cln) rfl rfl rfl HLB7.out.p (Below.refl _ _) HLB7.out.kept.1 (by have := HPL.out; omega) ?_; intro v10 w10 hown hb10 hg10 hat10; have HF3 := Aside0.mk (HF2.out.grown hg10 (fun k cells hc => LoB.ne_of HLB7.out.p hc)); have HLB10 := Aside0.mk (HLB7.out.appP HLE5.out hown hb10 hg10 hat10 HF1.out); clear hown hb10 hg10 hat10)
                      | (refine print_append_of (w0 := w10) hdV w5.heap.size rfl (.tmp 139) (.tmp 141) 35 41 (.slice none 0 0) 24 rfl Try.underlying35 info41' rfl (by decide) (.slice Av hsV.length cv) hsV (Al, z.length, cl) rfl rfl rfl HLB10.out.v (Below.refl _ _) HLB10.out.kept.1 (by have := HVL.out; omega) ?_; intro v11 w11 hown hb11 hg11 hat11; obtain ⟨Av', cv', rfl, hlb11⟩ := HLB10.out.appV HLE5.out hown hb11 hg11 hat11 HF3.out; have HLB11 := Aside0.mk hlb11; clear hown hb11 hg11 hat11 hlb11))
                    have HUU := Aside0.mk HU1.out
                    go_roundw
                    case rel => exact ⟨i + 1, hsP ++ [(Aln, (lineP g i n).length, cln)], hsV ++ [(Al, z.length, cl)], Av', cv', HIP.out, by rw [HW1.out], by rw [List.length_append]; rfl, by rw [List.length_append]; have := HVQ.out; simp; omega, ⟨by rw [HU1.out.1, HU1.out.2]; exact HLB11.out⟩⟩
                    case measure => exact meas HW1.out HIP.out
              · rw [hgi] at hxg
                have HU1 : Aside0 (partL g n (i + 1) = partL g n i ∧ vL g n OUT more (i + 1) = vL g n OUT more i) := ⟨by unfold partL vL; rw [usedL_succ, if_pos hgi]; exact ⟨rfl, rfl⟩⟩
                have HQ2 := Aside0.mk hq
                clear hgi hip hvq hi hq
                go_wp2
                go_roundw
                case rel => exact ⟨i + 1, hsP, hsV, Av, cv, HIP.out, by rw [HW1.out], rfl, HQ2.out, ⟨by rw [HU1.out.1, HU1.out.2]; exact HLB.out⟩⟩
                case measure => exact meas HW1.out HIP.out
            · obtain hvq2 : hsV.length = q := by omega
              have hd2 : decide ((hsV.length : Int) < (q : Int)) = false := decide_eq_false (by omega)
              have hd2' : decide (hsV.length < q) = false := decide_eq_false hvq
              have HE := Aside0.mk hvq2
              have HI := Aside0.mk hi
              clear hvq hvq2 hq hip hi
              go_wp2
              go_meet
              exact ⟨i, hsP, hsV, Av, cv, HI.out, rfl, HE.out, HLB⟩
          · obtain rfl : i = p := by omega
            have hd1 : decide ((i : Int) < (i : Int)) = false := decide_eq_false (by omega)
            have hd1' : decide (i < i) = false := decide_eq_false (by omega)
            have HE : Aside0 (hsV.length = q) := ⟨by
              have h1 := HLB.out.rv.len
              unfold vL at h1
              rw [List.length_map] at h1
              have h2 := HCNT.out
              omega⟩
            clear hq hip hi
            go_wp2
            go_meet
            exact ⟨i, hsP, hsV, Av, cv, Nat.le_refl _, rfl, HE.out, HLB⟩
        --}
      case rest =>
        obtain ⟨i, hsP, hsV, Av, cv, hi, rfl, hq, HLB⟩ := hcut
        have HI := Aside0.mk hi
        have HVQ := Aside0.mk hq
        have HUL : Aside0 ((usedL g n i).length = q) := ⟨by have h1 := HLB.out.rv.len; unfold vL at h1; rw [List.length_map] at h1; omega⟩
        have HPL : Aside0 (hsP.length = q) := ⟨by have h1 := HLB.out.rp.len; unfold partL at h1; rw [List.length_map] at h1; rw [h1]; exact HUL.out⟩
        have HLD : Aside0 (LoD w w5 wc gh b (outB (woL g n) X ls OUT 0)) := ⟨⟨HLB.out.below, HLB.out.kept.mono (fun k hk => hk.elim), HCO.out.kept HLB.out.kept (fun h => h) (fun h => h)⟩⟩
        clear hi hq
        go_upto_if 145 with (fail)
        go_cut [19, 20, 25, 26, 27, 28] from 143 to 168 (fun v19 v20 v25 v26 v27 v28 wx => Aside0 (LoD w w5 wx gh b (outB (woL g n) X ls OUT q)))
        case first =>
          --{ C
          by_cases hq0 : q = 0
          · have hd : decide (0 < (q : Int)) = false := decide_eq_false (by omega)
            have hd' : decide (0 < q) = false := decide_eq_false (by omega)
            have HQ0 := Aside0.mk hq0
            clear hq0
            rw [hd']
            go_wp2
            go_meet
            exact ⟨by rw [HQ0.out]; exact HLD.out⟩
          · have hd : decide (0 < (q : Int)) = true := decide_eq_true (by omega)
            have hd' : decide (0 < q) = true := decide_eq_true (by omega)
            obtain ⟨hshX, hsol⟩ := HX.out (by omega)
            obtain ⟨hcols, hsP, hsV⟩ := hsol i HI.out HUL.out
            obtain ⟨Ap, cp, e1, hcp, hCp⟩ := HLB.out.rp.toC HLB.out.p
            obtain ⟨Av', cv', e2, hcv, hCv⟩ := HLB.out.rv.toC HLB.out.v
            rw [hsP.len] at e1 hcp hCp
            rw [hsV.len] at e2 hcv hCv
            have hS := solve_pos q W (partL g n i) (vL g n OUT more i) Ap Av' cp cv' wc (by rw [hsP.len]; exact hCp) (by rw [hsP.len]; exact hcp) (by rw [hsV.len]; exact hCv) (by rw [hsV.len]; exact hcv) (by omega) (by have h1 := woL_length_le g n; have h2 := HG.out.n200; have h3 := HQ.out; omega) (by rw [HG.out.wid]; exact Nat.le_trans (wideN_le (B := 16777216) (fun x hx => by obtain ⟨t, ht, rfl⟩ := List.getElem_of_mem hx; have := HG.out.small t (by rw [← HG.out.ln]; exact ht); rw [List.getD_eq_getElem?_getD, List.getElem?_eq_getElem ht] at this; exact this)) (by decide)) hsP hsV (some X) hcols
            rw [hsP.len, hsV.len] at hS
            rw [e1, e2]
            have HS := Aside0.mk hS
            have HSX := Aside0.mk hshX
            have HQ0 := Aside0.mk hq0
            rw [hd']
            clear e1 hcp hCp e2 hcv hCv hS hcols hsP hsV hsol hshX hq0
            go_wp2_with (first | (go_at_call 35; (with_reducible refine (HS.out).mono ?_); rintro e w6 ⟨⟨v6, rfl, hs6⟩, hb6⟩; obtain ⟨Ax, cx, rfl, _, _⟩ := Kd.S_reads hs6; have HS6 := Aside0.mk hs6; have HB6 := Aside0.mk hb6; clear hs6 hb6))
            have HLD6 : Aside0 (LoD w w6 w6 gh b (outB (woL g n) X ls OUT 0)) := ⟨⟨below_step HLD.out.below HB6.out, Kept.refl _ _, HLD.out.cu.below HB6.out⟩⟩
            have HK6 : Aside0 (Kept w5 w6 (fun k => k = b)) := ⟨HLD.out.kept.below HB6.out⟩
            have PX : Aside0 (∀ W', Kept w6 W' (fun k => k = b) → Kd.C (Kd.slice 5 (Kd.int .u8)) W' Ax X.length X) := ⟨Kd.C_kept_own (Kd.R_bound (Kd.S_R HS6.out)) (fun k hk e => by have h1 := hk.2.1; have h2 := HLD.out.cu.lt_b; omega)⟩
            have hXl := HSX.out.len
            rw [hXl] at PX ⊢
            clear hXl hd hd' HS HLD HS6 HB6
            go_loopw [154] (fun v154 w' => ∃ k : Nat, k ≤ q ∧ v154 = .int .i64 (k : Int) ∧ Aside0 (LoD w w6 w' gh b (outB (woL g n) X ls OUT k))) (fun v154 _ => q - (intOf v154).toNat)
            case atStart => exact ⟨0, Nat.zero_le _, rfl, ⟨by exact HLD6.out⟩⟩
            case round =>
              clear HLD6
              rename World => w7
              obtain ⟨k, hk, rfl, HLD⟩ := hrel
              by_cases hkq : k < q
              · have HKQ := Aside0.mk hkq
                have hlk : (k : Int) < (q : Int) := by omega
                have HW3 := Aside0.mk (wr1 (i := k) hkq (by have h1 := woL_length_le g n; have h2 := HG.out.n200; have h3 := HQ.out; omega))
                have hk57 := HK6.out.then_ HLD.out.kept (fun k hk => .inl hk)
                obtain ⟨aw, ew, hxw⟩ := Kd.at_int (PW5.out _ hk57) (k : Int) (by omega) (by omega)
                cases ew
                rw [up_rd (woL g n) (i := k) (by rw [HQ.out]; exact hkq), Int.toNat_natCast] at hxw
                have hwm : (woL g n)[k]'(by rw [HQ.out]; exact hkq) ∈ woL g n := List.getElem_mem _
                have hwe : (woL g n)[k]'(by rw [HQ.out]; exact hkq) = (woL g n).getD k 0 := by rw [List.getD_eq_getElem?_getD, List.getElem?_eq_getElem (by rw [HQ.out]; exact hkq)]; rfl
                rw [hwe] at hxw hwm
                have hwn := (mem_woL.1 hwm).1
                obtain ⟨_, hrow⟩ := outB_row HG.out HQ.out HSX.out k (by omega)
                rw [HOUT.out] at hrow
                obtain ⟨r, hr1, hr2, hr3⟩ := hrow _ hwn
                have hst : outB (woL g n) X ls OUT (k + 1) = (outB (woL g n) X ls OUT k).set ((woL g n).getD k 0) ((X.getD k []).take r.length) := by rw [outB, hr2]
                obtain ⟨oo, hho, _, hoo⟩ := HLD.out.cu.head hr1
                obtain ⟨ax, A8, c8, e8, hx8, hl8, hC8⟩ := at_L2 (PX.out _ HLD.out.kept) (k : Int) (by omega) (by omega)
                cases e8
                rw [rdL_nat] at hx8 hl8 hC8
                rw [Int.toNat_natCast] at hx8
                have hxk : (X.getD k []).length = W := HSX.out.row _ (getD_mem (by rw [HSX.out.len]; exact hkq))
                have hrW : r.length ≤ (X.getD k []).length := by rw [hxk, hr2]; exact (out_len HG.out hwn).2.1
                have hti : (((woL g n).getD k 0 : Nat) : Int) < (n : Int) := by omega
                generalize (woL g n).getD k 0 = t at hxw hr1 hst hho hoo hti
                generalize X.getD k [] = xk at hst hx8 hC8 hrW
                have HST := Aside0.mk hst
                have HR1 := Aside0.mk hr1
                have HOO := Aside0.mk hoo
                have HRW := Aside0.mk hrW
                have HLD2 := Aside0.mk HLD.out.drew
                have HC8 : Aside0 (Kd.C (Kd.int .u8) w7.drew A8 xk.length xk) := ⟨Kd.C_drew hC8⟩
                clear hst hr1 hoo hrW hkq hk hk57 hwm hwe hwn hrow hr2 hr3 hl8 hC8 hxk HLD
                go_wp2_with (fail)
                go_still_tail 8, (by kernel_rfl)
                change wpList _ _ _ _ _ w7.drew
                clear hxw hho hx8
                generalize w7.drew = w8 at HLD2 HC8 ⊢
                go_wp2_with (first | (refine wpList_copy_Cu rfl (.tmp 162) (.tmp 166) rfl (i := t) (off := oo) (dc := r.length) (r := r) (ys := xk) (A := A8) (sc := c8) HLD2.out.cu HR1.out HOO.out rfl rfl HC8.out HRW.out w.heap.size w HLD2.out.below (Nat.le_refl _) ?_; intro w9 hc9 hb9 hk9; rw [← HST.out] at hc9; have HLD9 : Aside0 (LoD w w6 w9 gh b (outB (woL g n) X ls OUT (k + 1))) := ⟨⟨hb9, HLD2.out.kept.then_ hk9 (fun k hk => .inl hk), hc9⟩⟩; clear hc9 hb9 hk9))
                go_roundw
                case rel => exact ⟨k + 1, HKQ.out, by rw [HW3.out], ⟨by exact HLD9.out⟩⟩
                case measure => exact meas HW3.out HKQ.out
              · have hkq2 : k = q := by omega
                have HF : Aside0 (LoD w w5 w7 gh b (outB (woL g n) X ls OUT q)) := ⟨⟨HLD.out.below, HK6.out.then_ HLD.out.kept (fun k hk => .inl hk), by rw [← hkq2]; exact HLD.out.cu⟩⟩
                have hlk : decide ((k : Int) < (q : Int)) = false := decide_eq_false (by omega)
                have hlk' : decide (k < q) = false := decide_eq_false (by omega)
                clear hkq hkq2 hk
                go_wp2
                go_meet
                exact HF
          --}
        case rest =>
          have HLDF := Aside0.mk hcut.out
          clear hcut HLD
          have HFR : Aside0 ((outB (woL g n) X ls OUT q).length = n ∧ ∀ t, t < n → ∃ r, (outB (woL g n) X ls OUT q)[t]? = some r ∧ r.length = ls.getD t 0 ∧ ∀ y ∈ r, In8 y) := ⟨by
            by_cases hq0 : 0 < q
            · have := outB_row HG.out HQ.out (HX.out hq0).1 q (Nat.le_refl _)
              rw [HOUT.out] at this; exact this
            · have e : q = 0 := by omega
              have := outB_row (q := 0) HG.out (by rw [HQ.out, e]) (X := []) ⟨rfl, (fun _ h => nomatch h), (fun _ h => nomatch h)⟩ 0 (Nat.le_refl _)
              rw [HOUT.out] at this
              rw [e]; exact this⟩
          obtain ⟨OF, hOF⟩ : ∃ OF, OF = outB (woL g n) X ls OUT q := ⟨_, rfl⟩
          rw [← hOF] at HLDF HFR
          have HOF := Aside0.mk hOF
          clear hOF
          have hmem : ∀ r ∈ OF, (∀ y ∈ r, In8 y) ∧ r.length ≤ 16777216 := fun r hr => by
            obtain ⟨t, ht, rfl⟩ := List.getElem_of_mem hr
            obtain ⟨r, e1, e2, e3⟩ := HFR.out.2 t (by rw [← HFR.out.1]; exact ht)
            rw [List.getElem?_eq_getElem ht] at e1
            obtain rfl := Option.some.inj e1
            exact ⟨e3, by rw [e2]; exact HG.out.small t (by rw [← HFR.out.1]; exact ht)⟩
          have HWF : Aside0 (widthL OF = W) := ⟨by
            unfold widthL
            rw [HG.out.wid]
            congr 1
            apply List.ext_getElem?
            intro t
            by_cases ht : t < n
            · obtain ⟨r, e1, e2, _⟩ := HFR.out.2 t ht
              rw [List.getElem?_map, e1, getD_get (d := 0) (by rw [HG.out.ln]; exact ht), ← e2]; rfl
            · rw [List.getElem?_eq_none (by rw [List.length_map, HFR.out.1]; omega), List.getElem?_eq_none (by rw [HG.out.ln]; omega)]⟩
          have hM := made_calls (some ⟨gh, 0, none⟩) n OF p wc HLDF.out.cu.reads (by rw [HFR.out.1]; exact Nat.le_refl _) (by rw [HFR.out.1]; exact HG.out.n200) HG.out.p16 (fun r hr => (hmem r hr).1) (fun r hr => (hmem r hr).2)
          rw [HFR.out.1] at hM
          have HM := Aside0.mk hM
          clear hM hmem
          go_wp2_with (first | (go_at_call 29; (with_reducible refine (HM.out).mono ?_); rintro e w8 ⟨g2, b2, rfl, hcu, hb⟩; have HCU2 := Aside0.mk hcu; have HB8 := Aside0.mk hb; clear hcu hb))
          have hbb2 : b < b2 ∧ gh < b2 ∧ b < g2 ∧ gh < g2 := by have h1 := HLDF.out.cu.lt_b; have h2 := HLDF.out.cu.lt_g; have h3 := HCU2.out.hb; have h4 := HCU2.out.hg; omega
          have HBB := Aside0.mk hbb2
          have HK58 : Aside0 (Kept w5 w8 (fun k => k = b)) := ⟨HLDF.out.kept.below HB8.out⟩
          have HML : Aside0 ((madeL OF p).length = p) := ⟨by simp [madeL]⟩
          have HL8 : Aside0 (LoD w w8 w8 g2 b2 (restB g n more (madeL OF p) 0)) := ⟨⟨below_step HLDF.out.below HB8.out, Kept.refl _ _, by rw [restB_zero]; exact HCU2.out.base_down (below_size HLDF.out.below)⟩⟩
          have HCB : Aside0 (w5.heap.size ≤ b2) := ⟨by have h1 := HLDF.out.kept.1; have h2 := HCU2.out.hb; omega⟩
          have HCF := Aside0.mk (HLDF.out.cu.below HB8.out)
          have HROW : Aside0 (∀ t, t < p → ∃ r, (madeL OF p)[t]? = some r ∧ r.length = W) := ⟨fun t ht => ⟨_, by unfold madeL; rw [List.getElem?_map, List.getElem?_range ht]; rfl, by unfold moreRow; rw [part_length, HWF.out]; exact List.length_replicate⟩⟩
          clear hbb2 HLDF HM HB8 HCU2 HL0 HLB PM5 PW5 HMK HCO
          go_loopw [174] (fun v174 w' => ∃ i : Nat, i ≤ p ∧ v174 = .int .i64 (i : Int) ∧ Aside0 (LoD w w8 w' g2 b2 (restB g n more (madeL OF p) i))) (fun v174 _ => p - (intOf v174).toNat)
          case atStart => exact ⟨0, Nat.zero_le _, rfl, HL8⟩
          case round =>
            clear HL8
            rename World => w9
            obtain ⟨j, hj, rfl, HLE9⟩ := hrel
            by_cases hjp : j < p
            · have HJP := Aside0.mk hjp
              have hlj : (j : Int) < (p : Int) := by omega
              have hljg : ((n + j : Nat) : Int) < ((n + p : Nat) : Int) := by omega
              have hw2 : wrap64 ((n : Int) + (j : Int)) = ((n + j : Nat) : Int) := wrs (by have := HG.out.p16; have := HG.out.n200; omega)
              have HW4 := Aside0.mk (wr1 (i := j) hjp (by have := HG.out.p16; omega))
              have hk59 : Kept w5 w9 (fun k => k = b) := HK58.out.then_ HLE9.out.kept (fun k hk => .inr (by rw [hk]; exact HCB.out))
              obtain ⟨adg, eg, hxg⟩ := at_boolC (PG5.out _ hk59) (i := n + j) (by omega)
              cases eg
              cases hgj : g.getD (n + j) false
              · rw [hgj] at hxg
                obtain ⟨am, A8, c8, e8, hx8, hl8, hC8⟩ := at_L2 (P25.out _ hk59) (j : Int) (by omega) (by omega)
                cases e8
                rw [rdL_nat] at hx8 hl8 hC8
                rw [Int.toNat_natCast] at hx8
                obtain ⟨r, hr1, hr2⟩ := HROW.out j hjp
                have hzl := HG.out.moreFit j hjp hgj
                have hget : (restB g n more (madeL OF p) j)[j]? = some r := by
                  rw [restB_get _ _ _ _ _ (by rw [HML.out]; exact hjp), if_neg (by omega), List.getD_eq_getElem?_getD, hr1]; rfl
                obtain ⟨oo, hho, _, hoo⟩ := HLE9.out.cu.head hget
                have hset := restB_kept g n more (madeL OF p) (i := j) (by rw [HML.out]; exact hjp) hgj
                have hch := cut_h (some ⟨b2, oo, none⟩) W r.length r.length (by omega)
                rw [hr2] at hch hho
                generalize more.getD j [] = z at hx8 hl8 hC8 hzl hset
                have HGET := Aside0.mk hget
                have HSET := Aside0.mk hset
                have HOO := Aside0.mk hoo
                have HR2 := Aside0.mk hr2
                have HZL := Aside0.mk hzl
                have HC8 : Aside0 (Kd.C (Kd.int .u8) w9.drew A8 z.length z) := ⟨Kd.C_drew hC8⟩
                have HLE10 := Aside0.mk HLE9.out.drew
                clear hgj hjp hj hget hset hoo hr1 hr2 hzl hl8 hC8 hk59 HLE9
                go_wp2_with (fail)
                go_still_tail 10, (by kernel_rfl)
                change wpList _ _ _ _ _ w9.drew
                clear hxg hx8 hho
                generalize w9.drew = w10 at HLE10 HC8 ⊢
                go_wp2_with (first | (refine wpList_copy_Cu rfl (.tmp 189) (.tmp 193) rfl (i := j) (off := oo) (dc := W) (r := r) (ys := z) (A := A8) (sc := c8) HLE10.out.cu HGET.out HOO.out (by rw [HR2.out]; rfl) rfl HC8.out (by rw [HR2.out, HZL.out]; exact Nat.le_refl _) w.heap.size w HLE10.out.below (Nat.le_refl _) ?_; intro w11 hc11 hb11 hk11; rw [HR2.out, ← HZL.out, List.take_length, HSET.out] at hc11; have HL11 : Aside0 (LoD w w8 w11 g2 b2 (restB g n more (madeL OF p) (j + 1))) := ⟨⟨hb11, HLE10.out.kept.then_ hk11 (fun k hk => .inl hk), hc11⟩⟩; clear hc11 hb11 hk11))
                go_roundw
                case rel => exact ⟨j + 1, HJP.out, by rw [HW4.out], ⟨by exact HL11.out⟩⟩
                case measure => exact meas HW4.out HJP.out
              · rw [hgj] at hxg
                have HGO := Aside0.mk (restB_gone g n more (madeL OF p) (i := j) hgj)
                clear hgj hjp hj hk59
                go_wp2
                go_roundw
                case rel => exact ⟨j + 1, HJP.out, by rw [HW4.out], ⟨by rw [HGO.out]; exact HLE9.out⟩⟩
                case measure => exact meas HW4.out HJP.out
            · obtain rfl : p = j := by omega
              clear hjp hj
              obtain ⟨hs1, hh1, hd1⟩ := HCF.out.toDt
              obtain ⟨hs2, hh2, hd2⟩ := HLE9.out.cu.toDt
              have hl1 : hs1.length = n := by rw [hd1.len]; exact HFR.out.1
              have hl2 : hs2.length = p := by rw [hd2.len, restB_length]; exact HML.out
              have hn2 := HG.out.n200
              have hp2 := HG.out.p16
              have hbb := HBB.out
              have hh1' := blk_kept hh1 HLE9.out.kept (by intro e; have e2 : gh = b2 := e; omega)
              have hd1' := hd1.move (HLE9.out.kept.2 b (blk_lt hd1.data) (by intro e; have e2 : b = b2 := e; omega))
              have hown := own_heads HCF.out.hg hh1' (by omega)
              have hrd := reads_heads hh2 (by omega)
              rw [hl1] at hown
              rw [hl2] at hrd
              have HOWN := Aside0.mk hown
              have HRD := Aside0.mk hrd
              have HD1 := Aside0.mk hd1'
              have HD2 := Aside0.mk hd2
              have HL1 := Aside0.mk hl1
              have HL2 := Aside0.mk hl2
              have HGL : Aside0 (gh < w9.heap.size ∧ gh ≠ b) := ⟨blk_lt hh1', HCF.out.ne⟩
              clear hh1 hd1 hh2 hd2 hl1 hl2 hn2 hp2 hbb hh1' hd1' hown hrd
              go_wp2_with (first | (refine print_append_row_of (w0 := w) hdV ((none, 0, 0) : Hdr) w.heap.size rfl (.tmp 196) (.tmp 197) 35 41 (.slice none 0 0) 24 rfl Try.underlying35 info41' rfl (by decide) (fun _ => rfl) (.slice (some ⟨gh, 0, none⟩) n n) hs1 hs2 (some ⟨g2, 0, none⟩) p p rfl rfl ?a1 HRD.out HLE9.out.below ?a2 ?a3 ?_; (case a1 => rw [HL1.out]; exact HOWN.out); (case a2 => exact below_size HLE9.out.below); (case a3 => rw [HL1.out]; have := HG.out.n200; have := HG.out.p16; omega); intro v12 w12 hown hb12 hg12 hat12; have HOW := Aside0.mk hown; have HB12 := Aside0.mk hb12; have HG12 := Aside0.mk hg12; have HAT := Aside0.mk hat12; clear hown hb12 hg12 hat12))
              go_ret2
              have hbb := HBB.out
              have hgl := HGL.out
              have nb : ∀ k, k ≠ gh → k < w9.heap.size → w12.heap[k]? = w9.heap[k]? := fun k hk hlt => HG12.out.block k hlt (fun e => hk (Option.some.inj e))
              have hvn : ∀ k, k ≠ gh → k < w9.heap.size → v12.ownBlock ≠ some k := fun k hk hlt e => by
                rcases HAT.out with h | ⟨b, h, hle⟩
                · rw [h] at e; exact hk (Option.some.inj e).symm
                · rw [h] at e; have := Option.some.inj e; omega
              have l1 := blk_lt HD1.out.data
              have l2 := blk_lt HD2.out.data
              rw [← HOF.out]
              exact ⟨v12, hs1, hs2, b, b2, rfl, ⟨HOW.out, HD1.out.move (nb b (fun e => hgl.2 e.symm) l1), HD2.out.move (nb b2 (fun e => by omega) l2), by omega, hvn b (fun e => hgl.2 e.symm) l1, hvn b2 (fun e => by omega) l2⟩, HB12.out⟩
end Go.Proofs.Ytdhajlkiiphlfaa.Par
