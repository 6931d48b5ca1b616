/- A part of a proof: see the text's own remark. No conditions beyond its theorems' own. -/
import Derived.Test.YtdleoljbnjjdgaaBo04
/-! Book.keep and Book.held, walked -/
namespace Go.Proofs.Ytdleoljbnjjdgaa.Bok
open Go.RowKit Go.Proofs.Ytdleoljbnjjdgaa.QCFieldCauchys Go.Proofs.YtdleoljbnjjdgaaW.PrintWords Go.Proofs.YtdleoljbnjjdgaaW.PrintLast Go.Proofs.YtdleoljbnjjdgaaW.PrintMore
set_option linter.unusedVariables false
set_option linter.unusedSimpArgs false
set_option maxHeartbeats 800000 in
set_option maxRecDepth 100000 in
theorem keep_calls (w0 w : World) (gb : Nat) (vl vw : Value) (hl hw : List Hdr) (ml : List (List Int)) (A : Option Addr) (c : Nat) (r : List Int) (h : Bo w0 w gb vl vw hl hw ml) (hr : Row5 w (A, r.length, c) r) (h0 : 0 < r.length) (h1 : r.length ≤ 1000) (h2 : hl.length ≤ 2000) (h3 : hw.length ≤ 2000) :
    Calls Try.prog 37 #[.pointer (some ⟨gb, 0, none⟩), .slice A r.length c] w fun e w' => e = .returned (.tuple #[]) ∧ ∃ vl' vw' hd', Bo w0 w' gb vl' vw' (hl ++ [(A, r.length, c)]) (hw ++ [hd']) (ml ++ [r]) ∧ Mv w w' gb vl vl' vw vw' := by
  have HB := Aside0.mk h
  have HR := Aside0.mk hr
  have H0 := Aside0.mk h0
  have H1 := Aside0.mk h1
  have H2 := Aside0.mk h2
  have H3 := Aside0.mk h3
  have hc0 := h.cell0
  have hf0 := blk_frozen h.box 0
  have hgl := h.gbt
  clear h hr h0 h1 h2 h3
  go_enter Try.func37, Try.ntmps37
  go_wp2_with (first
    | ((with_reducible refine gate_builtin (b := .append) (xs := #[.tmp 8, .tmp 10]) rfl ?_); at_builtin; refine print_append_of (w0 := w0) hdV w0.heap.size rfl (.tmp 8) (.tmp 10) 38 29 (.slice none 0 0) 24 rfl Try.underlying38 info29 rfl (by decide) vl hl (A, r.length, c) ?q1 ?q2 ?q3 HB.out.ol HB.out.below HB.out.base ?q4 ?_; (case q3 => exact rfl); (case q4 => have := H2.out; omega); (case q1 => rfl); (case q2 => rfl); intro y1 w6 hown hb hg hat; obtain ⟨A1, c1, e1⟩ := own_form hown; subst e1; obtain ⟨hbo, hmv⟩ := HB.out.appL hown hb hg hat; have HB6 := Aside0.mk hbo; have HM6 := Aside0.mk hmv; have HR6 := Aside0.mk (HR.out.move (hmv.same5 HB.out)); have hbx : w6.heap[gb]? = some (.cells #[vl, vw] 40 (0, 0)) := (hg.block gb HB.out.gbt (own_ne40 HB.out.ol HB.out.box (by decide))).trans HB.out.box; have hc6 : w6.cell? ⟨gb, 0, none⟩ = some vl := (by rw [blk_cell hbx]; rfl); have hf6 := blk_frozen hbx 0; clear hown hb hg hat hbo hmv hbx))
  have hlen : (hl ++ [(A, r.length, c)]).length = hl.length + 1 := by rw [List.length_append]; rfl
  rw [hlen] at HB6 HM6 HR6
  generalize w6.setCell ⟨gb, 0, none⟩ (.slice A1 (hl.length + 1) c1) = wa at *
  obtain ⟨rk, ro, cells, fz, hA, hcl, hcd⟩ := HR6.out.2.2.2 H0.out
  have hA' : A = some ⟨rk, ro, none⟩ := hA
  subst hA'
  have HNW : Aside0 (∀ (j : Nat) u, (nums .u8 r)[j]? = some u → wa.cell? ((⟨rk, ro, none⟩ : Addr).add j) = some u) := ⟨fun j u hj => by
    unfold nums at hj
    rw [List.getElem?_map] at hj
    obtain ⟨z, hz, rfl⟩ := Option.map_eq_some_iff.1 hj
    rw [add_off, cell_of_row wa rk (ro + j) cells 5 fz hcl]
    exact hcd j z hz⟩
  obtain ⟨i5, hi5, hz50, hz51, hz52⟩ := info_parts info5
  obtain ⟨i29, hi29, hz290, hz291, hz292⟩ := info_parts info29
  have hc1 := HB6.out.cell1
  clear hc0 hf0 hgl hc6 hf6 hA hcl hcd hlen
  --REGION
  refine start_ (n := 13) (S := fun w' => w'.cell? ⟨gb, 1, none⟩ = some vw) (ds := [12]) #[false, false, false, false, false, false, false, false, false, false, false, false, false] (by kernel_rfl) rfl rfl hc1 (fun hHeld => ?_)
  refine pure_ (i := 0) (N := some 14) (v := ?_) (a' := ?_) #[true, false, false, false, false, false, false, false, false, false, false, false, false] rfl rfl (by kernel_rfl) (fun _ _ _ h => h) (Or.inl ⟨by rfl, ?_⟩) ?_ ?_
  rotate_left
  · intro w'
    go_simp
    with_reducible rfl
  rotate_left
  · simp only [Act.put, List.setIfInBounds_toArray, List.set_cons_zero, List.set_cons_succ, i64_w, i32_w]
    rfl
  refine pure_ (i := 1) (N := some 15) (v := ?_) (a' := ?_) #[true, true, false, false, false, false, false, false, false, false, false, false, false] rfl rfl (by kernel_rfl) (fun _ _ _ h => h) (Or.inl ⟨by rfl, ?_⟩) ?_ ?_
  rotate_left
  · intro w'
    go_simp
    with_reducible rfl
  rotate_left
  · simp only [Act.put, List.setIfInBounds_toArray, List.set_cons_zero, List.set_cons_succ, i64_w, i32_w]
    rfl
  refine pure_ (i := 2) (N := some 16) (v := ?_) (a' := ?_) #[true, true, true, false, false, false, false, false, false, false, false, false, false] rfl rfl (by kernel_rfl) (fun _ _ _ h => h) (Or.inl ⟨by rfl, ?_⟩) ?_ ?_
  rotate_left
  · intro w'
    go_simp
    with_reducible rfl
  rotate_left
  · simp only [Act.put, List.setIfInBounds_toArray, List.set_cons_zero, List.set_cons_succ, i64_w, i32_w]
    rfl
  refine pure_ (i := 3) (N := some 17) (v := ?_) (a' := ?_) #[true, true, true, true, false, false, false, false, false, false, false, false, false] rfl rfl (by kernel_rfl) (fun _ _ _ h => h) (Or.inl ⟨by rfl, ?_⟩) ?_ ?_
  rotate_left
  · intro w'
    go_simp
    with_reducible rfl
  rotate_left
  · simp only [Act.put, List.setIfInBounds_toArray, List.set_cons_zero, List.set_cons_succ, i64_w, i32_w]
    rfl
  refine take_ (i := 4) (N := some 18) (v := ?_) (a' := ?_) #[true, true, true, true, true, false, false, false, false, false, false, false, false] rfl rfl (by kernel_rfl) (fun _ _ _ h => h) (Or.inl ⟨by rfl, ?_⟩) hHeld ?_ ?_
  rotate_left
  · intro w' hS
    go_simp
    with_reducible rfl
  rotate_left
  · simp only [Act.put, List.setIfInBounds_toArray, List.set_cons_zero, List.set_cons_succ, i64_w, i32_w]
    rfl
  refine pure_ (i := 6) (N := some 20) (v := ?_) (a' := ?_) #[true, true, true, true, true, false, true, false, false, false, false, false, false] rfl rfl (by kernel_rfl) (fun _ _ _ h => h) (Or.inl ⟨by rfl, ?_⟩) ?_ ?_
  rotate_left
  · intro w'
    go_simp
    with_reducible rfl
  rotate_left
  · simp only [Act.put, List.setIfInBounds_toArray, List.set_cons_zero, List.set_cons_succ, i64_w, i32_w]
    rfl
  refine one_ (i := 5) (N := some 19) #[true, true, true, true, true, true, true, false, false, false, false, false, false] rfl rfl (by kernel_rfl) (by decide) (fun K hK => ?_)
  go_simp
  refine hK.out _ _ (cell_below5 (w := wa) (by repeat (first | (with_reducible first | exact Below.refl _ _ | apply below_alloc | apply pw_below_drewN | apply below_drew1))) hc1) (fun hHeld => ?_)
  clear hK K
  refine one_ (i := 7) (N := some 21) #[true, true, true, true, true, true, true, true, false, false, false, false, false] rfl rfl (by kernel_rfl) (by decide) (fun K hK => ?_)
  refine step_append_lies _ (by rfl) (.tmp 19) (.tmp 20) 29 rfl wa.heap.size 5 i5 _ 1 1 Try.underlying29 hi5 hz50 hz51 hz52 rfl (by omega) (.slice (some ⟨wa.heap.size, 0, none⟩) 0 0) 0 (nums .u8 []) rfl (own_lit wa.drew wa.heap.size 5 .u8 [] (Nat.le_refl _) (by decide)) ⟨rk, ro, none⟩ r.length c (nums .u8 r) rfl (by rw [nums_length, Nat.mul_one]) (fun j u hj => cell_below5 (w := wa) (below_alloc (below_drew1 (Below.refl _ _)) _) (HNW.out j u hj)) ?_ H0.out ?_ ?_ ?_ _ rfl ?_
  · intro u hu; unfold nums at hu; obtain ⟨z, _, rfl⟩ := List.mem_map.1 hu; rfl
  · have := H1.out; unfold maxLen; omega
  · have := H1.out; omega
  · exact (below_alloc (below_drew1 (Below.refl wa.heap.size wa)) _).size
  intro g7 cap7 w7 hown7 hgrow7 hat7 hlt7
  rw [Nat.zero_add, show nums .u8 [] ++ nums .u8 r = nums .u8 r from rfl] at hown7
  rw [Nat.zero_add]
  have HB7 : Aside0 (Below wa.heap.size wa w7) := ⟨pw_below_grown (below_alloc (below_drew1 (Below.refl wa.heap.size wa)) _) _ (below_alloc (below_drew1 (Below.refl wa.heap.size wa)) _).size hgrow7 (fun k hk => by have hk2 : some wa.heap.size = some k := hk; injection hk2 with hk2; omega)⟩
  have HR7 : Aside0 (Row5 w7 (some ⟨g7, 0, none⟩, r.length, cap7) r) := ⟨(row5_own (l := r) hown7 (by have := H1.out; omega)).1⟩
  clear hown7 hgrow7 hat7 hlt7
  refine hK.out _ _ (cell_below5 (w := wa) HB7.out hc1) (fun hHeld => ?_)
  clear hK K
  refine norm_ (a' := ?_) ?_ ?_
  rotate_left
  · show Act.put _ (some 21) _ = _
    simp only [Act.put, List.setIfInBounds_toArray, List.set_cons_zero, List.set_cons_succ, i64_w, i32_w]
    rfl
  refine one_ (i := 8) (N := some 22) #[true, true, true, true, true, true, true, true, true, false, false, false, false] rfl rfl (by kernel_rfl) (by decide) (fun K hK => ?_)
  go_simp
  refine hK.out _ _ (cell_below5 (w := wa) (below_alloc HB7.out _) hc1) (fun hHeld => ?_)
  clear hK K
  refine one_ (i := 9) (N := some 23) #[true, true, true, true, true, true, true, true, true, true, false, false, false] rfl rfl (by kernel_rfl) (by decide) (fun K hK => ?_)
  refine step_append_lies _ (by rfl) (.tmp 18) (.tmp 22) 38 rfl w0.heap.size 29 i29 _ 1 24 Try.underlying38 hi29 hz290 hz291 hz292 rfl (by omega) vw hw.length (encs hdV hw) rfl (HB6.out.moved (below_alloc HB7.out _)).ow ⟨w7.heap.size, 0, none⟩ 1 1 [hdV (some ⟨g7, 0, none⟩, r.length, cap7)] rfl rfl (World.news_of_block (cs := #[hdV (some ⟨g7, 0, none⟩, r.length, cap7)]) (t := 29) (fr := (0, 0)) (heap_alloc_new _ _)) ?_ (by omega) ?_ ?_ ?_ _ rfl ?_
  · exact fun u hu => by rw [List.mem_singleton] at hu; subst hu; rfl
  · have := H3.out; unfold maxLen; omega
  · have := H3.out; omega
  · exact (HB6.out.moved (below_alloc HB7.out _)).base
  intro g9 cap9 w9 hown9 hgrow9 hat9 hlt9
  have hbo8 := HB6.out.moved (below_alloc HB7.out (.cells #[hdV (some ⟨g7, 0, none⟩, r.length, cap7)] 29))
  have hb9 : Below w0.heap.size w0 w9 := pw_below_grown hbo8.below _ hbo8.base hgrow9 (own_base hbo8.ow)
  have happ := hbo8.appW (vw' := .slice (some ⟨g9, 0, none⟩) (hw.length + 1) cap9) (hd := (some ⟨g7, 0, none⟩, r.length, cap7)) (r := r) (by rw [List.length_append]; unfold encs at hown9 ⊢; rw [List.map_append]; exact hown9) hb9 hgrow9 (hat9.elim (fun e => .inl e.symm) (fun e => .inr ⟨g9, rfl, Nat.le_of_eq e.symm⟩)) (HR7.out.move (Same5.of_below (below_alloc (Below.refl _ _) _)))
  have HAP := Aside0.mk happ
  have hbx9 : w9.heap[gb]? = some (.cells #[.slice A1 (hl.length + 1) c1, vw] 40 (0, 0)) := (hgrow9.block gb hbo8.gbt (own_ne40 hbo8.ow hbo8.box (by decide))).trans hbo8.box
  have hc9 : w9.cell? ⟨gb, 1, none⟩ = some vw := by rw [blk_cell hbx9]; rfl
  have hf9 := blk_frozen hbx9 1
  clear hown9 hgrow9 hat9 hlt9 hbo8 hb9 happ hbx9
  refine hK.out _ _ hc9 (fun hHeld => ?_)
  clear hK K
  refine norm_ (a' := ?_) ?_ ?_
  rotate_left
  · show Act.put _ (some 23) _ = _
    simp only [Act.put, List.setIfInBounds_toArray, List.set_cons_zero, List.set_cons_succ, i64_w, i32_w]
    rfl
  refine pure_ (i := 10) (N := some 24) (v := ?_) (a' := ?_) #[true, true, true, true, true, true, true, true, true, true, true, false, false] rfl rfl (by kernel_rfl) (fun _ _ _ h => h) (Or.inl ⟨by rfl, ?_⟩) ?_ ?_
  rotate_left
  · intro w'
    go_simp
    with_reducible rfl
  rotate_left
  · simp only [Act.put, List.setIfInBounds_toArray, List.set_cons_zero, List.set_cons_succ, i64_w, i32_w]
    rfl
  refine pure_ (i := 11) (N := some 25) (v := ?_) (a' := ?_) #[true, true, true, true, true, true, true, true, true, true, true, true, false] rfl rfl (by kernel_rfl) (fun _ _ _ h => h) (Or.inl ⟨by rfl, ?_⟩) ?_ ?_
  rotate_left
  · intro w'
    go_simp
    with_reducible rfl
  rotate_left
  · simp only [Act.put, List.setIfInBounds_toArray, List.set_cons_zero, List.set_cons_succ, i64_w, i32_w]
    rfl
  refine last_ (i := 12) (N := none) #[true, true, true, true, true, true, true, true, true, true, true, true, true] rfl rfl (by kernel_rfl) (by decide) (fun K hK => ?_)
  go_simp
  refine hK.out _ _ ?_
  clear hK K
  refine done_ (by kernel_rfl) ?_
  clear hHeld hc1 hc9 hf9
  go_wp2
  first | go_end0 | ((try simp only [Exit.inBlock, Exit.then]); refine bodyPost_ret (results_none rfl _ _ _) rfl ?_)
  exact ⟨rfl, _, _, _, HAP.out.1, HM6.out.trans ((Mv.of_below (below_alloc HB7.out _) gb _ _).trans HAP.out.2)⟩
  --END
/-- what a book does not touch: a list of headers of its own -/
theorem Mv.keeps {w w' : World} {gb base n : Nat} {vl vl' vw vw' v : Value} {xs : List Value} (hm : Mv w w' gb vl vl' vw vw') {cs : Array Value} (hb : w.heap[gb]? = some (.cells cs 40 (0, 0))) (ho : w.ownsRow base 29 1 v n xs) (h1 : v.ownBlock = none ∨ v.ownBlock ≠ vl.ownBlock) (h2 : v.ownBlock = none ∨ v.ownBlock ≠ vw.ownBlock) :
    w'.ownsRow base 29 1 v n xs ∧ (v.ownBlock = none ∨ v.ownBlock ≠ vl'.ownBlock) ∧ (v.ownBlock = none ∨ v.ownBlock ≠ vw'.ownBlock) :=
  ⟨own_move ho fun k hk => hm.same k (own_lt ho k hk) (fun e => own_ne40 ho hb (by decide) (by rw [hk, e])) (fun e => by
    rcases h1 with h | h
    · rw [hk] at h; cases h
    · exact h (by rw [hk]; exact e)) (fun e => by
    rcases h2 with h | h
    · rw [hk] at h; cases h
    · exact h (by rw [hk]; exact e)), apart_new h1 ho hm.atl, apart_new h2 ho hm.atw⟩
set_option maxHeartbeats 800000 in
set_option maxRecDepth 100000 in
theorem held_calls (w0 w : World) (gb : Nat) (vl vw : Value) (hl hw : List Hdr) (ml : List (List Int)) (A : Option Addr) (c : Nat) (hs : List Hdr) (m : List (List Int)) (h : Bo w0 w gb vl vw hl hw ml) (ho : w.ownsRow w0.heap.size 29 1 (.slice A hs.length c) hs.length (encs hdV hs)) (hr : Rows5 w hs m) (hr0 : ∀ r ∈ m, 0 < r.length ∧ r.length ≤ 1000)
    (hn1 : (Value.slice A hs.length c).ownBlock = none ∨ (Value.slice A hs.length c).ownBlock ≠ vl.ownBlock) (hn2 : (Value.slice A hs.length c).ownBlock = none ∨ (Value.slice A hs.length c).ownBlock ≠ vw.ownBlock) (h2 : hl.length + hs.length ≤ 2000) (h3 : hw.length = hl.length) :
    Calls Try.prog 24 #[.pointer (some ⟨gb, 0, none⟩), .slice A hs.length c] w fun e w' => e = .returned (.tuple #[]) ∧ ∃ vl' vw' hw', Bo w0 w' gb vl' vw' (hl ++ hs) hw' (ml ++ m) ∧ hw'.length = (hl ++ hs).length ∧ Mv w w' gb vl vl' vw vw' := by
  have HB := Aside0.mk h
  have HO := Aside0.mk ho
  have HR := Aside0.mk hr
  have HR0 := Aside0.mk hr0
  have HN := Aside0.mk (And.intro hn1 hn2)
  have H2 := Aside0.mk h2
  have H3 := Aside0.mk h3
  clear h ho hr hr0 hn1 hn2 h2 h3
  go_enter Try.func24, Try.ntmps24
  go_wp2
  go_loopw [4] (fun v4 wr => ∃ (i : Nat) (vl1 vw1 : Value) (hw1 : List Hdr), i ≤ hs.length ∧ v4 = .int .i64 (i : Int) ∧ Aside0 (Bo w0 wr gb vl1 vw1 (hl ++ hs.take i) hw1 (ml ++ m.take i) ∧ hw1.length = hl.length + i ∧ Mv w wr gb vl vl1 vw vw1)) (fun v4 _ => hs.length - (intOf v4).toNat)
  case atStart => exact ⟨0, vl, vw, hw, Nat.zero_le _, rfl, ⟨by rw [List.take_zero, List.take_zero, List.append_nil, List.append_nil]; exact HB.out, H3.out, Mv.refl _ _ _ _⟩⟩
  case round =>
    obtain ⟨i, vl1, vw1, hw1, hi, rfl, HX⟩ := hrel
    by_cases hlt : i < hs.length
    · have hd1 : decide ((i : Int) < (hs.length : Int)) = true := decide_eq_true (by omega)
      have hd1' : decide (i < hs.length) = true := decide_eq_true hlt
      obtain ⟨hk1, hk2, hk3⟩ := HX.out.2.2.keeps HB.out.box HO.out HN.out.1 HN.out.2
      obtain ⟨gm, rfl⟩ := own_some hk1 (by omega)
      have hml : i < m.length := by rw [← HR.out.len]; exact hlt
      have hcell := (own_at_of (d := ((none, 0, 0) : Hdr)) hk1 (i : Int) (by omega) (by omega)).1
      rw [Int.toNat_natCast, rdOf, Int.toNat_natCast] at hcell
      have hrow := HR.out.row i (hs.getD i (none, 0, 0)) (m.getD i []) (getD_get hlt) (getD_get hml)
      have hsz := HR0.out _ (getD_mem (d := []) hml)
      have HT1 := Aside0.mk (show hs.take (i + 1) = hs.take i ++ [hs.getD i (none, 0, 0)] by rw [take_one hs hlt, List.getD_eq_getElem?_getD, List.getElem?_eq_getElem hlt]; rfl)
      have HT2 := Aside0.mk (show m.take (i + 1) = m.take i ++ [m.getD i []] by rw [take_one m hml, List.getD_eq_getElem?_getD, List.getElem?_eq_getElem hml]; rfl)
      generalize m.getD i [] = r at *
      generalize hs.getD i (none, 0, 0) = hd at *
      obtain ⟨A1, n1, c1⟩ := hd
      obtain rfl : n1 = r.length := hrow.1
      have hrow' := hrow.move (HX.out.2.2.same5 HB.out)
      have HRW := Aside0.mk hrow'
      have HSZ := Aside0.mk hsz
      have HLT := Aside0.mk hlt
      have HW1 := Aside0.mk (wr1 (i := i) hlt (by have := H2.out; omega))
      have HT0 := Aside0.mk (show (hl ++ hs.take i).length ≤ 2000 by rw [List.length_append, List.length_take]; have := H2.out; omega)
      have hc' : wr.cell? ⟨gm, i, none⟩ = some (.slice A1 r.length c1) := hcell
      have hli : (i : Int) < (hs.length : Int) := by omega
      clear hlt hi hml hcell hrow hrow' hsz hk1 hk2 hk3
      go_wp2_with (first
        | (go_at_call 37; (with_reducible refine (keep_calls w0 _ gb vl1 vw1 _ hw1 _ A1 c1 r HX.out.1 HRW.out HSZ.out.1 HSZ.out.2 HT0.out ?s1).mono ?_); (case s1 => have := HX.out.2.1; have := H2.out; have := HLT.out; omega); rintro e w9 ⟨rfl, vl2, vw2, hd2, hb2, hm2⟩; have HB2 := Aside0.mk hb2; have HM2 := Aside0.mk hm2; clear hb2 hm2))
      clear hc'
      go_roundw
      case rel => exact ⟨i + 1, vl2, vw2, hw1 ++ [hd2], HLT.out, by rw [HW1.out], ⟨by rw [HT1.out, HT2.out, ← List.append_assoc, ← List.append_assoc]; exact HB2.out, by rw [List.length_append, HX.out.2.1]; rfl, HX.out.2.2.trans HM2.out⟩⟩
      case measure => exact meas HW1.out HLT.out
    · have hd1 : decide ((i : Int) < (hs.length : Int)) = false := decide_eq_false (by omega)
      have hd1' : decide (i < hs.length) = false := decide_eq_false hlt
      obtain rfl : i = hs.length := by omega
      have hx := HX.out
      rw [List.take_of_length_le (Nat.le_refl _), List.take_of_length_le (by rw [HR.out.len]; exact Nat.le_refl _)] at hx
      have HX2 := Aside0.mk hx
      clear hlt hi hx
      go_wp2
      first | go_end0 | ((try simp only [Exit.inBlock, Exit.then]); refine bodyPost_ret (results_none rfl _ _ _) rfl ?_)
      exact ⟨rfl, vl1, vw1, hw1, HX2.out.1, by rw [List.length_append]; exact HX2.out.2.1, HX2.out.2.2⟩
end Go.Proofs.Ytdleoljbnjjdgaa.Bok
