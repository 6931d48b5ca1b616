/- The walk of the law CrcSums. -/
import Derived.Test.YtjaafdjgogpbdaaCrcExact
import Derived.Test.YtjaafdjgogpbdaaCrcEql
namespace Go.Proofs.Ytjaafdjgogpbdaa.CrcWalk
open Go.RowKit Go.Proofs.YtjaafdjgogpbdaaW.PrintWords Go.Proofs.YtjaafdjgogpbdaaW.PrintLast Go.Proofs.YtjaafdjgogpbdaaW.PrintMore Go.Proofs.Ytjaafdjgogpbdaa.Math Go.Proofs.Ytjaafdjgogpbdaa.Bits Go.Proofs.Ytjaafdjgogpbdaa.QBaseCrcSums
set_option linter.unusedSimpArgs false
set_option linter.unusedVariables false
set_option maxHeartbeats 2000000 in
set_option maxRecDepth 100000 in
theorem sums_calls (s : Nat) (hs : s < 2 ^ 32) (A B : Option Addr) (c d : Nat) (l m : List Int) (hl : ∀ x ∈ l, 0 ≤ x ∧ x < 256) (hm : ∀ x ∈ m, 0 ≤ x ∧ x < 256) (ll : l.length ≤ 140737488351232) (lm : m.length ≤ 140737488351232) (w : World)
    (hr : Kd.C (Kd.int .u8) w A l.length l) (hc : l.length ≤ c) (hr2 : Kd.C (Kd.int .u8) w B m.length m) (hc2 : m.length ≤ d) :
    Calls Try.prog 4 #[.slice A l.length c, .slice B m.length d, .int .u32 s] w fun e w' => e = .returned (.bool true) ∧ Below w.heap.size w w' := by
  have HR := Aside0.mk hr
  have HC := Aside0.mk hc
  have HR2 := Aside0.mk hr2
  have HC2 := Aside0.mk hc2
  have HL := Aside0.mk hl
  have HM := Aside0.mk hm
  have HS := Aside0.mk hs
  have LL := Aside0.mk ll
  have LM := Aside0.mk lm
  clear hr hc hr2 hc2 hl hm hs ll lm
  go_enter Try.func4, Try.ntmps4
  go_wp2_with fail
  refine (shown_calls _).mono ?_
  rintro e w1 ⟨rfl, hb⟩
  have HB := Aside0.mk hb
  clear hb
  go_wp2_with fail
  refine (exact_calls s HS.out A c l HL.out LL.out _ (Kd.C_below HR.out HB.out) HC.out).mono ?_
  rintro e w2 ⟨rfl, hb⟩
  have HB2 := Aside0.mk (Below.trans HB.out (hb.mono HB.out.size))
  clear hb HB
  go_wp2_with fail
  refine (exact_calls s HS.out B d m HM.out LM.out _ (Kd.C_below HR2.out HB2.out) HC2.out).mono ?_
  rintro e w3 ⟨rfl, hb⟩
  have HB3 := Aside0.mk (Below.trans HB2.out (hb.mono HB2.out.size))
  clear hb HB2
  go_wp2_with fail
  refine (exact_calls s HS.out A c l HL.out LL.out _ (Kd.C_below HR.out HB3.out) HC.out).mono ?_
  rintro e w4 ⟨rfl, hb⟩
  have HB4 := Aside0.mk (Below.trans HB3.out (hb.mono HB3.out.size))
  clear hb HB3 HR HR2 HC HC2 HL HM HS LL LM
  go_wp2_with fail
  refine (table_calls _).mono ?_
  rintro e w5 ⟨rfl, hb⟩
  have HB5 := Aside0.mk (Below.trans HB4.out (hb.mono HB4.out.size))
  clear hb HB4
  go_wp2_with (first | (refine wpList_alloc28 rfl rfl _ rfl ?_) | (refine wpList_store_row rfl 28 (.tmp 11) (.tmp 23) rfl w5.heap.size tab rfl rfl 28 (tabV z256) (heap_alloc_new _ _) inf_tab sz_tab one_tab ?_))
  have h1 : TabAt w5.heap.size ((w5.alloc (.cells (tabV z256) 28)).setRow w5.heap.size tab) := setRow_heap _ _ _ _ _ _ (heap_alloc_new _ _)
  have hb6 : Below w.heap.size w ((w5.alloc (.cells (tabV z256) 28)).setRow w5.heap.size tab) := below_setRow (HB5.out.alloc HB5.out.size _) HB5.out.size _
  have hs6 : w5.heap.size < ((w5.alloc (.cells (tabV z256) 28)).setRow w5.heap.size tab).heap.size := by simp
  generalize (w5.alloc (.cells (tabV z256) 28)).setRow w5.heap.size tab = w6 at *
  generalize w5.heap.size = g1 at *
  have H1 := Aside0.mk h1
  have HB6 := Aside0.mk hb6
  have S6 := Aside0.mk hs6
  clear h1 hb6 hs6 HB5
  refine (table_calls _).mono ?_
  rintro e w7 ⟨rfl, hb⟩
  have HB7 := Aside0.mk (Below.trans HB6.out (hb.mono HB6.out.size))
  have H2 : Aside0 (TabAt g1 w7) := ⟨(hb.block g1 S6.out).trans H1.out⟩
  have S7 : Aside0 (g1 < w7.heap.size) := ⟨Nat.lt_of_lt_of_le S6.out hb.size⟩
  clear hb H1 S6 HB6
  go_wp2_with (first | (refine wpList_alloc28 rfl rfl _ rfl ?_) | (refine wpList_store_row rfl 28 (.tmp 12) (.tmp 24) rfl w7.heap.size tab rfl rfl 28 (tabV z256) (heap_alloc_new _ _) inf_tab sz_tab one_tab ?_))
  have h1 : TabAt w7.heap.size ((w7.alloc (.cells (tabV z256) 28)).setRow w7.heap.size tab) := setRow_heap _ _ _ _ _ _ (heap_alloc_new _ _)
  have h2 : TabAt g1 ((w7.alloc (.cells (tabV z256) 28)).setRow w7.heap.size tab) := (setRow_other _ _ _ _ (Nat.ne_of_lt S7.out)).trans ((_root_.Go.heap_alloc_old _ _ S7.out).trans H2.out)
  have hb8 : Below w.heap.size w ((w7.alloc (.cells (tabV z256) 28)).setRow w7.heap.size tab) := below_setRow (HB7.out.alloc HB7.out.size _) HB7.out.size _
  have hs8 : w7.heap.size < ((w7.alloc (.cells (tabV z256) 28)).setRow w7.heap.size tab).heap.size := by simp
  generalize (w7.alloc (.cells (tabV z256) 28)).setRow w7.heap.size tab = w8 at *
  have hs9 : g1 < w8.heap.size := Nat.lt_trans S7.out hs8
  generalize w7.heap.size = g2 at *
  have K1 := Aside0.mk h1
  have K2 := Aside0.mk h2
  have HB8 := Aside0.mk hb8
  have L1 := Aside0.mk hs8
  have L2 := Aside0.mk hs9
  clear h1 h2 hb8 hs8 hs9 HB7 H2 S7
  (try simp only [Act.put, List.setIfInBounds_toArray, List.set_cons_zero, List.set_cons_succ])
  refine start_ (n := 21) (S := fun w' => TabAt g1 w' ∧ TabAt g2 w') (ds := []) #[false, false, false, false, false, false, false, false, false, false, false, false, false, false, false, false, false, false, false, false, false] (by kernel_rfl) rfl rfl ⟨K2.out, K1.out⟩ (fun hHeld => ?_)
  refine pure_ (i := 0) (N := some 25) (v := ?_) (a' := ?_) #[true, false, false, false, false, false, false, false, false, false, false, false, false, false, false, false, false, false, false, false, false] rfl rfl (by kernel_rfl) (fun _ _ _ h => h) (Or.inl ⟨by rfl, ?_⟩) ?_ ?_
  rotate_left
  · intro w'
    go_simp
    with_reducible rfl
  rotate_left
  · simp only [Act.put, List.setIfInBounds_toArray, List.set_cons_zero, List.set_cons_succ, i64_w, i32_w]
    rfl
  refine pure_ (i := 1) (N := some 26) (v := ?_) (a' := ?_) #[true, true, false, false, false, false, false, false, false, false, false, false, false, false, false, false, false, false, false, false, false] rfl rfl (by kernel_rfl) (fun _ _ _ h => h) (Or.inl ⟨by rfl, ?_⟩) ?_ ?_
  rotate_left
  · intro w'
    go_simp
    with_reducible rfl
  rotate_left
  · simp only [Act.put, List.setIfInBounds_toArray, List.set_cons_zero, List.set_cons_succ, i64_w, i32_w]
    rfl
  refine pure_ (i := 2) (N := some 27) (v := ?_) (a' := ?_) #[true, true, true, false, false, false, false, false, false, false, false, false, false, false, false, false, false, false, false, false, false] rfl rfl (by kernel_rfl) (fun _ _ _ h => h) (Or.inl ⟨by rfl, ?_⟩) ?_ ?_
  rotate_left
  · intro w'
    go_simp
    with_reducible rfl
  rotate_left
  · simp only [Act.put, List.setIfInBounds_toArray, List.set_cons_zero, List.set_cons_succ, i64_w, i32_w]
    rfl
  refine pure_ (i := 3) (N := some 28) (v := ?_) (a' := ?_) #[true, true, true, true, false, false, false, false, false, false, false, false, false, false, false, false, false, false, false, false, false] rfl rfl (by kernel_rfl) (fun _ _ _ h => h) (Or.inl ⟨by rfl, ?_⟩) ?_ ?_
  rotate_left
  · intro w'
    go_simp
    with_reducible rfl
  rotate_left
  · simp only [Act.put, List.setIfInBounds_toArray, List.set_cons_zero, List.set_cons_succ, i64_w, i32_w]
    rfl
  refine pure_ (i := 4) (N := some 29) (v := ?_) (a' := ?_) #[true, true, true, true, true, false, false, false, false, false, false, false, false, false, false, false, false, false, false, false, false] rfl rfl (by kernel_rfl) (fun _ _ _ h => h) (Or.inl ⟨by rfl, ?_⟩) ?_ ?_
  rotate_left
  · intro w'
    go_simp
    with_reducible rfl
  rotate_left
  · simp only [Act.put, List.setIfInBounds_toArray, List.set_cons_zero, List.set_cons_succ, i64_w, i32_w]
    rfl
  refine pure_ (i := 5) (N := some 30) (v := ?_) (a' := ?_) #[true, true, true, true, true, true, false, false, false, false, false, false, false, false, false, false, false, false, false, false, false] rfl rfl (by kernel_rfl) (fun _ _ _ h => h) (Or.inl ⟨by rfl, ?_⟩) ?_ ?_
  rotate_left
  · intro w'
    go_simp
    with_reducible rfl
  rotate_left
  · simp only [Act.put, List.setIfInBounds_toArray, List.set_cons_zero, List.set_cons_succ, i64_w, i32_w]
    rfl
  refine pure_ (i := 6) (N := some 31) (v := ?_) (a' := ?_) #[true, true, true, true, true, true, true, false, false, false, false, false, false, false, false, false, false, false, false, false, false] rfl rfl (by kernel_rfl) (fun _ _ _ h => h) (Or.inl ⟨by rfl, ?_⟩) ?_ ?_
  rotate_left
  · intro w'
    go_simp
    with_reducible rfl
  rotate_left
  · simp only [Act.put, List.setIfInBounds_toArray, List.set_cons_zero, List.set_cons_succ, i64_w, i32_w]
    rfl
  refine pure_ (i := 7) (N := some 32) (v := ?_) (a' := ?_) #[true, true, true, true, true, true, true, true, false, false, false, false, false, false, false, false, false, false, false, false, false] rfl rfl (by kernel_rfl) (fun _ _ _ h => h) (Or.inl ⟨by rfl, ?_⟩) ?_ ?_
  rotate_left
  · intro w'
    go_simp
    with_reducible rfl
  rotate_left
  · simp only [Act.put, List.setIfInBounds_toArray, List.set_cons_zero, List.set_cons_succ, i64_w, i32_w]
    rfl
  refine pure_ (i := 8) (N := some 33) (v := ?_) (a' := ?_) #[true, true, true, true, true, true, true, true, true, false, false, false, false, false, false, false, false, false, false, false, false] rfl rfl (by kernel_rfl) (fun _ _ _ h => h) (Or.inl ⟨by rfl, ?_⟩) ?_ ?_
  rotate_left
  · intro w'
    go_simp
    with_reducible rfl
  rotate_left
  · simp only [Act.put, List.setIfInBounds_toArray, List.set_cons_zero, List.set_cons_succ, i64_w, i32_w]
    rfl
  refine pure_ (i := 9) (N := some 34) (v := ?_) (a' := ?_) #[true, true, true, true, true, true, true, true, true, true, false, false, false, false, false, false, false, false, false, false, false] rfl rfl (by kernel_rfl) (fun _ _ _ h => h) (Or.inl ⟨by rfl, ?_⟩) ?_ ?_
  rotate_left
  · intro w'
    go_simp
    with_reducible rfl
  rotate_left
  · simp only [Act.put, List.setIfInBounds_toArray, List.set_cons_zero, List.set_cons_succ, i64_w, i32_w]
    rfl
  refine pure_ (i := 10) (N := some 35) (v := ?_) (a' := ?_) #[true, true, true, true, true, true, true, true, true, true, true, false, false, false, false, false, false, false, false, false, false] rfl rfl (by kernel_rfl) (fun _ _ _ h => h) (Or.inl ⟨by rfl, ?_⟩) ?_ ?_
  rotate_left
  · intro w'
    go_simp
    with_reducible rfl
  rotate_left
  · simp only [Act.put, List.setIfInBounds_toArray, List.set_cons_zero, List.set_cons_succ, i64_w, i32_w]
    rfl
  refine take_ (i := 11) (N := some 36) (v := ?_) (a' := ?_) #[true, true, true, true, true, true, true, true, true, true, true, true, false, false, false, false, false, false, false, false, false] rfl rfl (by kernel_rfl) (fun _ _ _ h => h) (Or.inl ⟨by rfl, ?_⟩) hHeld ?_ ?_
  rotate_left
  · rintro w' ⟨s0, s1⟩
    (refine exec_load (x := .tmp 11) ?_ ?_ s0 <;> rfl)
  rotate_left
  · simp only [Act.put, List.setIfInBounds_toArray, List.set_cons_zero, List.set_cons_succ, i64_w, i32_w]
    rfl
  refine one_ (i := 12) (N := some 37) #[true, true, true, true, true, true, true, true, true, true, true, true, true, false, false, false, false, false, false, false, false] rfl rfl (by kernel_rfl) (by decide) (fun K hK => ?_)
  refine goes_ Try.func14 (by kernel_rfl) rfl #[] (by rfl) rfl rfl (by (try simp only [List.map_toArray, List.map_cons, List.map_nil]); first | done | rfl) ?_
  refine (refTable_calls _).mono ?_
  rintro e w9 ⟨rfl, hb⟩
  refine ⟨_, rfl, ?_⟩
  have hh : TabAt g1 w9 ∧ TabAt g2 w9 := ⟨(hb.block g1 L2.out).trans hHeld.1, (hb.block g2 L1.out).trans hHeld.2⟩
  have HB9 := Aside0.mk (Below.trans (Below.drew HB8.out) (hb.mono HB8.out.size))
  clear hb hHeld
  refine hK.out _ _ hh (fun hHeld => ?_)
  clear hK K
  refine norm_ (a' := ?_) ?_ ?_
  rotate_left
  · show Act.put _ (some 37) _ = _
    simp only [Act.put, List.setIfInBounds_toArray, List.set_cons_zero, List.set_cons_succ, i64_w, i32_w]
    rfl
  refine pure_ (i := 13) (N := some 38) (v := ?_) (a' := ?_) #[true, true, true, true, true, true, true, true, true, true, true, true, true, true, false, false, false, false, false, false, false] rfl rfl (by kernel_rfl) (fun _ _ _ h => h) (Or.inl ⟨by rfl, ?_⟩) ?_ ?_
  rotate_left
  · intro w'
    (refine exec_eql (x := .tmp 36) (y := .tmp 37) ?_ ?_ ?_ <;> rfl)
  rotate_left
  · simp only [Act.put, List.setIfInBounds_toArray, List.set_cons_zero, List.set_cons_succ, i64_w, i32_w]
    rfl
  refine pure_ (i := 14) (N := some 39) (v := ?_) (a' := ?_) #[true, true, true, true, true, true, true, true, true, true, true, true, true, true, true, false, false, false, false, false, false] rfl rfl (by kernel_rfl) (fun _ _ _ h => h) (Or.inl ⟨by rfl, ?_⟩) ?_ ?_
  rotate_left
  · intro w'
    go_simp
    with_reducible rfl
  rotate_left
  · simp only [Act.put, List.setIfInBounds_toArray, List.set_cons_zero, List.set_cons_succ, i64_w, i32_w]
    rfl
  refine pure_ (i := 15) (N := some 40) (v := ?_) (a' := ?_) #[true, true, true, true, true, true, true, true, true, true, true, true, true, true, true, true, false, false, false, false, false] rfl rfl (by kernel_rfl) (fun _ _ _ h => h) (Or.inl ⟨by rfl, ?_⟩) ?_ ?_
  rotate_left
  · intro w'
    go_simp
    with_reducible rfl
  rotate_left
  · simp only [Act.put, List.setIfInBounds_toArray, List.set_cons_zero, List.set_cons_succ, i64_w, i32_w]
    rfl
  refine take_ (i := 16) (N := some 41) (v := ?_) (a' := ?_) #[true, true, true, true, true, true, true, true, true, true, true, true, true, true, true, true, true, false, false, false, false] rfl rfl (by kernel_rfl) (fun _ _ _ h => h) (Or.inl ⟨by rfl, ?_⟩) hHeld ?_ ?_
  rotate_left
  · rintro w' ⟨s0, s1⟩
    (refine exec_load (x := .tmp 12) ?_ ?_ s1 <;> rfl)
  rotate_left
  · simp only [Act.put, List.setIfInBounds_toArray, List.set_cons_zero, List.set_cons_succ, i64_w, i32_w]
    rfl
  refine take_ (i := 17) (N := some 42) (v := ?_) (a' := ?_) #[true, true, true, true, true, true, true, true, true, true, true, true, true, true, true, true, true, true, false, false, false] rfl rfl (by kernel_rfl) (fun _ _ _ h => h) (Or.inl ⟨by rfl, ?_⟩) hHeld ?_ ?_
  rotate_left
  · rintro w' ⟨s0, s1⟩
    (refine exec_load (x := .tmp 11) ?_ ?_ s0 <;> rfl)
  rotate_left
  · simp only [Act.put, List.setIfInBounds_toArray, List.set_cons_zero, List.set_cons_succ, i64_w, i32_w]
    rfl
  refine pure_ (i := 18) (N := some 43) (v := ?_) (a' := ?_) #[true, true, true, true, true, true, true, true, true, true, true, true, true, true, true, true, true, true, true, false, false] rfl rfl (by kernel_rfl) (fun _ _ _ h => h) (Or.inl ⟨by rfl, ?_⟩) ?_ ?_
  rotate_left
  · intro w'
    (refine exec_eql (x := .tmp 41) (y := .tmp 42) ?_ ?_ ?_ <;> rfl)
  rotate_left
  · simp only [Act.put, List.setIfInBounds_toArray, List.set_cons_zero, List.set_cons_succ, i64_w, i32_w]
    rfl
  refine pure_ (i := 19) (N := some 44) (v := ?_) (a' := ?_) #[true, true, true, true, true, true, true, true, true, true, true, true, true, true, true, true, true, true, true, true, false] rfl rfl (by kernel_rfl) (fun _ _ _ h => h) (Or.inl ⟨by rfl, ?_⟩) ?_ ?_
  rotate_left
  · intro w'
    go_simp
    with_reducible rfl
  rotate_left
  · simp only [Act.put, List.setIfInBounds_toArray, List.set_cons_zero, List.set_cons_succ, i64_w, i32_w]
    rfl
  refine pure_ (i := 20) (N := some 6) (v := ?_) (a' := ?_) #[true, true, true, true, true, true, true, true, true, true, true, true, true, true, true, true, true, true, true, true, true] rfl rfl (by kernel_rfl) (fun _ _ _ h => h) (Or.inl ⟨by rfl, ?_⟩) ?_ ?_
  rotate_left
  · intro w'
    go_simp
    with_reducible rfl
  rotate_left
  · simp only [Act.put, List.setIfInBounds_toArray, List.set_cons_zero, List.set_cons_succ, i64_w, i32_w]
    rfl
  refine done_ (by kernel_rfl) ?_
  go_wp2
  go_ret
  exact ⟨rfl, HB9.out⟩
/-- what the law answers, where its arguments are of their kinds -/
def sumsF (l m : List Int) (s : Int) : Option Bool :=
  if ((∀ x ∈ l, 0 ≤ x ∧ x < 256) ∧ l.length ≤ 140737488351232) ∧ ((∀ x ∈ m, 0 ≤ x ∧ x < 256) ∧ m.length ≤ 140737488351232) ∧ (0 ≤ s ∧ s < 4294967296) then some true else none
theorem sumsF_calls (A0 : Option Addr) (c0 : Nat) (l0 : List Int) (A1 : Option Addr) (c1 : Nat) (l1 : List Int) (a2 : Int) (r : Bool) (w : World) (hr0 : Kd.C (Kd.int .u8) w A0 l0.length l0) (hc0 : l0.length ≤ c0) (hr1 : Kd.C (Kd.int .u8) w A1 l1.length l1) (hc1 : l1.length ≤ c1) (h : sumsF l0 l1 a2 = some r) :
    Calls Try.prog 4 #[.slice A0 l0.length c0, .slice A1 l1.length c1, .int .u32 a2] w fun e w' => e = .returned (.bool r) ∧ Below w.heap.size w w' := by
  unfold sumsF at h
  split at h
  · rename_i hh
    obtain ⟨⟨h1, h2⟩, ⟨h3, h4⟩, h5, h6⟩ := hh
    simp only [Option.some.injEq] at h
    subst h
    have := sums_calls a2.toNat (by omega) A0 A1 c0 c1 l0 l1 h1 h3 h2 h4 w hr0 hc0 hr1 hc1
    rwa [show ((a2.toNat : Nat) : Int) = a2 from by omega] at this
  · cases h
end Go.Proofs.Ytjaafdjgogpbdaa.CrcWalk
