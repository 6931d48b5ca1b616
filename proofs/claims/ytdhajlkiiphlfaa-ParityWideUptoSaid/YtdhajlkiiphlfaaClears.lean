/- A part of a proof: see the text's own remark. No conditions beyond its theorems' own. -/
import Derived.Test.YtdhajlkiiphlfaaTwo
/-! field.clears, walked -/
namespace Go.Proofs.Ytdhajlkiiphlfaa.Solve
open Go.RowKit Go.Proofs.Ytdhajlkiiphlfaa.QBaseParityWide Go.Proofs.YtdhajlkiiphlfaaW.PrintWords Go.Proofs.YtdhajlkiiphlfaaW.PrintLast Go.Proofs.YtdhajlkiiphlfaaW.PrintMore
set_option linter.unusedVariables false
set_option linter.unusedSimpArgs false
theorem wr1 {i n : Nat} (h : i < n) (hn : n ≤ 140737488355328) : wrap64 ((i : Int) + 1) = ((i + 1 : Nat) : Int) := by unfold wrap64; omega
theorem set_same {α : Type} {l : List α} {i : Nat} {r : α} (h : l[i]? = some r) : l.set i r = l := by obtain ⟨hi, rfl⟩ := List.getElem?_eq_some_iff.1 h; exact List.set_getElem_self hi
theorem getZ {l : List Int} {j : Nat} (hj : j < l.length) : rd l (j : Int) = l[j] := by unfold rd; rw [Int.toNat_natCast, List.getD_eq_getElem?_getD, List.getElem?_eq_getElem hj]; rfl

theorem Two.addA {w0 w : World} {okA okX : Nat → Prop} {ga ca : Nat} {ha : List Value} {a : List (List Int)} {gx cx : Nat} {hx : List Value} {x : List (List Int)} (h : Two w0 w okA okX ga ca ha a gx cx hx x) {k c : Nat} (hkc : k ≠ c) {r1 rc r' : List Int} (h1 : a[k]? = some r1) (h2 : a[c]? = some rc) {A1 A2 : Option Addr} {c1 c2 : Nat}
    (e1 : ha[k]? = some (.slice A1 r1.length c1)) (e2 : ha[c]? = some (.slice A2 rc.length c2)) (hc2 : rc.length ≤ c2) {K : Nat} {by_ : Int} (hf : field_add.f K r1 rc by_ = some r') :
    Calls Try.prog 56 #[.slice A1 r1.length c1, .slice A2 rc.length c2, .int .u8 by_] w fun e w' => e = .returned (.tuple #[]) ∧ Two w0 w' okA okX ga ca ha (a.set k r') gx cx hx x := by
  have hR1 := Kd.R_tight rfl (h.A.row k _ _ e1 h1)
  have hR2 := Kd.R_tight rfl (h.A.row c _ _ e2 h2)
  refine (field_add.calls K (fun j => some j = (Value.slice A1 r1.length c1).ownBlock) _ r1 A2 c2 rc by_ r' w0 w h.B hR1 (Kd.C_kept_own hR2 (fun j hj hj2 => hkc (h.A.apart k c _ _ j e1 e2 hj2.symm hj.symm))) hc2 hf).mono ?_
  rintro e w' ⟨rfl, hr, hb, hk⟩
  exact ⟨rfl, h.setA e1 hk hb (Kd.R_mono hr (fun _ _ => trivial))⟩
def elimStep (c k : Nat) (q : List (List Int) × List (List Int)) : List (List Int) × List (List Int) :=
  if k ≠ c ∧ rd (rd_L2 q.1 k) c ≠ 0 then (q.1.set k (addR (rd_L2 q.1 k) (rd_L2 q.1 c) (rd (rd_L2 q.1 k) c)), q.2.set k (addR (rd_L2 q.2 k) (rd_L2 q.2 c) (rd (rd_L2 q.1 k) c))) else q
def elim (c : Nat) : Nat → List (List Int) × List (List Int) → List (List Int) × List (List Int)
  | 0, q => q
  | k + 1, q => elimStep c k (elim c k q)
theorem rowZ {l : List (List Int)} {j : Nat} {r : List Int} (h : l[j]? = some r) : rd_L2 l (j : Int) = r := by unfold rd_L2; rw [Int.toNat_natCast, List.getD_eq_getElem?_getD, h]; rfl
theorem elZ {l : List Int} {j : Nat} {y : Int} (h : l[j]? = some y) : rd l (j : Int) = y := by unfold rd; rw [Int.toNat_natCast, List.getD_eq_getElem?_getD, h]; rfl
theorem Sh.at_ {n m : Nat} {l : List (List Int)} (h : Sh n m l) {i : Nat} (hi : i < n) : ∃ r, l[i]? = some r ∧ r.length = m ∧ ∀ y ∈ r, In8 y :=
  have hg : l[i]? = some (l[i]'(by rw [h.len]; exact hi)) := List.getElem?_eq_getElem _
  ⟨_, hg, h.row _ (List.mem_of_getElem? hg), h.el _ (List.mem_of_getElem? hg)⟩
theorem elimStep_sh {n nx c k : Nat} {q : List (List Int) × List (List Int)} (ha : Sh n n q.1) (hx : Sh n nx q.2) (hc : c < n) (hk : k < n) : Sh n n (elimStep c k q).1 ∧ Sh n nx (elimStep c k q).2 := by
  obtain ⟨r1, h1, l1, i1⟩ := ha.at_ hk
  obtain ⟨r2, h2, l2, i2⟩ := ha.at_ hc
  obtain ⟨s1, g1, m1, j1⟩ := hx.at_ hk
  obtain ⟨s2, g2, m2, j2⟩ := hx.at_ hc
  unfold elimStep
  rw [rowZ h1, rowZ h2, rowZ g1, rowZ g2]
  obtain ⟨y, hy⟩ : ∃ y, r1[c]? = some y := ⟨_, List.getElem?_eq_getElem (by omega)⟩
  rw [elZ hy]
  have hy8 := i1 y (List.mem_of_getElem? hy)
  split
  · exact ⟨ha.set k (by rw [addR_length _ _ _ (by omega), l1]) (addR_in _ _ _ hy8 i1), hx.set k (by rw [addR_length _ _ _ (by omega), m1]) (addR_in _ _ _ hy8 j1)⟩
  · exact ⟨ha, hx⟩
theorem elim_sh {n nx c : Nat} {q : List (List Int) × List (List Int)} (ha : Sh n n q.1) (hx : Sh n nx q.2) (hc : c < n) : ∀ k, k ≤ n → Sh n n (elim c k q).1 ∧ Sh n nx (elim c k q).2
  | 0, _ => ⟨ha, hx⟩
  | k + 1, hk => by
    have ih := elim_sh ha hx hc k (by omega)
    exact elimStep_sh ih.1 ih.2 hc (by omega)
def clearsF (n c : Nat) (a x : List (List Int)) : List (List Int) × List (List Int) :=
  let b := invZ (rd (rd_L2 a c) c)
  elim c n (a.set c (scaleR (rd_L2 a c) b), x.set c (scaleR (rd_L2 x c) b))

set_option maxHeartbeats 800000 in
set_option maxRecDepth 100000 in
theorem clears_calls (w0 w : World) (okA okX : Nat → Prop) (ga ca : Nat) (ha : List Value) (a : List (List Int)) (gx cx : Nat) (hx : List Value) (x : List (List Int)) (n nx c : Nat) (hT : Two w0 w okA okX ga ca ha a gx cx hx x) (hc : c < n) (hn : n ≤ 256) (hnx : nx ≤ 140737488355328) (sa : Sh n n a) (sx : Sh n nx x) :
    Calls Try.prog 50 #[.slice (some ⟨ga, 0, none⟩) n ca, .slice (some ⟨gx, 0, none⟩) n cx, .int .i64 (c : Int)] w fun e w' => e = .returned (.tuple #[]) ∧ Two w0 w' okA okX ga ca ha (clearsF n c a x).1 gx cx hx (clearsF n c a x).2 := by
  obtain ⟨ra, hra⟩ : ∃ r, a[c]? = some r := ⟨_, List.getElem?_eq_getElem (by rw [sa.len]; exact hc)⟩
  obtain ⟨rx, hrx⟩ : ∃ r, x[c]? = some r := ⟨_, List.getElem?_eq_getElem (by rw [sx.len]; exact hc)⟩
  have hral : ra.length = n := sa.row ra (List.mem_of_getElem? hra)
  have hrxl : rx.length = nx := sx.row rx (List.mem_of_getElem? hrx)
  obtain ⟨p, hp⟩ : ∃ p, ra[c]? = some p := ⟨_, List.getElem?_eq_getElem (by rw [hral]; exact hc)⟩
  have HEA := Aside0.mk (sa.el ra (List.mem_of_getElem? hra))
  have HEX := Aside0.mk (sx.el rx (List.mem_of_getElem? hrx))
  have hpin : In8 p := HEA.out p (List.mem_of_getElem? hp)
  obtain ⟨by_, hby⟩ : ∃ b, b = invZ p := ⟨_, rfl⟩
  have HBY := Aside0.mk (show In8 by_ from hby ▸ invZ_in hpin)
  obtain ⟨er, her⟩ : ∃ er : Int, er = if p.toNat = 0 then 41 else 0 := ⟨_, rfl⟩
  have HI := Aside0.mk (show field_Inv.f 1000 p = some (by_, er) from by rw [hby, her]; exact Inv_z hpin (by omega))
  clear her
  have HCL := Aside0.mk (show c < a.length ∧ c < x.length from ⟨by rw [sa.len]; exact hc, by rw [sx.len]; exact hc⟩)
  have HSA := Aside0.mk sa
  have HSX := Aside0.mk sx
  have HN := Aside0.mk (show n ≤ 256 ∧ nx ≤ 140737488355328 from ⟨hn, hnx⟩)
  have HT := Aside0.mk hT
  obtain ⟨g0, c0, _, hl0, hh0, he0, _, _⟩ := hT.cellA' hra hp
  have HRL := Aside0.mk hral
  have HXL := Aside0.mk hrxl
  have hcn0 : (0 : Int) ≤ (c : Int) := by omega
  have hcn1 : (c : Int) < (n : Int) := by omega
  have hcn2 : (c : Int) < (ra.length : Int) := by omega
  have HBE := Aside0.mk hby
  have HRA := Aside0.mk hra
  have HRX := Aside0.mk hrx
  clear hT sa sx hn hnx hpin hl0 hc hby hral hrxl hra hrx
  go_enter Try.func50, Try.ntmps50
  go_wp2_with (fail)
  refine (field_Inv.calls 1000 p by_ er _ HI.out).mono ?_
  rintro e w' ⟨rfl, ⟨nd, rfl⟩⟩
  replace HT := Aside0.mk (HT.out.drewN nd)
  have hh1 : (w.drewN nd).cell? ⟨ga, c, none⟩ = _ := hh0
  generalize w.drewN nd = w1 at HT hh1 ⊢
  go_wp2
  go_loopw [28] (fun vi wr => ∃ i : Nat, i ≤ ra.length ∧ vi = .int .i64 (i : Int) ∧ Aside0 (Two w0 wr okA okX ga ca ha (a.set c (scaleTo ra by_ i)) gx cx hx x)) (fun vi _ => ra.length - (intOf vi).toNat)
  case atStart => exact ⟨0, Nat.zero_le _, rfl, ⟨by rw [scaleTo_zero, set_same HRA.out]; exact HT.out⟩⟩
  case round =>
    obtain ⟨i, hi, rfl, HT⟩ := hrel
    by_cases hlt : i < ra.length
    · have hrow : (a.set c (scaleTo ra by_ i))[c]? = some (scaleTo ra by_ i) := List.getElem?_set_self (by have := HCL.out; omega)
      have hyy : (scaleTo ra by_ i)[i]? = some ra[i] := scaleTo_get ra by_ i hlt
      have hset := scaleTo_set ra by_ i hlt
      have hin : In8 ra[i] := HEA.out _ (List.getElem_mem hlt)
      obtain ⟨y, hy⟩ : ∃ y, y = ra[i] := ⟨_, rfl⟩
      rw [← hy] at hyy hset hin
      have HM := Aside0.mk (Mul_z (k := 1000) hin HBY.out (by omega))
      have HSET := Aside0.mk hset
      have HLT := Aside0.mk hlt
      clear hset hin hy hi
      try go_wp2
      obtain ⟨g, cp, h1, h2, hcellh, hcelle, hfr, hput⟩ := (HT.out.drew).cellA' hrow hyy
      rw [scaleTo_length ra by_ i (by have := HLT.out; omega)] at hcellh h1 h2
      have hput2 := hput (mulZ y by_)
      rw [HSET.out, List.set_set] at hput2
      clear hput
      have HP := Aside0.mk hput2
      clear hput2
      have hq : (i : Int) < ((ra.length : Int)) := by have := HLT.out; omega
      have hq0 : (0 : Int) ≤ (i : Int) := by omega
      refine start_ (n := 16) (S := fun w' => w'.cell? ⟨ga, c, none⟩ = some (.slice (some ⟨g, 0, none⟩) ra.length cp) ∧ w'.cell? ⟨g, i, none⟩ = some (.int .u8 y)) (ds := [15]) #[false, false, false, false, false, false, false, false, false, false, false, false, false, false, false, false] (by kernel_rfl) rfl rfl ⟨hcellh, hcelle⟩ (fun hHeld => ?_)
      generalize wr.drew = w11 at hcellh hcelle hfr HP hHeld ⊢
      refine pure_ (i := 0) (N := some 31) (v := ?_) (a' := ?_) #[true, false, false, false, false, false, false, false, false, false, false, false, false, false, false, false] rfl rfl (by kernel_rfl) (fun _ _ _ h => h) (Or.inl ⟨by rfl, ?_⟩) ?_ ?_
      rotate_left
      · intro w'
        go_simp
        with_reducible rfl
      rotate_left
      · simp only [Act.put, List.setIfInBounds_toArray, List.set_cons_zero, List.set_cons_succ, i64_w, i32_w]
        rfl
      refine pure_ (i := 1) (N := some 32) (v := ?_) (a' := ?_) #[true, true, false, false, false, false, false, false, false, false, false, false, false, false, false, false] rfl rfl (by kernel_rfl) (fun _ _ _ h => h) (Or.inl ⟨by rfl, ?_⟩) ?_ ?_
      rotate_left
      · intro w'
        go_simp
        with_reducible rfl
      rotate_left
      · simp only [Act.put, List.setIfInBounds_toArray, List.set_cons_zero, List.set_cons_succ, i64_w, i32_w]
        rfl
      refine pure_ (i := 2) (N := some 33) (v := ?_) (a' := ?_) #[true, true, true, false, false, false, false, false, false, false, false, false, false, false, false, false] rfl rfl (by kernel_rfl) (fun _ _ _ h => h) (Or.inl ⟨by rfl, ?_⟩) ?_ ?_
      rotate_left
      · intro w'
        go_simp
        with_reducible rfl
      rotate_left
      · simp only [Act.put, List.setIfInBounds_toArray, List.set_cons_zero, List.set_cons_succ, i64_w, i32_w]
        rfl
      refine pure_ (i := 4) (N := some 35) (v := ?_) (a' := ?_) #[true, true, true, false, true, false, false, false, false, false, false, false, false, false, false, false] rfl rfl (by kernel_rfl) (fun _ _ _ h => h) (Or.inl ⟨by rfl, ?_⟩) ?_ ?_
      rotate_left
      · intro w'
        go_simp
        with_reducible rfl
      rotate_left
      · simp only [Act.put, List.setIfInBounds_toArray, List.set_cons_zero, List.set_cons_succ, i64_w, i32_w]
        rfl
      refine pure_ (i := 5) (N := some 36) (v := ?_) (a' := ?_) #[true, true, true, false, true, true, false, false, false, false, false, false, false, false, false, false] rfl rfl (by kernel_rfl) (fun _ _ _ h => h) (Or.inl ⟨by rfl, ?_⟩) ?_ ?_
      rotate_left
      · intro w'
        go_simp
        with_reducible rfl
      rotate_left
      · simp only [Act.put, List.setIfInBounds_toArray, List.set_cons_zero, List.set_cons_succ, i64_w, i32_w]
        rfl
      refine pure_ (i := 6) (N := some 37) (v := ?_) (a' := ?_) #[true, true, true, false, true, true, true, false, false, false, false, false, false, false, false, false] rfl rfl (by kernel_rfl) (fun _ _ _ h => h) (Or.inl ⟨by rfl, ?_⟩) ?_ ?_
      rotate_left
      · intro w'
        go_simp
        with_reducible rfl
      rotate_left
      · simp only [Act.put, List.setIfInBounds_toArray, List.set_cons_zero, List.set_cons_succ, i64_w, i32_w]
        rfl
      refine pure_ (i := 7) (N := some 38) (v := ?_) (a' := ?_) #[true, true, true, false, true, true, true, true, false, false, false, false, false, false, false, false] rfl rfl (by kernel_rfl) (fun _ _ _ h => h) (Or.inl ⟨by rfl, ?_⟩) ?_ ?_
      rotate_left
      · intro w'
        go_simp
        with_reducible rfl
      rotate_left
      · simp only [Act.put, List.setIfInBounds_toArray, List.set_cons_zero, List.set_cons_succ, i64_w, i32_w]
        rfl
      refine pure_ (i := 9) (N := some 40) (v := ?_) (a' := ?_) #[true, true, true, false, true, true, true, true, false, true, false, false, false, false, false, false] rfl rfl (by kernel_rfl) (fun _ _ _ h => h) (Or.inl ⟨by rfl, ?_⟩) ?_ ?_
      rotate_left
      · intro w'
        go_simp
        with_reducible rfl
      rotate_left
      · simp only [Act.put, List.setIfInBounds_toArray, List.set_cons_zero, List.set_cons_succ, i64_w, i32_w]
        rfl
      refine pure_ (i := 12) (N := some 43) (v := ?_) (a' := ?_) #[true, true, true, false, true, true, true, true, false, true, false, false, true, false, false, false] rfl rfl (by kernel_rfl) (fun _ _ _ h => h) (Or.inl ⟨by rfl, ?_⟩) ?_ ?_
      rotate_left
      · intro w'
        go_simp
        with_reducible rfl
      rotate_left
      · simp only [Act.put, List.setIfInBounds_toArray, List.set_cons_zero, List.set_cons_succ, i64_w, i32_w]
        rfl
      refine take_ (i := 3) (N := some 34) (v := ?_) (a' := ?_) #[true, true, true, true, true, true, true, true, false, true, false, false, true, false, false, false] rfl rfl (by kernel_rfl) (fun _ _ _ h => h) (Or.inl ⟨by rfl, ?_⟩) hHeld ?_ ?_
      rotate_left
      · intro w' s0
        obtain ⟨s1, s2⟩ := s0
        go_simp
        with_reducible rfl
      rotate_left
      · simp only [Act.put, List.setIfInBounds_toArray, List.set_cons_zero, List.set_cons_succ, i64_w, i32_w]
        rfl
      refine take_ (i := 8) (N := some 39) (v := ?_) (a' := ?_) #[true, true, true, true, true, true, true, true, true, true, false, false, true, false, false, false] rfl rfl (by kernel_rfl) (fun _ _ _ h => h) (Or.inl ⟨by rfl, ?_⟩) hHeld ?_ ?_
      rotate_left
      · intro w' s0
        obtain ⟨s1, s2⟩ := s0
        go_simp
        with_reducible rfl
      rotate_left
      · simp only [Act.put, List.setIfInBounds_toArray, List.set_cons_zero, List.set_cons_succ, i64_w, i32_w]
        rfl
      refine pure_ (i := 10) (N := some 41) (v := ?_) (a' := ?_) #[true, true, true, true, true, true, true, true, true, true, true, false, true, false, false, false] rfl rfl (by kernel_rfl) (fun _ _ _ h => h) (Or.inl ⟨by rfl, ?_⟩) ?_ ?_
      rotate_left
      · intro w'
        go_simp
        with_reducible rfl
      rotate_left
      · simp only [Act.put, List.setIfInBounds_toArray, List.set_cons_zero, List.set_cons_succ, i64_w, i32_w]
        rfl
      refine take_ (i := 11) (N := some 42) (v := ?_) (a' := ?_) #[true, true, true, true, true, true, true, true, true, true, true, true, true, false, false, false] rfl rfl (by kernel_rfl) (fun _ _ _ h => h) (Or.inl ⟨by rfl, ?_⟩) hHeld ?_ ?_
      rotate_left
      · intro w' s0
        obtain ⟨s1, s2⟩ := s0
        go_simp
        with_reducible rfl
      rotate_left
      · simp only [Act.put, List.setIfInBounds_toArray, List.set_cons_zero, List.set_cons_succ, i64_w, i32_w]
        rfl
      refine one_ (i := 13) (N := some 44) #[true, true, true, true, true, true, true, true, true, true, true, true, true, true, false, false] rfl rfl (by kernel_rfl) (by decide) (fun K hK => ?_)
      refine goes_ Try.func19 (by kernel_rfl) rfl #[.int .u8 y, .int .u8 by_] (by rfl) rfl rfl (by (try simp only [List.map_toArray, List.map_cons, List.map_nil]); first | done | rfl) ?_
      with_reducible refine (field_Mul.calls 1000 y by_ _ _ HM.out).mono ?_
      rintro e w' ⟨rfl, ⟨nd, rfl⟩⟩
      refine ⟨_, rfl, ?_⟩
      refine hK.out _ _ hHeld (fun hHeld => ?_)
      clear hK K
      refine norm_ (a' := ?_) ?_ ?_
      rotate_left
      · show Act.put _ (some 44) _ = _
        simp only [Act.put, List.setIfInBounds_toArray, List.set_cons_zero, List.set_cons_succ, i64_w, i32_w]
        rfl
      refine pure_ (i := 14) (N := some 45) (v := ?_) (a' := ?_) #[true, true, true, true, true, true, true, true, true, true, true, true, true, true, true, false] rfl rfl (by kernel_rfl) (fun _ _ _ h => h) (Or.inl ⟨by rfl, ?_⟩) ?_ ?_
      rotate_left
      · intro w'
        go_simp
        with_reducible rfl
      rotate_left
      · simp only [Act.put, List.setIfInBounds_toArray, List.set_cons_zero, List.set_cons_succ, i64_w, i32_w]
        rfl
      refine last_ (i := 15) (N := none) #[true, true, true, true, true, true, true, true, true, true, true, true, true, true, true, true] rfl rfl (by kernel_rfl) (by decide) (fun K hK => ?_)
      refine skip_ (w1 := ?_) (by rfl) rfl ?_ ?_
      rotate_left
      · go_simp
        rfl
      refine hK.out _ _ ?_
      clear hK K
      refine done_ (by kernel_rfl) ?_
      try go_wp2
      have hw1 := wr1 HLT.out (by have := HRL.out; have := HN.out; omega)
      go_roundw
      case rel => exact ⟨i + 1, HLT.out, by rw [hw1], ⟨HP.out.drewN nd⟩⟩
      case measure => exact meas hw1 HLT.out
    · obtain rfl : i = ra.length := by omega
      rw [scaleTo_all] at HT
      obtain ⟨A9, c9, _, hl9, hh9, _, _⟩ := HT.out.symm.headA' HRX.out
      go_wp2
      go_loopw [52] (fun vi wr => ∃ i : Nat, i ≤ rx.length ∧ vi = .int .i64 (i : Int) ∧ Aside0 (Two w0 wr okA okX ga ca ha (a.set c (scaleR ra by_)) gx cx hx (x.set c (scaleTo rx by_ i)))) (fun vi _ => rx.length - (intOf vi).toNat)
      case atStart => exact ⟨0, Nat.zero_le _, rfl, ⟨by rw [scaleTo_zero, set_same HRX.out]; exact HT.out⟩⟩
      case round =>
        obtain ⟨i, hi, rfl, HT⟩ := hrel
        by_cases hlt : i < rx.length
        · have hrow : (x.set c (scaleTo rx by_ i))[c]? = some (scaleTo rx by_ i) := List.getElem?_set_self (by have := HCL.out; omega)
          have hyy : (scaleTo rx by_ i)[i]? = some rx[i] := scaleTo_get rx by_ i hlt
          have hset := scaleTo_set rx by_ i hlt
          have hin : In8 rx[i] := HEX.out _ (List.getElem_mem hlt)
          obtain ⟨y, hy⟩ : ∃ y, y = rx[i] := ⟨_, rfl⟩
          rw [← hy] at hyy hset hin
          have HM := Aside0.mk (Mul_z (k := 1000) hin HBY.out (by omega))
          have HSET := Aside0.mk hset
          have HLT := Aside0.mk hlt
          clear hset hin hy hi
          try go_wp2
          obtain ⟨g, cp, h1, h2, hcellh, hcelle, hfr, hput⟩ := (HT.out.drew.symm).cellA' hrow hyy
          rw [scaleTo_length rx by_ i (by have := HLT.out; omega)] at hcellh h1 h2
          have hput2 := hput (mulZ y by_)
          rw [HSET.out, List.set_set] at hput2
          clear hput
          have HP := Aside0.mk hput2.symm
          clear hput2
          have hq : (i : Int) < ((rx.length : Int)) := by have := HLT.out; omega
          have hq0 : (0 : Int) ≤ (i : Int) := by omega
          refine start_ (n := 16) (S := fun w' => w'.cell? ⟨gx, c, none⟩ = some (.slice (some ⟨g, 0, none⟩) rx.length cp) ∧ w'.cell? ⟨g, i, none⟩ = some (.int .u8 y)) (ds := [15]) #[false, false, false, false, false, false, false, false, false, false, false, false, false, false, false, false] (by kernel_rfl) rfl rfl ⟨hcellh, hcelle⟩ (fun hHeld => ?_)
          generalize wr.drew = w11 at hcellh hcelle hfr HP hHeld ⊢
          refine pure_ (i := 0) (N := some 55) (v := ?_) (a' := ?_) #[true, false, false, false, false, false, false, false, false, false, false, false, false, false, false, false] rfl rfl (by kernel_rfl) (fun _ _ _ h => h) (Or.inl ⟨by rfl, ?_⟩) ?_ ?_
          rotate_left
          · intro w'
            go_simp
            with_reducible rfl
          rotate_left
          · simp only [Act.put, List.setIfInBounds_toArray, List.set_cons_zero, List.set_cons_succ, i64_w, i32_w]
            rfl
          refine pure_ (i := 1) (N := some 56) (v := ?_) (a' := ?_) #[true, true, false, false, false, false, false, false, false, false, false, false, false, false, false, false] rfl rfl (by kernel_rfl) (fun _ _ _ h => h) (Or.inl ⟨by rfl, ?_⟩) ?_ ?_
          rotate_left
          · intro w'
            go_simp
            with_reducible rfl
          rotate_left
          · simp only [Act.put, List.setIfInBounds_toArray, List.set_cons_zero, List.set_cons_succ, i64_w, i32_w]
            rfl
          refine pure_ (i := 2) (N := some 57) (v := ?_) (a' := ?_) #[true, true, true, false, false, false, false, false, false, false, false, false, false, false, false, false] rfl rfl (by kernel_rfl) (fun _ _ _ h => h) (Or.inl ⟨by rfl, ?_⟩) ?_ ?_
          rotate_left
          · intro w'
            go_simp
            with_reducible rfl
          rotate_left
          · simp only [Act.put, List.setIfInBounds_toArray, List.set_cons_zero, List.set_cons_succ, i64_w, i32_w]
            rfl
          refine pure_ (i := 4) (N := some 59) (v := ?_) (a' := ?_) #[true, true, true, false, true, false, false, false, false, false, false, false, false, false, false, false] rfl rfl (by kernel_rfl) (fun _ _ _ h => h) (Or.inl ⟨by rfl, ?_⟩) ?_ ?_
          rotate_left
          · intro w'
            go_simp
            with_reducible rfl
          rotate_left
          · simp only [Act.put, List.setIfInBounds_toArray, List.set_cons_zero, List.set_cons_succ, i64_w, i32_w]
            rfl
          refine pure_ (i := 5) (N := some 60) (v := ?_) (a' := ?_) #[true, true, true, false, true, true, false, false, false, false, false, false, false, false, false, false] rfl rfl (by kernel_rfl) (fun _ _ _ h => h) (Or.inl ⟨by rfl, ?_⟩) ?_ ?_
          rotate_left
          · intro w'
            go_simp
            with_reducible rfl
          rotate_left
          · simp only [Act.put, List.setIfInBounds_toArray, List.set_cons_zero, List.set_cons_succ, i64_w, i32_w]
            rfl
          refine pure_ (i := 6) (N := some 61) (v := ?_) (a' := ?_) #[true, true, true, false, true, true, true, false, false, false, false, false, false, false, false, false] rfl rfl (by kernel_rfl) (fun _ _ _ h => h) (Or.inl ⟨by rfl, ?_⟩) ?_ ?_
          rotate_left
          · intro w'
            go_simp
            with_reducible rfl
          rotate_left
          · simp only [Act.put, List.setIfInBounds_toArray, List.set_cons_zero, List.set_cons_succ, i64_w, i32_w]
            rfl
          refine pure_ (i := 7) (N := some 62) (v := ?_) (a' := ?_) #[true, true, true, false, true, true, true, true, false, false, false, false, false, false, false, false] rfl rfl (by kernel_rfl) (fun _ _ _ h => h) (Or.inl ⟨by rfl, ?_⟩) ?_ ?_
          rotate_left
          · intro w'
            go_simp
            with_reducible rfl
          rotate_left
          · simp only [Act.put, List.setIfInBounds_toArray, List.set_cons_zero, List.set_cons_succ, i64_w, i32_w]
            rfl
          refine pure_ (i := 9) (N := some 64) (v := ?_) (a' := ?_) #[true, true, true, false, true, true, true, true, false, true, false, false, false, false, false, false] rfl rfl (by kernel_rfl) (fun _ _ _ h => h) (Or.inl ⟨by rfl, ?_⟩) ?_ ?_
          rotate_left
          · intro w'
            go_simp
            with_reducible rfl
          rotate_left
          · simp only [Act.put, List.setIfInBounds_toArray, List.set_cons_zero, List.set_cons_succ, i64_w, i32_w]
            rfl
          refine pure_ (i := 12) (N := some 67) (v := ?_) (a' := ?_) #[true, true, true, false, true, true, true, true, false, true, false, false, true, false, false, false] rfl rfl (by kernel_rfl) (fun _ _ _ h => h) (Or.inl ⟨by rfl, ?_⟩) ?_ ?_
          rotate_left
          · intro w'
            go_simp
            with_reducible rfl
          rotate_left
          · simp only [Act.put, List.setIfInBounds_toArray, List.set_cons_zero, List.set_cons_succ, i64_w, i32_w]
            rfl
          refine take_ (i := 3) (N := some 58) (v := ?_) (a' := ?_) #[true, true, true, true, true, true, true, true, false, true, false, false, true, false, false, false] rfl rfl (by kernel_rfl) (fun _ _ _ h => h) (Or.inl ⟨by rfl, ?_⟩) hHeld ?_ ?_
          rotate_left
          · intro w' s0
            obtain ⟨s1, s2⟩ := s0
            go_simp
            with_reducible rfl
          rotate_left
          · simp only [Act.put, List.setIfInBounds_toArray, List.set_cons_zero, List.set_cons_succ, i64_w, i32_w]
            rfl
          refine take_ (i := 8) (N := some 63) (v := ?_) (a' := ?_) #[true, true, true, true, true, true, true, true, true, true, false, false, true, false, false, false] rfl rfl (by kernel_rfl) (fun _ _ _ h => h) (Or.inl ⟨by rfl, ?_⟩) hHeld ?_ ?_
          rotate_left
          · intro w' s0
            obtain ⟨s1, s2⟩ := s0
            go_simp
            with_reducible rfl
          rotate_left
          · simp only [Act.put, List.setIfInBounds_toArray, List.set_cons_zero, List.set_cons_succ, i64_w, i32_w]
            rfl
          refine pure_ (i := 10) (N := some 65) (v := ?_) (a' := ?_) #[true, true, true, true, true, true, true, true, true, true, true, false, true, false, false, false] rfl rfl (by kernel_rfl) (fun _ _ _ h => h) (Or.inl ⟨by rfl, ?_⟩) ?_ ?_
          rotate_left
          · intro w'
            go_simp
            with_reducible rfl
          rotate_left
          · simp only [Act.put, List.setIfInBounds_toArray, List.set_cons_zero, List.set_cons_succ, i64_w, i32_w]
            rfl
          refine take_ (i := 11) (N := some 66) (v := ?_) (a' := ?_) #[true, true, true, true, true, true, true, true, true, true, true, true, true, false, false, false] rfl rfl (by kernel_rfl) (fun _ _ _ h => h) (Or.inl ⟨by rfl, ?_⟩) hHeld ?_ ?_
          rotate_left
          · intro w' s0
            obtain ⟨s1, s2⟩ := s0
            go_simp
            with_reducible rfl
          rotate_left
          · simp only [Act.put, List.setIfInBounds_toArray, List.set_cons_zero, List.set_cons_succ, i64_w, i32_w]
            rfl
          refine one_ (i := 13) (N := some 68) #[true, true, true, true, true, true, true, true, true, true, true, true, true, true, false, false] rfl rfl (by kernel_rfl) (by decide) (fun K hK => ?_)
          refine goes_ Try.func19 (by kernel_rfl) rfl #[.int .u8 y, .int .u8 by_] (by rfl) rfl rfl (by (try simp only [List.map_toArray, List.map_cons, List.map_nil]); first | done | rfl) ?_
          with_reducible refine (field_Mul.calls 1000 y by_ _ _ HM.out).mono ?_
          rintro e w' ⟨rfl, ⟨nd, rfl⟩⟩
          refine ⟨_, rfl, ?_⟩
          refine hK.out _ _ hHeld (fun hHeld => ?_)
          clear hK K
          refine norm_ (a' := ?_) ?_ ?_
          rotate_left
          · show Act.put _ (some 68) _ = _
            simp only [Act.put, List.setIfInBounds_toArray, List.set_cons_zero, List.set_cons_succ, i64_w, i32_w]
            rfl
          refine pure_ (i := 14) (N := some 69) (v := ?_) (a' := ?_) #[true, true, true, true, true, true, true, true, true, true, true, true, true, true, true, false] rfl rfl (by kernel_rfl) (fun _ _ _ h => h) (Or.inl ⟨by rfl, ?_⟩) ?_ ?_
          rotate_left
          · intro w'
            go_simp
            with_reducible rfl
          rotate_left
          · simp only [Act.put, List.setIfInBounds_toArray, List.set_cons_zero, List.set_cons_succ, i64_w, i32_w]
            rfl
          refine last_ (i := 15) (N := none) #[true, true, true, true, true, true, true, true, true, true, true, true, true, true, true, true] rfl rfl (by kernel_rfl) (by decide) (fun K hK => ?_)
          refine skip_ (w1 := ?_) (by rfl) rfl ?_ ?_
          rotate_left
          · go_simp
            rfl
          refine hK.out _ _ ?_
          clear hK K
          refine done_ (by kernel_rfl) ?_
          try go_wp2
          have hw1 := wr1 HLT.out (by have := HXL.out; have := HN.out; omega)
          go_roundw
          case rel => exact ⟨i + 1, HLT.out, by rw [hw1], ⟨HP.out.drewN nd⟩⟩
          case measure => exact meas hw1 HLT.out
        · obtain rfl : i = rx.length := by omega
          rw [scaleTo_all] at HT
          go_wp2
          have HCN := Aside0.mk (show c < n by have := HCL.out; have := HSA.out.len; omega)
          obtain ⟨q0, hq0⟩ : ∃ q0, q0 = (a.set c (scaleR ra by_), x.set c (scaleR rx by_)) := ⟨_, rfl⟩
          have SQ := Aside0.mk (show Sh n n q0.1 ∧ Sh n nx q0.2 by
            rw [hq0]
            exact ⟨HSA.out.set c (by rw [scaleR_length]; exact HRL.out) (scaleR_in _ _ HEA.out), HSX.out.set c (by rw [scaleR_length]; exact HXL.out) (scaleR_in _ _ HEX.out)⟩)
          have HT2 := Aside0.mk (show Two w0 wr okA okX ga ca ha q0.1 gx cx hx q0.2 by rw [hq0]; exact HT.out)
          have HQ0 := Aside0.mk hq0
          clear hq0
          go_loopw [73] (fun vi wr => ∃ k : Nat, k ≤ n ∧ vi = .int .i64 (k : Int) ∧ Aside0 (Two w0 wr okA okX ga ca ha (elim c k q0).1 gx cx hx (elim c k q0).2)) (fun vi _ => n - (intOf vi).toNat)
          case atStart => exact ⟨0, Nat.zero_le _, rfl, HT2⟩
          case round =>
            obtain ⟨k, hk, rfl, HT3⟩ := hrel
            by_cases hlt : k < n
            · obtain ⟨hsa, hsx⟩ := elim_sh SQ.out.1 SQ.out.2 HCN.out k hk
              obtain ⟨r1, f1, l1, i1⟩ := hsa.at_ hlt
              obtain ⟨r2, f2, l2, i2⟩ := hsa.at_ HCN.out
              obtain ⟨s1, g1, m1, j1⟩ := hsx.at_ hlt
              obtain ⟨s2, g2, m2, j2⟩ := hsx.at_ HCN.out
              obtain ⟨y, hy⟩ : ∃ y, r1[c]? = some y := ⟨_, List.getElem?_eq_getElem (by have := HCN.out; omega)⟩
              have hy8 := i1 y (List.mem_of_getElem? hy)
              have hstep : elim c (k + 1) q0 = if k ≠ c ∧ y ≠ 0 then ((elim c k q0).1.set k (addR r1 r2 y), (elim c k q0).2.set k (addR s1 s2 y)) else elim c k q0 := by
                show elimStep c k (elim c k q0) = _
                unfold elimStep
                rw [rowZ f1, rowZ f2, rowZ g1, rowZ g2, elZ hy]
              generalize elim c k q0 = q at HT3 f1 f2 g1 g2 hstep hsa hsx
              clear hsa hsx
              have hadd1 : y ≠ 0 → field_add.f 1000000000000000 r1 r2 y = some (addR r1 r2 y) := fun h0 => add_f _ r1 r2 y hy8 h0 i1 i2 (by have := HN.out; omega) (by omega) (by have := HN.out; omega)
              have hadd2 : y ≠ 0 → field_add.f 1000000000000000 s1 s2 y = some (addR s1 s2 y) := fun h0 => add_f _ s1 s2 y hy8 h0 j1 j2 (by have := HN.out; omega) (by omega) (by have := HN.out; omega)
              have HA1 := Aside0.mk hadd1
              have HA2 := Aside0.mk hadd2
              have HST := Aside0.mk hstep
              have HF1 := Aside0.mk f1
              have HF2 := Aside0.mk f2
              have HG1 := Aside0.mk g1
              have HG2 := Aside0.mk g2
              have HLT := Aside0.mk hlt
              have hq2 : (k : Int) < (n : Int) := by omega
              have hq1 : (0 : Int) ≤ (k : Int) := by omega
              have hq3 : (c : Int) < (r1.length : Int) := by have := HCN.out; omega
              obtain ⟨b1, d1, e1, _, ch1, ce1, _, _⟩ := HT3.out.cellA' f1 hy
              have hw1 := Aside0.mk (wr1 hlt (by have := HN.out; omega))
              clear hadd1 hadd2 hstep f1 f2 g1 g2 l1 l2 m1 m2 i1 i2 j1 j2 hy8 hy hlt hk
              by_cases hkc : k = c
              · subst hkc
                rw [if_neg (by simp)] at HST
                go_wp2
                go_roundw
                case rel => exact ⟨k + 1, HLT.out, by rw [hw1.out], ⟨by rw [HST.out]; exact HT3.out⟩⟩
                case measure => exact meas hw1.out HLT.out
              · by_cases hy0 : y = 0
                · subst hy0
                  rw [if_neg (by simp)] at HST
                  have hb1 : ((k : Int) != (c : Int)) = true := bne_iff_ne.mpr (by omega)
                  go_wp2
                  go_roundw
                  case rel => exact ⟨k + 1, HLT.out, by rw [hw1.out], ⟨by rw [HST.out]; exact HT3.out⟩⟩
                  case measure => exact meas hw1.out HLT.out
                · rw [if_pos ⟨hkc, hy0⟩] at HST
                  have hb1 : ((k : Int) != (c : Int)) = true := bne_iff_ne.mpr (by omega)
                  have hb2 : (y != 0) = true := bne_iff_ne.mpr hy0
                  have HKC := Aside0.mk hkc
                  have HY0 := Aside0.mk hy0
                  clear hkc hy0
                  obtain ⟨A1, c1, e1, _, hh1', _, _⟩ := HT3.out.headA' HF1.out
                  obtain ⟨A2, c2, e2, hl2, hh2', _, _⟩ := HT3.out.headA' HF2.out
                  have hq4 : (c : Int) < (n : Int) := by have := HCN.out; omega
                  go_wp2_with (fail)
                  refine start_ (n := 10) (S := fun w' => w'.cell? ⟨ga, k, none⟩ = some (.slice A1 r1.length c1) ∧ w'.cell? ⟨ga, c, none⟩ = some (.slice A2 r2.length c2)) (ds := [9]) #[false, false, false, false, false, false, false, false, false, false] (by kernel_rfl) rfl rfl ⟨hh1', hh2'⟩ (fun hHeld => ?_)
                  refine pure_ (i := 0) (N := some 90) (v := ?_) (a' := ?_) #[true, false, false, false, false, false, false, false, false, false] rfl rfl (by kernel_rfl) (fun _ _ _ h => h) (Or.inl ⟨by rfl, ?_⟩) ?_ ?_
                  rotate_left
                  · intro w'
                    go_simp
                    with_reducible rfl
                  rotate_left
                  · simp only [Act.put, List.setIfInBounds_toArray, List.set_cons_zero, List.set_cons_succ, i64_w, i32_w]
                    rfl
                  refine pure_ (i := 1) (N := some 91) (v := ?_) (a' := ?_) #[true, true, false, false, false, false, false, false, false, false] rfl rfl (by kernel_rfl) (fun _ _ _ h => h) (Or.inl ⟨by rfl, ?_⟩) ?_ ?_
                  rotate_left
                  · intro w'
                    go_simp
                    with_reducible rfl
                  rotate_left
                  · simp only [Act.put, List.setIfInBounds_toArray, List.set_cons_zero, List.set_cons_succ, i64_w, i32_w]
                    rfl
                  refine pure_ (i := 2) (N := some 92) (v := ?_) (a' := ?_) #[true, true, true, false, false, false, false, false, false, false] rfl rfl (by kernel_rfl) (fun _ _ _ h => h) (Or.inl ⟨by rfl, ?_⟩) ?_ ?_
                  rotate_left
                  · intro w'
                    go_simp
                    with_reducible rfl
                  rotate_left
                  · simp only [Act.put, List.setIfInBounds_toArray, List.set_cons_zero, List.set_cons_succ, i64_w, i32_w]
                    rfl
                  refine pure_ (i := 4) (N := some 94) (v := ?_) (a' := ?_) #[true, true, true, false, true, false, false, false, false, false] rfl rfl (by kernel_rfl) (fun _ _ _ h => h) (Or.inl ⟨by rfl, ?_⟩) ?_ ?_
                  rotate_left
                  · intro w'
                    go_simp
                    with_reducible rfl
                  rotate_left
                  · simp only [Act.put, List.setIfInBounds_toArray, List.set_cons_zero, List.set_cons_succ, i64_w, i32_w]
                    rfl
                  refine pure_ (i := 5) (N := some 95) (v := ?_) (a' := ?_) #[true, true, true, false, true, true, false, false, false, false] rfl rfl (by kernel_rfl) (fun _ _ _ h => h) (Or.inl ⟨by rfl, ?_⟩) ?_ ?_
                  rotate_left
                  · intro w'
                    go_simp
                    with_reducible rfl
                  rotate_left
                  · simp only [Act.put, List.setIfInBounds_toArray, List.set_cons_zero, List.set_cons_succ, i64_w, i32_w]
                    rfl
                  refine pure_ (i := 6) (N := some 96) (v := ?_) (a' := ?_) #[true, true, true, false, true, true, true, false, false, false] rfl rfl (by kernel_rfl) (fun _ _ _ h => h) (Or.inl ⟨by rfl, ?_⟩) ?_ ?_
                  rotate_left
                  · intro w'
                    go_simp
                    with_reducible rfl
                  rotate_left
                  · simp only [Act.put, List.setIfInBounds_toArray, List.set_cons_zero, List.set_cons_succ, i64_w, i32_w]
                    rfl
                  refine pure_ (i := 8) (N := some 98) (v := ?_) (a' := ?_) #[true, true, true, false, true, true, true, false, true, false] rfl rfl (by kernel_rfl) (fun _ _ _ h => h) (Or.inl ⟨by rfl, ?_⟩) ?_ ?_
                  rotate_left
                  · intro w'
                    go_simp
                    with_reducible rfl
                  rotate_left
                  · simp only [Act.put, List.setIfInBounds_toArray, List.set_cons_zero, List.set_cons_succ, i64_w, i32_w]
                    rfl
                  refine take_ (i := 3) (N := some 93) (v := ?_) (a' := ?_) #[true, true, true, true, true, true, true, false, true, false] rfl rfl (by kernel_rfl) (fun _ _ _ h => h) (Or.inl ⟨by rfl, ?_⟩) hHeld ?_ ?_
                  rotate_left
                  · intro w' s0
                    obtain ⟨s1, s2⟩ := s0
                    go_simp
                    with_reducible rfl
                  rotate_left
                  · simp only [Act.put, List.setIfInBounds_toArray, List.set_cons_zero, List.set_cons_succ, i64_w, i32_w]
                    rfl
                  refine take_ (i := 7) (N := some 97) (v := ?_) (a' := ?_) #[true, true, true, true, true, true, true, true, true, false] rfl rfl (by kernel_rfl) (fun _ _ _ h => h) (Or.inl ⟨by rfl, ?_⟩) hHeld ?_ ?_
                  rotate_left
                  · intro w' s0
                    obtain ⟨s1, s2⟩ := s0
                    go_simp
                    with_reducible rfl
                  rotate_left
                  · simp only [Act.put, List.setIfInBounds_toArray, List.set_cons_zero, List.set_cons_succ, i64_w, i32_w]
                    rfl
                  refine last_ (i := 9) (N := some 99) #[true, true, true, true, true, true, true, true, true, true] rfl rfl (by kernel_rfl) (by decide) (fun K hK => ?_)
                  refine goes_ Try.func56 (by kernel_rfl) rfl #[.slice A1 r1.length c1, .slice A2 r2.length c2, .int .u8 y] (by rfl) rfl rfl (by (try simp only [List.map_toArray, List.map_cons, List.map_nil]); first | done | rfl) ?_
                  refine ((HT3.out.drew).addA HKC.out HF1.out HF2.out e1 e2 hl2 (HA1.out HY0.out)).mono ?_
                  rintro e w2 ⟨rfl, hT2⟩
                  refine ⟨_, rfl, ?_⟩
                  refine hK.out _ _ ?_
                  clear hK K hHeld
                  have HT4 := Aside0.mk (hT2)
                  clear hT2
                  refine done_ (by kernel_rfl) ?_
                  obtain ⟨A3, c3, e3, _, hh3, _, _⟩ := HT4.out.symm.headA' HG1.out
                  obtain ⟨A4, c4, e4, hl4, hh4, _, _⟩ := HT4.out.symm.headA' HG2.out
                  clear hh1' hh2' ch1 ce1
                  go_wp2_with (fail)
                  refine start_ (n := 10) (S := fun w' => w'.cell? ⟨gx, k, none⟩ = some (.slice A3 s1.length c3) ∧ w'.cell? ⟨gx, c, none⟩ = some (.slice A4 s2.length c4)) (ds := [9]) #[false, false, false, false, false, false, false, false, false, false] (by kernel_rfl) rfl rfl ⟨hh3, hh4⟩ (fun hHeld => ?_)
                  refine pure_ (i := 0) (N := some 100) (v := ?_) (a' := ?_) #[true, false, false, false, false, false, false, false, false, false] rfl rfl (by kernel_rfl) (fun _ _ _ h => h) (Or.inl ⟨by rfl, ?_⟩) ?_ ?_
                  rotate_left
                  · intro w'
                    go_simp
                    with_reducible rfl
                  rotate_left
                  · simp only [Act.put, List.setIfInBounds_toArray, List.set_cons_zero, List.set_cons_succ, i64_w, i32_w]
                    rfl
                  refine pure_ (i := 1) (N := some 101) (v := ?_) (a' := ?_) #[true, true, false, false, false, false, false, false, false, false] rfl rfl (by kernel_rfl) (fun _ _ _ h => h) (Or.inl ⟨by rfl, ?_⟩) ?_ ?_
                  rotate_left
                  · intro w'
                    go_simp
                    with_reducible rfl
                  rotate_left
                  · simp only [Act.put, List.setIfInBounds_toArray, List.set_cons_zero, List.set_cons_succ, i64_w, i32_w]
                    rfl
                  refine pure_ (i := 2) (N := some 102) (v := ?_) (a' := ?_) #[true, true, true, false, false, false, false, false, false, false] rfl rfl (by kernel_rfl) (fun _ _ _ h => h) (Or.inl ⟨by rfl, ?_⟩) ?_ ?_
                  rotate_left
                  · intro w'
                    go_simp
                    with_reducible rfl
                  rotate_left
                  · simp only [Act.put, List.setIfInBounds_toArray, List.set_cons_zero, List.set_cons_succ, i64_w, i32_w]
                    rfl
                  refine pure_ (i := 4) (N := some 104) (v := ?_) (a' := ?_) #[true, true, true, false, true, false, false, false, false, false] rfl rfl (by kernel_rfl) (fun _ _ _ h => h) (Or.inl ⟨by rfl, ?_⟩) ?_ ?_
                  rotate_left
                  · intro w'
                    go_simp
                    with_reducible rfl
                  rotate_left
                  · simp only [Act.put, List.setIfInBounds_toArray, List.set_cons_zero, List.set_cons_succ, i64_w, i32_w]
                    rfl
                  refine pure_ (i := 5) (N := some 105) (v := ?_) (a' := ?_) #[true, true, true, false, true, true, false, false, false, false] rfl rfl (by kernel_rfl) (fun _ _ _ h => h) (Or.inl ⟨by rfl, ?_⟩) ?_ ?_
                  rotate_left
                  · intro w'
                    go_simp
                    with_reducible rfl
                  rotate_left
                  · simp only [Act.put, List.setIfInBounds_toArray, List.set_cons_zero, List.set_cons_succ, i64_w, i32_w]
                    rfl
                  refine pure_ (i := 6) (N := some 106) (v := ?_) (a' := ?_) #[true, true, true, false, true, true, true, false, false, false] rfl rfl (by kernel_rfl) (fun _ _ _ h => h) (Or.inl ⟨by rfl, ?_⟩) ?_ ?_
                  rotate_left
                  · intro w'
                    go_simp
                    with_reducible rfl
                  rotate_left
                  · simp only [Act.put, List.setIfInBounds_toArray, List.set_cons_zero, List.set_cons_succ, i64_w, i32_w]
                    rfl
                  refine pure_ (i := 8) (N := some 108) (v := ?_) (a' := ?_) #[true, true, true, false, true, true, true, false, true, false] rfl rfl (by kernel_rfl) (fun _ _ _ h => h) (Or.inl ⟨by rfl, ?_⟩) ?_ ?_
                  rotate_left
                  · intro w'
                    go_simp
                    with_reducible rfl
                  rotate_left
                  · simp only [Act.put, List.setIfInBounds_toArray, List.set_cons_zero, List.set_cons_succ, i64_w, i32_w]
                    rfl
                  refine take_ (i := 3) (N := some 103) (v := ?_) (a' := ?_) #[true, true, true, true, true, true, true, false, true, false] rfl rfl (by kernel_rfl) (fun _ _ _ h => h) (Or.inl ⟨by rfl, ?_⟩) hHeld ?_ ?_
                  rotate_left
                  · intro w' s0
                    obtain ⟨s1, s2⟩ := s0
                    go_simp
                    with_reducible rfl
                  rotate_left
                  · simp only [Act.put, List.setIfInBounds_toArray, List.set_cons_zero, List.set_cons_succ, i64_w, i32_w]
                    rfl
                  refine take_ (i := 7) (N := some 107) (v := ?_) (a' := ?_) #[true, true, true, true, true, true, true, true, true, false] rfl rfl (by kernel_rfl) (fun _ _ _ h => h) (Or.inl ⟨by rfl, ?_⟩) hHeld ?_ ?_
                  rotate_left
                  · intro w' s0
                    obtain ⟨s1, s2⟩ := s0
                    go_simp
                    with_reducible rfl
                  rotate_left
                  · simp only [Act.put, List.setIfInBounds_toArray, List.set_cons_zero, List.set_cons_succ, i64_w, i32_w]
                    rfl
                  refine last_ (i := 9) (N := some 109) #[true, true, true, true, true, true, true, true, true, true] rfl rfl (by kernel_rfl) (by decide) (fun K hK => ?_)
                  refine goes_ Try.func56 (by kernel_rfl) rfl #[.slice A3 s1.length c3, .slice A4 s2.length c4, .int .u8 y] (by rfl) rfl rfl (by (try simp only [List.map_toArray, List.map_cons, List.map_nil]); first | done | rfl) ?_
                  refine ((HT4.out.symm.drew).addA HKC.out HG1.out HG2.out e3 e4 hl4 (HA2.out HY0.out)).mono ?_
                  rintro e w2 ⟨rfl, hT2⟩
                  refine ⟨_, rfl, ?_⟩
                  refine hK.out _ _ ?_
                  clear hK K hHeld
                  have HT5 := Aside0.mk (hT2.symm)
                  clear hT2
                  refine done_ (by kernel_rfl) ?_
                  go_wp2
                  go_roundw
                  case rel => exact ⟨k + 1, HLT.out, by rw [hw1.out], ⟨by rw [HST.out]; exact HT5.out⟩⟩
                  case measure => exact meas hw1.out HLT.out
            · obtain rfl : k = n := by omega
              have hfin : elim c k q0 = clearsF k c a x := by
                unfold clearsF
                rw [rowZ HRA.out, rowZ HRX.out, elZ hp, ← HBE.out, HQ0.out]
              have HT4 := Aside0.mk (show Two w0 wr okA okX ga ca ha (clearsF k c a x).1 gx cx hx (clearsF k c a x).2 by rw [← hfin]; exact HT3.out)
              clear hfin
              go_wp2
              first | go_end0 | ((try simp only [Exit.inBlock, Exit.then]); refine bodyPost_ret (results_none rfl _ _ _) rfl ?_)
              exact ⟨rfl, HT4.out⟩
end Go.Proofs.Ytdhajlkiiphlfaa.Solve
