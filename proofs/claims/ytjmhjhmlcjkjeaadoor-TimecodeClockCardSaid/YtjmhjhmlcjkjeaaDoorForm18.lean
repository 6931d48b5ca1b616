/- A part of a proof: see the text's own remark. No conditions beyond its theorems' own. -/
import Derived.Test.YtjmhjhmlcjkjeaaDoorQBaseTimecodeNumbersx1
import Derived.Laws.RangeString
/-! (rate).form, walked: the first byte that is none of a name's -/
namespace Go.Proofs.YtjmhjhmlcjkjeaaDoor.Tab
open Go.RowKit Go.Proofs.YtjmhjhmlcjkjeaaDoorW.PrintWords Go.Proofs.YtjmhjhmlcjkjeaaDoorW.PrintLast Go.Proofs.YtjmhjhmlcjkjeaaDoorW.PrintMore Go.Proofs.YtjmhjhmlcjkjeaaDoor.QBaseTimecodeNumbers
set_option linter.unusedVariables false
set_option linter.unusedSimpArgs false
/-- an object in a block's place -/
def putO (w : World) (g : Nat) (o : Obj) : World := { w with heap := w.heap.setIfInBounds g o }
theorem putO_self {w : World} {g : Nat} {o o' : Obj} (h : w.heap[g]? = some o) : (putO w g o').heap[g]? = some o' := by
  show (w.heap.setIfInBounds g o')[g]? = some o'
  have := (Array.getElem?_eq_some_iff.1 h).1
  simp [this]
theorem putO_ne {w : World} {g k : Nat} {o' : Obj} (h : k ≠ g) : (putO w g o').heap[k]? = w.heap[k]? := by
  show (w.heap.setIfInBounds g o')[k]? = _
  rw [Array.getElem?_setIfInBounds, if_neg (Ne.symm h)]
theorem below_putO {B : Nat} {a w : World} (h : Below B a w) {g : Nat} (hg : B ≤ g) (o : Obj) : Below B a (putO w g o) :=
  h.trans ⟨rfl, rfl, rfl, by simp [putO], fun k hk => putO_ne (by omega)⟩
theorem run_next_at {P : Program} (w : World) (g : Nat) (s : ByteArray) (pos : Nat) (ty : TypeId) (hg : w.heap[g]? = some (.stringIter s pos)) (h : pos < s.size) :
    (Instr.next (.pointer (some ⟨g, 0, none⟩)) true ty).run P w = .ok (.tuple #[.bool true, .int .i64 pos, .int .i32 (Utf8.decode s pos).1]) (putO w g (.stringIter s (pos + (Utf8.decode s pos).2))) := by
  have hlt := (Array.getElem?_eq_some_iff.1 hg).1
  simp only [Instr.next, getObj, setObj, Sem.run_bind, Sem.run, hg, Result.andThen, h, if_true]
  simp [goInt, Sem.run, hg, putO, hlt]
theorem run_next_done {P : Program} (w : World) (g : Nat) (s : ByteArray) (pos : Nat) (ty : TypeId) (hg : w.heap[g]? = some (.stringIter s pos)) (h : ¬ pos < s.size) :
    (Instr.next (.pointer (some ⟨g, 0, none⟩)) true ty).run P w = .ok (.tuple #[.bool false]) w := by
  simp [Instr.next, getObj, Sem.run, hg, h]
def by_ (s : ByteArray) (i : Nat) : Nat := (s.get! i).toNat
theorem decode_low (s : ByteArray) (pos : Nat) (h : by_ s pos < 128) : Utf8.decode s pos = (by_ s pos, 1) := by
  unfold by_ at h ⊢
  simp only [Utf8.decode, Nat.add_zero, h, if_true]
theorem decode_high (s : ByteArray) (pos : Nat) (h : ¬ by_ s pos < 128) : 128 ≤ (Utf8.decode s pos).1 := by
  unfold by_ at h
  simp only [Utf8.decode, Nat.add_zero, h, if_false]
  split
  · split
    · rename_i h2; simpa using h2
    · decide
  · split
    · split
      · rename_i h2; simp only [Bool.and_eq_true, decide_eq_true_eq, ge_iff_le] at h2; exact Nat.le_trans (by decide) h2.1
      · decide
    · split
      · split
        · rename_i h2; simp only [Bool.and_eq_true, decide_eq_true_eq, ge_iff_le] at h2; exact Nat.le_trans (by decide) h2.1
        · decide
      · decide
/-- may a byte stand at a place? -/
def fits (d : Int) (at_ c : Nat) : Bool := if at_ = 8 then c == (if d > 0 then 59 else 58) else if at_ % 3 = 2 then c == 58 else decide (48 ≤ c) && decide (c ≤ 57)
theorem fits_high {d : Int} {at_ c : Nat} (h : 128 ≤ c) : fits d at_ c = false := by
  unfold fits
  split
  · rw [beq_eq_false_iff_ne]; split <;> omega
  · split
    · rw [beq_eq_false_iff_ne]; omega
    · rw [decide_eq_false (show ¬ c ≤ 57 by omega), Bool.and_false]
def formG (d : Int) (s : ByteArray) : Nat → Nat → Int
  | 0, at_ => if at_ < 11 then s.size else -1
  | k + 1, at_ => if at_ = 11 then 11 else if fits d at_ (by_ s at_) then formG d s k (at_ + 1) else at_
def formF (d : Int) (s : ByteArray) : Int := formG d s s.size 0
theorem formG_hit {d : Int} {s : ByteArray} {k : Nat} : formG d s (k + 1) 11 = 11 := by
  show (if (11 : Nat) = 11 then (11 : Int) else _) = 11
  rw [if_pos rfl]
theorem formG_bad {d : Int} {s : ByteArray} {k at_ : Nat} (h : at_ ≠ 11) (hf : fits d at_ (by_ s at_) = false) : formG d s (k + 1) at_ = at_ := by
  show (if at_ = 11 then (11 : Int) else if fits d at_ (by_ s at_) then formG d s k (at_ + 1) else at_) = at_
  rw [if_neg h, hf]; rfl
theorem formG_ok {d : Int} {s : ByteArray} {k at_ : Nat} (h : at_ ≠ 11) (hf : fits d at_ (by_ s at_) = true) : formG d s (k + 1) at_ = formG d s k (at_ + 1) := by
  show (if at_ = 11 then (11 : Int) else if fits d at_ (by_ s at_) then formG d s k (at_ + 1) else at_) = _
  rw [if_neg h, hf]; rfl
theorem meas18 {n i : Nat} {x : Int} (h : x = ((i + 1 : Nat) : Int)) (hl : i < n) : n - (intOf (.int .i64 x)).toNat < n - (intOf (.int .i64 (i : Int))).toNat := by subst h; simp only [intOf, Int.toNat_natCast]; omega
theorem mark_f (a b c d : Int) : timecode_rate_mark.f a b c d = some (if d > 0 then 59 else 58) := by
  unfold timecode_rate_mark.f
  split <;> rfl
set_option maxHeartbeats 1600000 in
set_option maxRecDepth 100000 in
theorem form_calls (a b c d : Int) (s : ByteArray) (hs : s.size ≤ 140737488355328) (w : World) :
    Calls Tryd.prog 46 #[.agg #[.int .i64 a, .int .i64 b, .int .i64 c, .int .i64 d], .string s] w fun e w' => e = .returned (.int .i64 (formF d s)) ∧ Below w.heap.size w w' := by
  have HS := Aside0.mk hs
  obtain ⟨F, hF⟩ : ∃ F, F = formF d s := ⟨_, rfl⟩
  have HF0 : Aside0 (formG d s (s.size - 0) 0 = F) := ⟨hF.symm⟩
  rw [← hF]
  clear hs hF
  have hu54 := Tryd.underlying54
  go_enter Tryd.func46, Tryd.ntmps46
  go_wp2
  go_loopw [5, 6, 7] (fun v5 _ _ wr => ∃ at_ : Nat, at_ ≤ 11 ∧ at_ ≤ s.size ∧ v5 = .int .i64 (at_ : Int) ∧ Aside0 (wr.heap[w.heap.size + 1]? = some (.stringIter s at_)) ∧ Aside0 (wr.heap[w.heap.size]? = some (.cells #[.int .i64 a, .int .i64 b, .int .i64 c, .int .i64 d] 54 (0, 0))) ∧ Aside0 (Below w.heap.size w wr) ∧ Aside0 (formG d s (s.size - at_) at_ = F)) (fun v5 _ _ _ => s.size - (intOf v5).toNat)
  case atStart =>
    refine ⟨0, by omega, by omega, rfl, ⟨?_⟩, ⟨?_⟩, ⟨?_⟩, HF0⟩
    · have := World.iter_heap (w.alloc (.cells #[.int .i64 a, .int .i64 b, .int .i64 c, .int .i64 d] 54)) s 0
      simpa using this
    · exact blk_alloc (blk_new w _) _
    · exact below_alloc (below_alloc (Below.refl _ _) _) _
  case round =>
    clear HF0
    obtain ⟨at_, h11, hsz, rfl, HI, HBX, HB, HF⟩ := hrel
    by_cases hlt : at_ < s.size
    · have hnext := run_next_at (P := Tryd.prog) wr (w.heap.size + 1) s at_ 0 HI.out hlt
      have HSTEP : Aside0 (s.size - at_ = (s.size - (at_ + 1)) + 1) := ⟨by omega⟩
      by_cases h11e : at_ = 11
      · subst h11e
        have hF : F = 11 := by rw [← HF.out, HSTEP.out]; exact formG_hit
        subst hF
        go_wp2
        go_ret
        exact ⟨rfl, by repeat (first | (with_reducible first | exact HB.out | apply below_alloc | apply pw_below_drewN | apply below_drew1 | refine below_putO ?_ (Nat.le_succ _) _) | exact HB.out)⟩
      · have c1 : ((at_ : Int) == 11) = false := beq_eq_false_iff_ne.mpr (by omega)
        obtain ⟨z, hz⟩ : ∃ z, z = (Utf8.decode s at_).1 := ⟨_, rfl⟩
        obtain ⟨m, hm⟩ : ∃ m, m = (Utf8.decode s at_).2 := ⟨_, rfl⟩
        rw [← hz, ← hm] at hnext
        have hgo : Aside0 (fits d at_ z = true → m = 1 ∧ fits d at_ (by_ s at_) = true) := ⟨fun hf => by
          by_cases hb : by_ s at_ < 128
          · rw [decode_low s at_ hb] at hz hm
            exact ⟨hm, by rw [← (show z = by_ s at_ from hz)]; exact hf⟩
          · rw [fits_high (by rw [hz]; exact decode_high s at_ hb)] at hf; cases hf⟩
        have hst : Aside0 (fits d at_ z = false → F = at_) := ⟨fun hf => by
          rw [← HF.out, HSTEP.out]
          refine formG_bad h11e ?_
          by_cases hb : by_ s at_ < 128
          · rw [decode_low s at_ hb] at hz
            rw [← (show z = by_ s at_ from hz)]; exact hf
          · unfold fits
            have h128 : 128 ≤ by_ s at_ := by omega
            exact fits_high h128⟩
        clear hz hm
        by_cases h8 : at_ = 8
        · subst h8
          have q0 : (putO wr (w.heap.size + 1) (.stringIter s (8 + m))).cell? ⟨w.heap.size, 0, none⟩ = some (.int .i64 a) := blk_cell ((putO_ne (by omega)).trans HBX.out) 0
          have q1 : (putO wr (w.heap.size + 1) (.stringIter s (8 + m))).cell? ⟨w.heap.size, 1, none⟩ = some (.int .i64 b) := blk_cell ((putO_ne (by omega)).trans HBX.out) 1
          have q2 : (putO wr (w.heap.size + 1) (.stringIter s (8 + m))).cell? ⟨w.heap.size, 2, none⟩ = some (.int .i64 c) := blk_cell ((putO_ne (by omega)).trans HBX.out) 2
          have q3 : (putO wr (w.heap.size + 1) (.stringIter s (8 + m))).cell? ⟨w.heap.size, 3, none⟩ = some (.int .i64 d) := blk_cell ((putO_ne (by omega)).trans HBX.out) 3
          by_cases hd : d > 0
          · have hmk : timecode_rate_mark.f a b c d = some 59 := by rw [mark_f, if_pos hd]
            by_cases hzm : z = 59
            · have hf : fits d 8 z = true := by unfold fits; rw [if_pos rfl, hzm, if_pos hd]; rfl
              obtain ⟨rfl, hfit⟩ := hgo.out hf
              subst hzm
              clear hgo hst hf hd
              go_wp2_with (first | (go_at_call 30; (with_reducible refine (timecode_rate_mark.calls a b c d 59 _ hmk).mono ?_); rintro e w' ⟨rfl, hb⟩; have HB2 := Aside0.mk (below_step (below_putO HB.out (Nat.le_succ _) _) hb); have HI2 := Aside0.mk (blk_below (putO_self HI.out) hb); have HBX2 := Aside0.mk (blk_below ((putO_ne (by omega)).trans HBX.out) hb); clear hb))
              go_roundw
              case rel => exact ⟨9, by omega, by omega, by congr 1, ⟨HI2.out⟩, ⟨HBX2.out⟩, ⟨HB2.out⟩, ⟨by rw [← HF.out, HSTEP.out]; exact (formG_ok h11e hfit).symm⟩⟩
              case measure => exact meas18 (i := 8) (by omega) hlt
            · have hf : fits d 8 z = false := by unfold fits; rw [if_pos rfl, if_pos hd]; exact beq_eq_false_iff_ne.mpr hzm
              have hF := hst.out hf
              have c4 : ((z : Int) != 59) = true := bne_iff_ne.mpr (by omega)
              subst hF
              clear hgo hst hf hd
              go_wp2_with (first | (go_at_call 30; (with_reducible refine (timecode_rate_mark.calls a b c d 59 _ hmk).mono ?_); rintro e w' ⟨rfl, hb⟩; have HB2 := Aside0.mk (below_step (below_putO HB.out (Nat.le_succ _) _) hb); have HI2 := Aside0.mk (blk_below (putO_self HI.out) hb); have HBX2 := Aside0.mk (blk_below ((putO_ne (by omega)).trans HBX.out) hb); clear hb))
              go_ret
              exact ⟨rfl, HB2.out⟩
          · have hmk : timecode_rate_mark.f a b c d = some 58 := by rw [mark_f, if_neg hd]
            by_cases hzm : z = 58
            · have hf : fits d 8 z = true := by unfold fits; rw [if_pos rfl, hzm, if_neg hd]; rfl
              obtain ⟨rfl, hfit⟩ := hgo.out hf
              subst hzm
              clear hgo hst hf hd
              go_wp2_with (first | (go_at_call 30; (with_reducible refine (timecode_rate_mark.calls a b c d 58 _ hmk).mono ?_); rintro e w' ⟨rfl, hb⟩; have HB2 := Aside0.mk (below_step (below_putO HB.out (Nat.le_succ _) _) hb); have HI2 := Aside0.mk (blk_below (putO_self HI.out) hb); have HBX2 := Aside0.mk (blk_below ((putO_ne (by omega)).trans HBX.out) hb); clear hb))
              go_roundw
              case rel => exact ⟨9, by omega, by omega, by congr 1, ⟨HI2.out⟩, ⟨HBX2.out⟩, ⟨HB2.out⟩, ⟨by rw [← HF.out, HSTEP.out]; exact (formG_ok h11e hfit).symm⟩⟩
              case measure => exact meas18 (i := 8) (by omega) hlt
            · have hf : fits d 8 z = false := by unfold fits; rw [if_pos rfl, if_neg hd]; exact beq_eq_false_iff_ne.mpr hzm
              have hF := hst.out hf
              have c4 : ((z : Int) != 58) = true := bne_iff_ne.mpr (by omega)
              subst hF
              clear hgo hst hf hd
              go_wp2_with (first | (go_at_call 30; (with_reducible refine (timecode_rate_mark.calls a b c d 58 _ hmk).mono ?_); rintro e w' ⟨rfl, hb⟩; have HB2 := Aside0.mk (below_step (below_putO HB.out (Nat.le_succ _) _) hb); have HI2 := Aside0.mk (blk_below (putO_self HI.out) hb); have HBX2 := Aside0.mk (blk_below ((putO_ne (by omega)).trans HBX.out) hb); clear hb))
              go_ret
              exact ⟨rfl, HB2.out⟩
        · have c2 : ((at_ : Int) == 8) = false := beq_eq_false_iff_ne.mpr (by omega)
          by_cases h3 : at_ % 3 = 2
          · have c3 : (Int.tmod (at_ : Int) 3 == 2) = true := by rw [beq_iff_eq, Int.tmod_eq_emod_of_nonneg (by omega)]; omega
            by_cases hz58 : z = 58
            · have hf : fits d at_ z = true := by unfold fits; rw [if_neg h8, if_pos h3, hz58]; rfl
              obtain ⟨rfl, hfit⟩ := hgo.out hf
              subst hz58
              clear hgo hst hf
              go_wp2
              go_roundw
              case rel => exact ⟨at_ + 1, by omega, by omega, by congr 1, ⟨putO_self HI.out⟩, ⟨(putO_ne (by omega)).trans HBX.out⟩, ⟨below_putO HB.out (Nat.le_succ _) _⟩, ⟨by rw [← HF.out, HSTEP.out]; exact (formG_ok h11e hfit).symm⟩⟩
              case measure => exact meas18 (by omega) hlt
            · have hf : fits d at_ z = false := by unfold fits; rw [if_neg h8, if_pos h3]; exact beq_eq_false_iff_ne.mpr hz58
              have hF := hst.out hf
              have c4 : ((z : Int) != 58) = true := bne_iff_ne.mpr (by omega)
              subst hF
              clear hgo hst hf
              go_wp2
              go_ret
              exact ⟨rfl, by repeat (first | (with_reducible first | exact HB.out | apply below_alloc | apply pw_below_drewN | apply below_drew1 | refine below_putO ?_ (Nat.le_succ _) _) | exact HB.out)⟩
          · have c3 : (Int.tmod (at_ : Int) 3 == 2) = false := by rw [beq_eq_false_iff_ne, Int.tmod_eq_emod_of_nonneg (by omega)]; omega
            by_cases hlo : z < 48
            · have hf : fits d at_ z = false := by unfold fits; rw [if_neg h8, if_neg h3, decide_eq_false (show ¬ 48 ≤ z by omega)]; rfl
              have hF := hst.out hf
              have c4 : decide ((z : Int) < 48) = true := decide_eq_true (by omega)
              subst hF
              clear hgo hst hf
              go_wp2
              go_ret
              exact ⟨rfl, by repeat (first | (with_reducible first | exact HB.out | apply below_alloc | apply pw_below_drewN | apply below_drew1 | refine below_putO ?_ (Nat.le_succ _) _) | exact HB.out)⟩
            · have c4 : decide ((z : Int) < 48) = false := decide_eq_false (by omega)
              by_cases hhi : z ≤ 57
              · have hf : fits d at_ z = true := by unfold fits; rw [if_neg h8, if_neg h3, decide_eq_true (show 48 ≤ z by omega), decide_eq_true hhi]; rfl
                obtain ⟨rfl, hfit⟩ := hgo.out hf
                have c5 : decide (57 < (z : Int)) = false := decide_eq_false (by omega)
                clear hgo hst hf
                go_wp2
                go_roundw
                case rel => exact ⟨at_ + 1, by omega, by omega, by congr 1, ⟨putO_self HI.out⟩, ⟨(putO_ne (by omega)).trans HBX.out⟩, ⟨below_putO HB.out (Nat.le_succ _) _⟩, ⟨by rw [← HF.out, HSTEP.out]; exact (formG_ok h11e hfit).symm⟩⟩
                case measure => exact meas18 (by omega) hlt
              · have hf : fits d at_ z = false := by unfold fits; rw [if_neg h8, if_neg h3, decide_eq_false hhi, Bool.and_false]
                have hF := hst.out hf
                have c5 : decide (57 < (z : Int)) = true := decide_eq_true (by omega)
                subst hF
                clear hgo hst hf
                go_wp2
                go_ret
                exact ⟨rfl, by repeat (first | (with_reducible first | exact HB.out | apply below_alloc | apply pw_below_drewN | apply below_drew1 | refine below_putO ?_ (Nat.le_succ _) _) | exact HB.out)⟩
    · obtain rfl : at_ = s.size := by omega
      have hnext := run_next_done (P := Tryd.prog) wr (w.heap.size + 1) s s.size 0 HI.out (Nat.lt_irrefl _)
      rw [Nat.sub_self] at HF
      by_cases hl : s.size < 11
      · have hF : F = s.size := by rw [← HF.out]; show (if s.size < 11 then (s.size : Int) else -1) = _; rw [if_pos hl]
        have c1 : decide ((s.size : Int) < 11) = true := decide_eq_true (by omega)
        subst hF
        go_wp2
        go_ret
        exact ⟨rfl, by repeat (first | (with_reducible first | exact HB.out | apply below_alloc | apply pw_below_drewN | apply below_drew1 | refine below_putO ?_ (Nat.le_succ _) _) | exact HB.out)⟩
      · have hF : F = -1 := by rw [← HF.out]; show (if s.size < 11 then (s.size : Int) else -1) = _; rw [if_neg hl]
        have c1 : decide ((s.size : Int) < 11) = false := decide_eq_false (by omega)
        subst hF
        go_wp2
        go_ret
        exact ⟨rfl, by repeat (first | (with_reducible first | exact HB.out | apply below_alloc | apply pw_below_drewN | apply below_drew1 | refine below_putO ?_ (Nat.le_succ _) _) | exact HB.out)⟩
end Go.Proofs.YtjmhjhmlcjkjeaaDoor.Tab
