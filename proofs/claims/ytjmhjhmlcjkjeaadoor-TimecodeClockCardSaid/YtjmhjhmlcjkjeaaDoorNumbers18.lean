/- A part of a proof: see the text's own remark. No conditions beyond its theorems' own. -/
import Derived.Test.YtjmhjhmlcjkjeaaDoorSecs18
/-! the law TimecodeNumbers, walked -/
namespace Go.Proofs.YtjmhjhmlcjkjeaaDoor.Tab
open Go.RowKit Go.Proofs.YtjmhjhmlcjkjeaaDoorW.PrintWords Go.Proofs.YtjmhjhmlcjkjeaaDoorW.PrintLast Go.Proofs.YtjmhjhmlcjkjeaaDoorW.PrintMore Go.Proofs.YtjmhjhmlcjkjeaaDoor.QUTimecodeNumbers
set_option linter.unusedVariables false
set_option linter.unusedSimpArgs false
set_option maxHeartbeats 4000000 in
set_option maxRecDepth 100000 in
theorem numbers_calls (k : Nat) (r n : Int) (p1 p2 : Int) (s : ByteArray) (er : Int) (o1 : Int) (q : Nat) (w : World) (hG : TabAt w)
    (hp : timecode_PerDay.f r = some (p1, p2)) (rp : dailiesref18_PerDay.f k r = some (p1, p2)) (hn : timecode_Name.f r n = some (s, er)) (rn : dailiesref18_Name.f k r n = some (s, er)) (hd : timecode_Dropped.f r n = some (o1, er)) (rd_ : dailiesref18_Dropped.f k r n = some (o1, er))
    (hs : ∀ w, TabAt w → Calls Tryd.prog 20 #[.int .i64 r, .int .i64 n] w fun e w' => e = .returned (.tuple #[.float .f64 q, .int .i64 er]) ∧ Below w.heap.size w w') (rs : ∀ w, Calls Tryd.prog 21 #[.int .i64 r, .int .i64 n] w fun e w' => e = .returned (.tuple #[.float .f64 q, .int .i64 er]) ∧ Drawn0 w w') (hq : Ieee.double.order q q = some .eq) :
    Calls Tryd.prog 5 #[.int .i64 r, .int .i64 n] w fun e w' => e = .returned (.bool true) ∧ Below w.heap.size w w' := by
  have HP := Aside0.mk hp
  have RP := Aside0.mk rp
  have HN := Aside0.mk hn
  have RN := Aside0.mk rn
  have HD := Aside0.mk hd
  have RD := Aside0.mk rd_
  have HS := Aside0.mk hs
  have RS := Aside0.mk rs
  have HQ := Aside0.mk hq
  clear hp rp hn rn hd rd_ hs rs hq
  go_enter Tryd.func5, Tryd.ntmps5
  go_wp2_with (fail)
  refine (shown_calls _ hG).mono ?_
  rintro e w1 ⟨rfl, hb1⟩
  have HB1 := Aside0.mk hb1
  clear hb1
  go_wp2_with (fail)
  refine (timecode_PerDay.calls r p1 p2 _ (hG.below HB1.out) HP.out).mono ?_
  rintro e w2 ⟨rfl, hb2⟩
  have HB2 := Aside0.mk (below_step HB1.out hb2)
  clear hb2 HB1
  go_wp2_with (fail)
  refine (dailiesref18_PerDay.calls k r p1 p2 _ RP.out).mono ?_
  rintro e w' ⟨rfl, ⟨n1, rfl⟩⟩
  have HB3 := Aside0.mk (pw_below_drewN HB2.out n1)
  go_wp2_with (fail)
  refine (timecode_Name.calls r n s er _ (hG.below HB3.out) HN.out).mono ?_
  rintro e w3 ⟨rfl, hb4⟩
  have HB4 : Aside0 (Below w.heap.size w w3) := ⟨below_step HB3.out hb4⟩
  clear hb4 HB3 HB2
  go_wp2_with (fail)
  refine (dailiesref18_Name.calls k r n s er _ RN.out).mono ?_
  rintro e w5 ⟨rfl, hb5⟩
  have HB5 : Aside0 (Below w.heap.size w w5) := ⟨below_step HB4.out hb5⟩
  clear hb5 HB4
  go_wp2_with (fail)
  refine (timecode_Dropped.calls r n o1 er _ (hG.below HB5.out) HD.out).mono ?_
  rintro e w6 ⟨rfl, hb6⟩
  have HB6 : Aside0 (Below w.heap.size w w6) := ⟨below_step HB5.out hb6⟩
  clear hb6 HB5
  go_wp2_with (fail)
  refine (dailiesref18_Dropped.calls k r n o1 er _ RD.out).mono ?_
  rintro e w' ⟨rfl, ⟨n2, rfl⟩⟩
  have HB7 := Aside0.mk (pw_below_drewN HB6.out n2)
  go_wp2_with (fail)
  refine (HS.out _ (hG.below HB7.out)).mono ?_
  rintro e w8 ⟨rfl, hb8⟩
  have HB8 : Aside0 (Below w.heap.size w w8) := ⟨below_step HB7.out hb8⟩
  clear hb8 HB7 HB6
  go_wp2_with (fail)
  refine (RS.out _).mono ?_
  rintro e w' ⟨rfl, ⟨n3, rfl⟩⟩
  have z1 : (p1 == p1) = true := beq_self_eq_true _
  have z2 : (p2 == p2) = true := beq_self_eq_true _
  have z3 : (s.toList == s.toList) = true := beq_self_eq_true _
  have z4 : (er == er) = true := beq_self_eq_true _
  have z5 : (o1 == o1) = true := beq_self_eq_true _
  have z6 : (FloatKind.f64.format.order q q == some .eq) = true := by
    have : FloatKind.f64.format.order q q = some .eq := HQ.out
    rw [this]; rfl
  clear HP RP HN RN HD RD HS RS HQ hG
  go_wp2
  go_ret
  exact ⟨rfl, pw_below_drewN HB8.out _⟩
end Go.Proofs.YtjmhjhmlcjkjeaaDoor.Tab
