/- What a name tells, taken by the count, is the frame's place, and near the clock: for every input the law TimecodeClock is true. No conditions. -/
import Derived.Test.YtjmhjhmlcjkjeaaDoorClock18
namespace Go.Proofs.YtjmhjhmlcjkjeaaDoor.Pure
set_option linter.unusedVariables false
open Go.RowKit Go.Proofs.YtjmhjhmlcjkjeaaDoorW.PrintWords Go.Proofs.YtjmhjhmlcjkjeaaDoorW.PrintLast Go.Proofs.YtjmhjhmlcjkjeaaDoor.TQUTimecodeNumbers
open Go.Proofs.YtjmhjhmlcjkjeaaDoor.QUTimecodeNumbers
open Go.Proofs.YtjmhjhmlcjkjeaaDoor (Tab.row)
theorem pow_eq (a b : Nat) (h : a = b) : 2 ^ a = 2 ^ b := by rw [h]
theorem rate_nums {p : Nat} (h1 : 1 ≤ p) (h7 : p ≤ 7) : ∃ mm ee : Nat, (Tab.row p).2.1 = (mm : Int) ∧ (Tab.row p).2.2.1 = (ee : Int) ∧
    ((dn p = 0 ∧ mm = cn p ∧ ee = 1 ∧ p ≠ 4 ∧ p ≠ 7 ∧ (cn p = 24 ∨ cn p = 25 ∨ cn p = 30 ∨ cn p = 50 ∨ cn p = 60)) ∨ (ee = 1001 ∧ (p = 4 ∨ p = 7) ∧ ((cn p = 30 ∧ dn p = 2 ∧ mm = 30000) ∨ (cn p = 60 ∧ dn p = 4 ∧ mm = 60000)))) := by
  refine ⟨(Tab.row p).2.1.toNat, (Tab.row p).2.2.1.toNat, ?_⟩
  rcases seven h1 h7 with rfl | rfl | rfl | rfl | rfl | rfl | rfl <;> decide
theorem cn_eq {p : Nat} (h1 : 1 ≤ p) (h7 : p ≤ 7) : ((p : Int) = 1 ∧ (cn p : Int) = 24) ∨ ((p : Int) = 2 ∧ (cn p : Int) = 25) ∨ ((p : Int) = 3 ∧ (cn p : Int) = 30) ∨ ((p : Int) = 4 ∧ (cn p : Int) = 30) ∨ ((p : Int) = 5 ∧ (cn p : Int) = 50) ∨ ((p : Int) = 6 ∧ (cn p : Int) = 60) ∨ ((p : Int) = 7 ∧ (cn p : Int) = 60) := by
  rcases seven h1 h7 with rfl | rfl | rfl | rfl | rfl | rfl | rfl <;> decide
theorem drift30 (n : Nat) (h : n < 2589408) : n ≤ 1000 * drp 30 2 n + 4390 ∧ 1000 * drp 30 2 n ≤ n + 4390 := by
  have e : drp 30 2 n = (9 * (n / 17982) + if 1800 ≤ n % 17982 then 1 + (n % 17982 - 1800) / 1798 else 0) * 2 := rfl
  rw [e]
  split <;> omega
theorem drift60 (n : Nat) (h : n < 5178816) : n ≤ 1000 * drp 60 4 n + 8780 ∧ 1000 * drp 60 4 n ≤ n + 8780 := by
  have e : drp 60 4 n = (9 * (n / 35964) + if 3600 ≤ n % 35964 then 1 + (n % 35964 - 3600) / 3596 else 0) * 4 := rfl
  rw [e]
  split <;> omega
theorem pt_two {s : ByteArray} {i x : Nat} (h0 : Tab.by_ s i = 48 + x / 10) (h1 : Tab.by_ s (i + 1) = 48 + x % 10) : Tab.pt s i = (x : Int) := by
  unfold Tab.pt; rw [h0, h1]; omega
theorem wi {x y : Int} (h : wrap64 x = y) : IntKind.i64.wrap x = y := (i64_w x).trans h
theorem clock_true (a0 a1 : Int) (r0 : -9223372036854775808 ≤ a0 ∧ a0 ≤ 9223372036854775807) (r1 : -9223372036854775808 ≤ a1 ∧ a1 ≤ 9223372036854775807) (w : World) (hG : Tab.TabAt w) :
    Calls Tryd.prog 6 #[.int .i64 a0, .int .i64 a1] w fun e w' => e = .returned (.bool true) ∧ Below w.heap.size w w' := by
  obtain ⟨q, eq, q0, q7⟩ := Clock18.place_f a0 7 r0.1 r0.2 (by decide)
  obtain ⟨p, hp⟩ : ∃ p : Nat, (p : Int) = 1 + q := ⟨(1 + q).toNat, by omega⟩
  have h1 : 1 ≤ p := by omega
  have h7 : p ≤ 7 := by omega
  have hdr := day_range h1 h7
  obtain ⟨m', em, m0, m1⟩ := Clock18.place_f a1 (day p) r1.1 r1.2 (by omega)
  obtain ⟨n, rfl⟩ : ∃ n : Nat, m' = (n : Int) := ⟨m'.toNat, by omega⟩
  have hcd := cd_range h1 h7
  have hday := day_n h1 h7
  have hlt : n + drp (cn p) (dn p) n < 86400 * cn p := place_lt (cn p) (dn p) n ⟨hcd.1, hcd.2.1⟩ hcd.2.2.2 (by rw [hday] at m1; omega)
  obtain ⟨mm, ee, hmm, hee, hcase⟩ := rate_nums h1 h7
  obtain ⟨out, hout⟩ : ∃ out, out = drp (cn p) (dn p) n := ⟨_, rfl⟩
  obtain ⟨N, hN⟩ : ∃ N, N = n + out := ⟨_, rfl⟩
  have hname := name_f h1 h7 n m1
  rw [← hout, ← hN] at hname
  rw [← hout, ← hN] at hlt
  have hcpos : 0 < cn p := by omega
  have hS : N / cn p < 86400 := Nat.div_lt_of_lt_mul (by rw [Nat.mul_comm]; exact hlt)
  have hF : N % cn p < cn p := Nat.mod_lt _ hcpos
  have dm := Nat.div_add_mod N (cn p)
  have hmk : mkn p < 256 := by unfold mkn; split <;> decide
  obtain ⟨b0, b1, b2, b3, b4, b5, b6, b7, b8, b9, b10⟩ := by_name hmk hS (show N % cn p < 100 by omega)
  have hsz := nameS_size (mkn p) (cn p) N
  have hof : timecode_of.f (p : Int) (n : Int) = some ((Tab.row p).1, (Tab.row p).2.1, (Tab.row p).2.2.1, (Tab.row p).2.2.2, 0) := by
    unfold timecode_of.f
    rw [find_f h1 h7, Option.bind_some]
    show (if true = true then (if (n : Int) < 0 then some (0, 0, 0, 0, 184) else ((timecode_rate_perDay.f (Tab.row p).1 (Tab.row p).2.1 (Tab.row p).2.2.1 (Tab.row p).2.2.2).bind fun t118 => (if (n : Int) ≥ t118 then (some (0, 0, 0, 0, 184)) else (some ((Tab.row p).1, (Tab.row p).2.1, (Tab.row p).2.2.1, (Tab.row p).2.2.2, 0))))) else _) = _
    rw [if_pos rfl, if_neg (by omega), perDay_f h1 h7, Option.bind_some, if_neg (by omega)]
  have hd : timecode_Dropped.f (p : Int) (n : Int) = some ((out : Int), 0) := by
    unfold timecode_Dropped.f
    rw [hof, Option.bind_some]
    show (if (0 : Int) = 0 then ((timecode_rate_dropped.f (Tab.row p).1 (Tab.row p).2.1 (Tab.row p).2.2.1 (Tab.row p).2.2.2 (n : Int)).bind _) else _) = _
    rw [if_pos rfl, dropped_f h1 h7 n (by omega), hout]; rfl
  generalize hSS : nameS (mkn p) (cn p) N = S at hname b0 b1 b2 b3 b4 b5 b6 b7 b8 b9 b10 hsz
  clear hSS
  obtain ⟨sec, hsec⟩ : ∃ sec, sec = N / cn p := ⟨_, rfl⟩
  obtain ⟨f, hf⟩ : ∃ f, f = N % cn p := ⟨_, rfl⟩
  rw [← hsec] at hS b0 b1 b3 b4 b6 b7 dm
  rw [← hf] at hF b9 b10 dm
  have v0 := Clock18.value_f (s := S) (i := 0) 0 rfl (by omega) (by decide) (by rw [b0]; omega) (by rw [b1]; omega)
  have v3 := Clock18.value_f (s := S) (i := 3) 3 rfl (by omega) (by decide) (by rw [b3]; omega) (by rw [b4]; omega)
  have v6 := Clock18.value_f (s := S) (i := 6) 6 rfl (by omega) (by decide) (by rw [b6]; omega) (by rw [b7]; omega)
  have v9 := Clock18.value_f (s := S) (i := 9) 9 rfl (by omega) (by decide) (by rw [b9]; omega) (by rw [b10]; omega)
  rw [pt_two (i := 0) (x := sec / 3600) b0 b1] at v0
  rw [pt_two (i := 3) (x := sec / 60 % 60) b3 b4] at v3
  rw [pt_two (i := 6) (x := sec % 60) b6 b7] at v6
  rw [pt_two (i := 9) (x := f) b9 b10] at v9
  have hn2 : n < 5184000 := by omega
  -- the floats
  obtain ⟨K, hK⟩ : ∃ K : Nat, K = 1074 := ⟨_, rfl⟩
  have hle : n * ee < 8589934592 ∧ n * ee ≤ 86487 * mm ∧ 16 ≤ mm ∧ mm < 131072 := by
    rw [hday] at m1
    rcases hcase with ⟨c1, c2, c3, -, -, c6⟩ | ⟨c1, -, ⟨c3, c4, c5⟩ | ⟨c3, c4, c5⟩⟩
    · rw [c1] at m1; subst c2 c3; omega
    · rw [c3, c4] at m1; subst c1 c5; omega
    · rw [c3, c4] at m1; subst c1 c5; omega
  obtain ⟨q1, q2, tt, far, y1, y2, y3, v, g1, g2, g3, g4, gI, ga, gb, gc, gd⟩ := Fl.far_core K hK (cn p) mm ee n sec f hle.1 ⟨hle.2.2.1, hle.2.2.2⟩ ⟨by omega, by omega⟩ hF hS hle.2.1
  have hQ := Nat.pow_le_pow_right (show 0 < 2 by decide) (show K - 35 ≤ K - 22 by omega)
  have hQ52 := pow_eq (K - 22) 1052 (by omega)
  have hU := Fl.pw_split K 22 (K - 22) 4194304 (by omega) (by decide)
  have hfin : ((p : Int) ≠ 4 ∧ (p : Int) ≠ 7 → (out : Int) = 0 ∧ FloatKind.f64.format.order far 4517329193108106637 = some .lt ∧ FloatKind.f64.format.order far 13740701229962882445 = some .gt) ∧
      ((p : Int) = 4 ∨ (p : Int) = 7 → FloatKind.f64.format.order far 4594572339843380019 = some .lt ∧ FloatKind.f64.format.order far 13817944376698155827 = some .gt) := by
    rcases hcase with ⟨c1, c2, c3, c4, c5, c6⟩ | ⟨c1, c2, c3⟩
    · refine ⟨fun _ => ?_, fun h => by omega⟩
      have ho : out = 0 := by rw [hout, c1]; exact Nat.mul_zero _
      subst c2 c3
      have hb := Fl.fin0 (cn p) n sec f y1 y2 _ _ _ y3 v c6 hQ (by omega) ga.1 ga.2 gb.1 gb.2 gc.1 gc.2 gd.1 gd.2
      rw [hQ52] at hb
      exact ⟨by rw [ho]; rfl, Fl.in6 gI hb.1 hb.2⟩
    · refine ⟨fun h => by omega, fun _ => ?_⟩
      subst c1
      obtain ⟨D, hD, k1, k2⟩ : ∃ D, ((cn p = 30 ∧ mm = 30000 ∧ D = 4390) ∨ (cn p = 60 ∧ mm = 60000 ∧ D = 8780)) ∧ n ≤ 1000 * out + D ∧ 1000 * out ≤ n + D := by
        rw [hday] at m1
        rcases c3 with ⟨c3, c4, c5⟩ | ⟨c3, c4, c5⟩
        · rw [c3, c4] at m1
          rw [c3, c4] at hout
          have := drift30 n (by omega)
          rw [← hout] at this
          exact ⟨4390, .inl ⟨c3, c5, rfl⟩, this.1, this.2⟩
        · rw [c3, c4] at m1
          rw [c3, c4] at hout
          have := drift60 n (by omega)
          rw [← hout] at this
          exact ⟨8780, .inr ⟨c3, c5, rfl⟩, this.1, this.2⟩
      have hb := Fl.fin1 (cn p) mm D n out sec f y1 y2 _ _ _ y3 v hD hU hQ (by omega) k1 k2 ga.1 ga.2 gb.1 gb.2 gc.1 gc.2 gd.1 gd.2
      rw [hQ52] at hb
      exact Fl.in15 gI hb.1 hb.2
  have hw : wrap64 ((n : Int) * (ee : Int)) = ((n * ee : Nat) : Int) := by rw [w64 (by have := hle.1; rw [← Int.natCast_mul]; omega) (by have := hle.1; rw [← Int.natCast_mul]; omega), Int.natCast_mul]
  have hcs : cn p * sec ≤ 60 * 86400 := Nat.mul_le_mul hcd.2.1 (by omega)
  have hsecs := fun w (hG : Tab.TabAt w) => Tab.secs_ok (p : Int) (n : Int) _ _ _ _ q1 w hG hof (by rw [hee, hmm, hw]; exact g1)
  have hP : timecode_PerDay.f (p : Int) = some (day p, 0) := Clock18.perDay h1 h7
  have hr1 : IntKind.i64.wrap (1 + q) = (p : Int) := wi (by rw [w64 (by omega) (by omega)]; exact hp.symm)
  have t1 : IntKind.i64.wrap (3600 * ((sec / 3600 : Nat) : Int)) = ((3600 * (sec / 3600) : Nat) : Int) := wi (by rw [w64 (by omega) (by omega)]; omega)
  have t2 : IntKind.i64.wrap (60 * ((sec / 60 % 60 : Nat) : Int)) = ((60 * (sec / 60 % 60) : Nat) : Int) := wi (by rw [w64 (by omega) (by omega)]; omega)
  have t3 : IntKind.i64.wrap (((3600 * (sec / 3600) : Nat) : Int) + ((60 * (sec / 60 % 60) : Nat) : Int)) = ((3600 * (sec / 3600) + 60 * (sec / 60 % 60) : Nat) : Int) := wi (by rw [w64 (by omega) (by omega)]; omega)
  have t4 : IntKind.i64.wrap (((3600 * (sec / 3600) + 60 * (sec / 60 % 60) : Nat) : Int) + ((sec % 60 : Nat) : Int)) = (sec : Int) := wi (by rw [w64 (by omega) (by omega)]; omega)
  have t5 : IntKind.i64.wrap ((n : Int) + (out : Int)) = (N : Int) := wi (by rw [w64 (by omega) (by omega)]; omega)
  have t6 : IntKind.i64.wrap ((cn p : Int) * (sec : Int)) = ((cn p * sec : Nat) : Int) := wi (by rw [← Int.natCast_mul, w64 (by omega) (by omega)])
  have t7 : IntKind.i64.wrap (((cn p * sec : Nat) : Int) + (f : Int)) = (N : Int) := wi (by rw [w64 (by omega) (by omega)]; omega)
  exact Clock18.clock_calls a0 a1 q p (day p) n out (cn p) _ _ _ _ _ _ _ sec _ N 0 S q1 q2 tt far w hG eq hr1 hP (by omega) em hname hd hsecs hsz v0 v3 v6 v9 t1 t2 t3 t4 t5 t6 t7 g2 g3 g4 (cn_eq h1 h7) hfin
end Go.Proofs.YtjmhjhmlcjkjeaaDoor.Pure
