/- The chapter's example, walked. No conditions. -/
import Derived.Test.YtdhajlkiiphlfaaPd
import Derived.Test.YtdhajlkiiphlfaaPc
/-! the chapter's example, walked -/
namespace Go.Proofs.Ytdhajlkiiphlfaa.Par
open Go.RowKit Go.Proofs.Ytdhajlkiiphlfaa.QBaseParityWide Go.Proofs.YtdhajlkiiphlfaaW.PrintWords Go.Proofs.YtdhajlkiiphlfaaW.PrintLast Go.Proofs.YtdhajlkiiphlfaaW.PrintMore Go.Proofs.Ytdhajlkiiphlfaa.Solve
set_option linter.unusedVariables false
set_option linter.unusedSimpArgs false
def exR : List (List Int) := [[1, 0, 5], [2]]
def exM : List (List Int) := [[212, 0, 180], [48, 0, 253]]
def exX : List (List Int) := [[1, 0, 5], [2, 0, 0]]
def exG : List Bool := [true, true, false, false]
theorem ex_made : madeL exR 2 = exM := by decide +kernel
theorem ex_fits : fitsL [[7], []] (up [3, 1]) exM [0, 1] = (exG, 0) := by decide +kernel
theorem ex_out : outA [[7], []] [3, 1] exG 2 = [[0, 0, 0], [0]] := by decide +kernel
theorem ex_part : partL exG 2 2 = [[cE 0 0, cE 0 1], [cE 1 0, cE 1 1]] := by decide +kernel
theorem ex_cols : cols 2 2 0 (partL exG 2 2, vL exG 2 [[0, 0, 0], [0]] exM 2) = some exX := by decide +kernel
theorem ex_outB : outB (woL exG 2) exX [3, 1] [[0, 0, 0], [0]] 2 = exR := by decide +kernel
theorem ex_rest : restB exG 2 exM (madeL exR 2) 2 = exM := by decide +kernel
def allB (l : List (List Int)) (n m : Nat) : Bool := decide (l.length = n) && l.all fun r => decide (r.length = m) && r.all fun y => decide (0 ≤ y ∧ y < 256)
theorem sh_of {l : List (List Int)} {n m : Nat} (h : allB l n m = true) : Sh n m l := by
  unfold allB at h
  rw [Bool.and_eq_true, decide_eq_true_eq, List.all_eq_true] at h
  refine ⟨h.1, fun r hr => ?_, fun r hr y hy => ?_⟩
  · have := h.2 r hr; rw [Bool.and_eq_true] at this; exact of_decide_eq_true this.1
  · have := h.2 r hr; rw [Bool.and_eq_true, List.all_eq_true] at this; exact (of_decide_eq_true (this.2 y hy) : 0 ≤ y ∧ y < 256)
theorem ex_given : Given [[7], []] [3, 1] exM exG 2 2 3 := by
  refine ⟨rfl, rfl, rfl, rfl, by decide, by decide, rfl, ?_, ?_, ?_, ?_, ?_⟩
  · decide +kernel
  · decide +kernel
  · decide +kernel
  · intro r hr y hy
    have : ∀ r ∈ ([[7], []] : List (List Int)), ∀ y ∈ r, 0 ≤ y ∧ y < 256 := by decide +kernel
    exact this r hr y hy
  · intro r hr y hy
    have : ∀ r ∈ exM, ∀ y ∈ r, 0 ≤ y ∧ y < 256 := by decide +kernel
    exact this r hr y hy
theorem ex_used : ∀ i, i ≤ 2 → (usedL exG 2 i).length = 2 → i = 2 := by decide +kernel
theorem ex_sh : allB exX 2 3 = true ∧ allB (partL exG 2 2) 2 2 = true ∧ allB (vL exG 2 [[0, 0, 0], [0]] exM 2) 2 3 = true := by decide +kernel
theorem ex_restore (A0 A1 A2 A3 : Option Addr) (c0 c1 c2 c3 : Nat) (w : World) (hr0 : Kd.C (Kd.slice 5 (Kd.int .u8)) w A0 2 [[7], []]) (hc0 : 2 ≤ c0) (hr1 : Kd.C (Kd.int .i64) w A1 2 (up [3, 1])) (hc1 : 2 ≤ c1) (hr2 : Kd.C (Kd.slice 5 (Kd.int .u8)) w A2 2 exM) (hc2 : 2 ≤ c2) (hr3 : Kd.C (Kd.int .i64) w A3 2 [0, 1]) (hc3 : 2 ≤ c3) :
    Calls Try.prog 16 #[.slice A0 2 c0, .slice A1 2 c1, .slice A2 2 c2, .slice A3 2 c3] w fun e w' => ∃ A c, e = .returned (.tuple #[.slice A 4 c, .int .i64 0]) ∧ 4 ≤ c ∧ Kd.C (Kd.slice 5 (Kd.int .u8)) w' A 4 (exR ++ exM) ∧ Below w.heap.size w w' := by
  have h := restore_ok A0 A1 A2 A3 c0 c1 c2 c3 [[7], []] [3, 1] exM [0, 1] exG 2 2 3 w hr0 hc0 hr1 hc1 hr2 hc2 hr3 hc3 (by decide) ex_fits ex_given 2 (by decide +kernel) (by decide +kernel) [[0, 0, 0], [0]] ex_out exX
    (fun _ => ⟨sh_of ex_sh.1, fun i hi hu => by
      obtain rfl := ex_used i hi hu
      exact ⟨ex_cols, sh_of ex_sh.2.1, sh_of ex_sh.2.2⟩⟩)
  refine h.mono ?_
  rintro e w' ⟨v, hs1, hs2, b1, b2, rfl, hres, hb⟩
  rw [ex_outB, ex_rest] at hres
  obtain ⟨A, c, rfl, hc, hC⟩ := hres.reads
  exact ⟨A, c, rfl, hc, hC, hb⟩
theorem lit_row {w : World} {k : Nat} {l : List Int} (hh : w.heap[k]? = some (.cells (bytesV l) 5 (0, 0))) (hl : l.length ≤ 281474976710656) : Kd.C (Kd.int .u8) w (some ⟨k, 0, none⟩) l.length l := by
  refine ownC (k := 0) (o := 0) hl (fun _ => ⟨k, _, rfl, hh, ?_⟩)
  unfold bytesV
  rw [List.toList_toArray, ← List.map_take, List.take_length]
theorem lit_ints {w : World} {k : Nat} {l : List Int} (hh : w.heap[k]? = some (.cells (l.map (Value.int .i64)).toArray 3 (0, 0))) (hl : l.length ≤ 1000) : Kd.C (Kd.int .i64) w (some ⟨k, 0, none⟩) l.length l := by
  refine ⟨rfl, by omega, fun hp => ⟨_, rfl, fun j p hj => ⟨[.int .i64 p], rfl, rfl, fun t u hu => ?_⟩⟩⟩
  match t, hu with
  | 0, hu =>
    obtain rfl := Option.some.inj hu
    rw [show (⟨k, 0, none⟩ : Addr).add (j * (Kd.int .i64).sz + 0) = ⟨k, j, none⟩ from (add_off k 0 _).trans (by rw [Nat.zero_add]; exact congrArg (fun z => (⟨k, z, none⟩ : Addr)) (Nat.mul_one j))]
    rw [blk_cell hh]; simp [hj]
  | t + 1, hu => simp at hu
/-- a literal list of rows: its headers, and what each reads -/
theorem lit_rows {w : World} {k : Nat} {hs : List Hdr} {m : List (List Int)} (hh : w.heap[k]? = some (.cells (encs hdV hs).toArray 41 (0, 0))) (hl : hs.length = m.length) (hm : m.length ≤ 1000) (hr : ∀ (j : Nat) p, m[j]? = some p → ∃ A c, hs[j]? = some (A, p.length, c) ∧ p.length ≤ c ∧ Kd.C (Kd.int .u8) w A p.length p) : Kd.C (Kd.slice 5 (Kd.int .u8)) w (some ⟨k, 0, none⟩) m.length m := by
  refine ⟨rfl, by omega, fun hp => ⟨_, rfl, fun j p hj => ?_⟩⟩
  obtain ⟨A, c, e1, e2, e3⟩ := hr j p hj
  refine ⟨[.slice A p.length c], rfl, ⟨A, c, rfl, e2, e3⟩, fun t u hu => ?_⟩
  match t, hu with
  | 0, hu =>
    obtain rfl := Option.some.inj hu
    rw [show (⟨k, 0, none⟩ : Addr).add (j * (Kd.slice 5 (Kd.int .u8)).sz + 0) = ⟨k, j, none⟩ from (add_off k 0 _).trans (by rw [Nat.zero_add]; exact congrArg (fun z => (⟨k, z, none⟩ : Addr)) (Nat.mul_one j))]
    rw [blk_cell hh]
    unfold encs
    rw [List.getElem?_toArray, List.getElem?_map, e1]; rfl
  | t + 1, hu => simp at hu
theorem ex_make (w : World) : Calls Try.prog 15 #[.slice (some ⟨w.heap.size + 1 + 1, 0, none⟩) 2 2, .int .i64 2] (((w.alloc (Obj.cells #[Value.int IntKind.u8 1, Value.int IntKind.u8 0, Value.int IntKind.u8 5] 5)).alloc (Obj.cells #[Value.int IntKind.u8 2] 5)).alloc (Obj.cells #[Value.slice (some ⟨w.heap.size, 0, none⟩) 3 3, Value.slice (some ⟨w.heap.size + 1, 0, none⟩) 1 1] 41))
    fun e w' => ∃ g b, e = .returned (.tuple #[.slice (some ⟨g, 0, none⟩) 2 2, .int .i64 0]) ∧ Cu w' w.heap.size g b exM ∧ Below w.heap.size w w' := by
  generalize hW : (((w.alloc (Obj.cells #[Value.int IntKind.u8 1, Value.int IntKind.u8 0, Value.int IntKind.u8 5] 5)).alloc (Obj.cells #[Value.int IntKind.u8 2] 5)).alloc (Obj.cells #[Value.slice (some ⟨w.heap.size, 0, none⟩) 3 3, Value.slice (some ⟨w.heap.size + 1, 0, none⟩) 1 1] 41)) = W
  have hb : Below w.heap.size w W := by rw [← hW]; exact below_alloc (below_alloc (below_alloc (Below.refl _ _) _) _) _
  have h1 : W.heap[w.heap.size]? = some (.cells (bytesV [1, 0, 5]) 5 (0, 0)) := by rw [← hW]; exact blk_alloc (blk_alloc (blk_new _ _) _) _
  have h2 : W.heap[w.heap.size + 1]? = some (.cells (bytesV [2]) 5 (0, 0)) := by
    rw [← hW]; refine blk_alloc ?_ _; have := blk_new (w.alloc (Obj.cells #[Value.int IntKind.u8 1, Value.int IntKind.u8 0, Value.int IntKind.u8 5] 5)) (Obj.cells #[Value.int IntKind.u8 2] 5); rw [size_alloc'] at this; exact this
  have h3 : W.heap[w.heap.size + 1 + 1]? = some (.cells (encs hdV [(some ⟨w.heap.size, 0, none⟩, 3, 3), (some ⟨w.heap.size + 1, 0, none⟩, 1, 1)]).toArray 41 (0, 0)) := by
    rw [← hW]; have := blk_new ((w.alloc (Obj.cells #[Value.int IntKind.u8 1, Value.int IntKind.u8 0, Value.int IntKind.u8 5] 5)).alloc (Obj.cells #[Value.int IntKind.u8 2] 5)) (Obj.cells #[Value.slice (some ⟨w.heap.size, 0, none⟩) 3 3, Value.slice (some ⟨w.heap.size + 1, 0, none⟩) 1 1] 41); rw [size_alloc', size_alloc'] at this; exact this
  have hC := lit_rows (m := exR) h3 rfl (by decide) (fun j p hj => by
    match j, hj with
    | 0, hj => obtain rfl := Option.some.inj hj; exact ⟨_, _, rfl, Nat.le_refl _, lit_row h1 (by decide)⟩
    | 1, hj => obtain rfl := Option.some.inj hj; exact ⟨_, _, rfl, Nat.le_refl _, lit_row h2 (by decide)⟩
    | j + 2, hj => simp [exR] at hj)
  have hm := make_ok (some ⟨w.heap.size + 1 + 1, 0, none⟩) 2 exR 2 W hC (by decide) (by decide) (by decide) (by
    intro r hr y hy
    have : ∀ r ∈ exR, ∀ y ∈ r, 0 ≤ y ∧ y < 256 := by decide +kernel
    exact this r hr y hy)
  refine Calls.mono hm ?_
  intro e w' hp
  unfold MakePost at hp
  rw [if_pos (by decide +kernel), ex_made] at hp
  obtain ⟨g, b, rfl, hcu, hbb⟩ := hp
  exact ⟨g, b, rfl, hcu.base_down hb.size, below_step hb hbb⟩
theorem ex_rest2 (w : World) (g : Nat) (hL : Kd.C (Kd.slice 5 (Kd.int .u8)) w (some ⟨g, 0, none⟩) 2 exM) : Calls Try.prog 16 #[.slice (some ⟨w.heap.size + 1, 0, none⟩) 2 2, .slice (some ⟨w.heap.size + 1 + 1, 0, none⟩) 2 2, .slice (some ⟨g, 0, none⟩) 2 2, .slice (some ⟨w.heap.size + 1 + 1 + 1, 0, none⟩) 2 2]
    ((((w.alloc (Obj.cells #[Value.int IntKind.u8 7] 5)).alloc (Obj.cells #[Value.slice (some ⟨w.heap.size, 0, none⟩) 1 1, Value.slice none 0 0] 41)).alloc (Obj.cells #[Value.int IntKind.i64 3, Value.int IntKind.i64 1] 3)).alloc (Obj.cells #[Value.int IntKind.i64 0, Value.int IntKind.i64 1] 3))
    fun e w' => ∃ A c, e = .returned (.tuple #[.slice A 4 c, .int .i64 0]) ∧ 4 ≤ c ∧ Kd.C (Kd.slice 5 (Kd.int .u8)) w' A 4 (exR ++ exM) ∧ Below w.heap.size w w' := by
  generalize hW : ((((w.alloc (Obj.cells #[Value.int IntKind.u8 7] 5)).alloc (Obj.cells #[Value.slice (some ⟨w.heap.size, 0, none⟩) 1 1, Value.slice none 0 0] 41)).alloc (Obj.cells #[Value.int IntKind.i64 3, Value.int IntKind.i64 1] 3)).alloc (Obj.cells #[Value.int IntKind.i64 0, Value.int IntKind.i64 1] 3)) = W
  have hb : Below w.heap.size w W := by rw [← hW]; exact below_alloc (below_alloc (below_alloc (below_alloc (Below.refl _ _) _) _) _) _
  have h1 : W.heap[w.heap.size]? = some (.cells (bytesV [7]) 5 (0, 0)) := by rw [← hW]; exact blk_alloc (blk_alloc (blk_alloc (blk_new _ _) _) _) _
  have h2 : W.heap[w.heap.size + 1]? = some (.cells (encs hdV [(some ⟨w.heap.size, 0, none⟩, 1, 1), (none, 0, 0)]).toArray 41 (0, 0)) := by
    rw [← hW]; refine blk_alloc (blk_alloc ?_ _) _; have := blk_new (w.alloc (Obj.cells #[Value.int IntKind.u8 7] 5)) (Obj.cells #[Value.slice (some ⟨w.heap.size, 0, none⟩) 1 1, Value.slice none 0 0] 41); rw [size_alloc'] at this; exact this
  have h3 : W.heap[w.heap.size + 1 + 1]? = some (.cells (([3, 1] : List Int).map (Value.int .i64)).toArray 3 (0, 0)) := by
    rw [← hW]; refine blk_alloc ?_ _; have := blk_new ((w.alloc (Obj.cells #[Value.int IntKind.u8 7] 5)).alloc (Obj.cells #[Value.slice (some ⟨w.heap.size, 0, none⟩) 1 1, Value.slice none 0 0] 41)) (Obj.cells #[Value.int IntKind.i64 3, Value.int IntKind.i64 1] 3); rw [size_alloc', size_alloc'] at this; exact this
  have h4 : W.heap[w.heap.size + 1 + 1 + 1]? = some (.cells (([0, 1] : List Int).map (Value.int .i64)).toArray 3 (0, 0)) := by
    rw [← hW]; have := blk_new (((w.alloc (Obj.cells #[Value.int IntKind.u8 7] 5)).alloc (Obj.cells #[Value.slice (some ⟨w.heap.size, 0, none⟩) 1 1, Value.slice none 0 0] 41)).alloc (Obj.cells #[Value.int IntKind.i64 3, Value.int IntKind.i64 1] 3)) (Obj.cells #[Value.int IntKind.i64 0, Value.int IntKind.i64 1] 3); rw [size_alloc', size_alloc', size_alloc'] at this; exact this
  have hC := lit_rows (m := [[7], []]) h2 rfl (by decide) (fun j p hj => by
    match j, hj with
    | 0, hj => obtain rfl := Option.some.inj hj; exact ⟨_, _, rfl, Nat.le_refl _, lit_row h1 (by decide)⟩
    | 1, hj => obtain rfl := Option.some.inj hj; exact ⟨_, _, rfl, Nat.le_refl _, rfl, by decide, fun hp => absurd hp (by decide)⟩
    | j + 2, hj => simp at hj)
  have h := ex_restore (some ⟨w.heap.size + 1, 0, none⟩) (some ⟨w.heap.size + 1 + 1, 0, none⟩) (some ⟨g, 0, none⟩) (some ⟨w.heap.size + 1 + 1 + 1, 0, none⟩) 2 2 2 2 W hC (by decide) (lit_ints h3 (by decide)) (by decide) (Kd.C_below hL hb) (by decide) (lit_ints h4 (by decide)) (by decide)
  refine Calls.mono h ?_
  rintro e w' ⟨A, c, rfl, hc, hR, hbb⟩
  exact ⟨A, c, rfl, hc, hR, below_step hb hbb⟩
theorem cell_facts {w1 w2 : World} {base g b : Nat} {A : Option Addr} (hcu : Cu w1 base g b exM) (hC : Kd.C (Kd.slice 5 (Kd.int .u8)) w2 A 4 (exR ++ exM)) (hb : Below w1.heap.size w1 w2) :
    ∃ o0 o1 am, A = some am ∧ ∃ B0 d0 B1 d1, w2.cell? ⟨g, 0, none⟩ = some (.slice (some ⟨b, o0, none⟩) 3 3) ∧ w2.cell? ⟨g, 1, none⟩ = some (.slice (some ⟨b, o1, none⟩) 3 3) ∧ Kd.C (Kd.int .u8) w2 (some ⟨b, o0, none⟩) 3 [212, 0, 180] ∧ Kd.C (Kd.int .u8) w2 (some ⟨b, o1, none⟩) 3 [48, 0, 253] ∧
      w2.cell? (am.add 0) = some (.slice B0 3 d0) ∧ w2.cell? (am.add 1) = some (.slice B1 1 d1) ∧ Kd.C (Kd.int .u8) w2 B0 3 [1, 0, 5] ∧ Kd.C (Kd.int .u8) w2 B1 1 [2] := by
  have hcu2 := hcu.below hb
  obtain ⟨o0, a1, _, a2⟩ := hcu2.head (i := 0) (r := [212, 0, 180]) rfl
  obtain ⟨o1, a3, _, a4⟩ := hcu2.head (i := 1) (r := [48, 0, 253]) rfl
  obtain ⟨am, B0, d0, rfl, b1, _, b2⟩ := at_L2 hC 0 (by decide) (by decide)
  obtain ⟨am', B1, d1, e, b3, _, b4⟩ := at_L2 hC 1 (by decide) (by decide)
  cases e
  exact ⟨o0, o1, am, rfl, B0, d0, B1, d1, a1, a3, hcu2.rowC (i := 0) rfl a2, hcu2.rowC (i := 1) rfl a4, b1, b3, b2, b4⟩
set_option maxHeartbeats 800000 in
set_option maxRecDepth 100000 in
theorem awake_calls (w : World) : Calls Try.prog 9 #[] w fun e w' => e = .returned (.bool true) ∧ Below w.heap.size w w' := by
  go_enter Try.func9, Try.ntmps9
  go_wp2_with (first
    | (go_at_call 15; (with_reducible refine (ex_make w).mono ?_); rintro e w1 ⟨g, b, rfl, hcu, hb⟩; have HL2 := Aside0.mk (show Kd.C (Kd.slice 5 (Kd.int .u8)) w1 (some ⟨g, 0, none⟩) 2 exM from hcu.reads); have HCU := Aside0.mk hcu; have HB1 := Aside0.mk hb; clear hcu hb)
    | (go_at_call 16; (with_reducible refine (ex_rest2 w1 g HL2.out).mono ?_); rintro e w2 ⟨A, c, rfl, hc, hC, hb⟩; have HC2 := Aside0.mk hC; have HB2 := Aside0.mk hb; have hf := cell_facts HCU.out hC hb; obtain ⟨o0, o1, am, hA, B0, d0, B1, d1, f1, f2, f3, f4, f5, f6, f7, f8⟩ := hf; subst hA; have f50 : w2.cell? am = some (.slice B0 3 d0) := f5; have f60 : w2.cell? { block := am.block, off := am.off + 1 } = some (.slice B1 1 d1) := f6; have hcv1 := Kd.C_string (P := Try.prog) (A := some ⟨b, o0, none⟩) (c := 3) Try.underlying41 Try.underlying5 Try.underlying9 f3; rw [show strOfNums [212, 0, 180] = (⟨#[212, 0, 180]⟩ : ByteArray) from by decide +kernel] at hcv1; have hcv2 := Kd.C_string (P := Try.prog) (A := some ⟨b, o1, none⟩) (c := 3) Try.underlying41 Try.underlying5 Try.underlying9 f4; rw [show strOfNums [48, 0, 253] = (⟨#[48, 0, 253]⟩ : ByteArray) from by decide +kernel] at hcv2; have hcv3 := Kd.C_string (P := Try.prog) (A := B0) (c := d0) Try.underlying41 Try.underlying5 Try.underlying9 f7; rw [show strOfNums [1, 0, 5] = (⟨#[1, 0, 5]⟩ : ByteArray) from by decide +kernel] at hcv3; have hcv4 := Kd.C_string (P := Try.prog) (A := B1) (c := d1) Try.underlying41 Try.underlying5 Try.underlying9 f8; rw [show strOfNums [2] = (⟨#[2]⟩ : ByteArray) from by decide +kernel] at hcv4; clear hc hC hb f3 f4 f7 f8))
  have HB3 := Aside0.mk (below_step HB1.out HB2.out)
  go_ret
  exact ⟨rfl, HB3.out⟩
end Go.Proofs.Ytdhajlkiiphlfaa.Par
